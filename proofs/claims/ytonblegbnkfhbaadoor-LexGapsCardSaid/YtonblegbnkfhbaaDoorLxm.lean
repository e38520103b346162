/-
  The lexer as plain functions on lists of bytes (no program in sight).
-/
import GoSem.Core.Utf8
namespace Go.Proofs.YtonblegbnkfhbaaDoor
set_option linter.unusedSimpArgs false
set_option linter.unusedVariables false
namespace Lx

def isLetter (c : UInt8) : Bool := c.toNat = 95 || (97 ≤ (c ||| 32).toNat && (c ||| 32).toNat ≤ 122)
def isDigit (c : UInt8) : Bool := 48 ≤ c.toNat && c.toNat ≤ 57
def isBlank (c : UInt8) : Bool := c.toNat = 32 || c.toNat = 9 || c.toNat = 10 || c.toNat = 13 || c.toNat = 44
def cont (c : UInt8) : Bool := 128 ≤ c.toNat && c.toNat < 192

/-- The rune at the beginning, and its bytes; 0 bytes: there is none. -/
def rune : List UInt8 → Nat × Nat
  | [] => (0, 0)
  | c :: l =>
    if c.toNat < 128 then (c.toNat, 1) else
    match l with
    | [] => (0, 0)
    | d :: l =>
      if 192 ≤ c.toNat ∧ c.toNat < 224 ∧ cont d then
        (if 128 ≤ (c.toNat - 192) * 64 + (d.toNat - 128) then ((c.toNat - 192) * 64 + (d.toNat - 128), 2) else (0, 0)) else
      match l with
      | [] => (0, 0)
      | e :: l =>
        if 224 ≤ c.toNat ∧ c.toNat < 240 ∧ cont d ∧ cont e then
          (if 2048 ≤ (c.toNat - 224) * 4096 + (d.toNat - 128) * 64 + (e.toNat - 128) ∧ ((c.toNat - 224) * 4096 + (d.toNat - 128) * 64 + (e.toNat - 128) < 55296 ∨ 57343 < (c.toNat - 224) * 4096 + (d.toNat - 128) * 64 + (e.toNat - 128)) then ((c.toNat - 224) * 4096 + (d.toNat - 128) * 64 + (e.toNat - 128), 3) else (0, 0)) else
        match l with
        | [] => (0, 0)
        | f :: _ =>
          if 240 ≤ c.toNat ∧ c.toNat < 248 ∧ cont d ∧ cont e ∧ cont f then
            (if 65536 ≤ (c.toNat - 240) * 262144 + (d.toNat - 128) * 4096 + (e.toNat - 128) * 64 + (f.toNat - 128) ∧ (c.toNat - 240) * 262144 + (d.toNat - 128) * 4096 + (e.toNat - 128) * 64 + (f.toNat - 128) ≤ 1114111 then ((c.toNat - 240) * 262144 + (d.toNat - 128) * 4096 + (e.toNat - 128) * 64 + (f.toNat - 128), 4) else (0, 0)) else
          (0, 0)

theorem rune_len (l : List UInt8) : (rune l).2 ≤ l.length := by
  unfold rune
  repeat' split
  all_goals simp_all
theorem rune_le4 (l : List UInt8) : (rune l).2 ≤ 4 := by
  unfold rune
  repeat' split
  all_goals simp_all
theorem rune_max (l : List UInt8) : (rune l).1 ≤ 1114111 := by
  unfold rune
  repeat' split
  all_goals simp_all [cont]
  all_goals omega

/-- A remark, from behind its sign on. -/
def remark (l : List UInt8) : List UInt8 × Bool :=
  match l with
  | [] => ([], true)
  | c :: t =>
    if c.toNat = 10 ∨ c.toNat = 13 then (c :: t, true)
    else if (rune (c :: t)).2 = 0 ∨ ((rune (c :: t)).1 < 32 ∧ (rune (c :: t)).1 ≠ 9) then (c :: t, false)
    else remark ((c :: t).drop (rune (c :: t)).2)
termination_by l.length
decreasing_by simp only [List.length_drop, List.length_cons]; omega

theorem remark_le (l : List UInt8) : (remark l).1.length ≤ l.length := by
  induction l using remark.induct with
  | case1 => simp [remark]
  | case2 c t h => rw [remark, if_pos h]; simp
  | case3 c t h1 h2 => rw [remark, if_neg h1, if_pos h2]; simp
  | case4 c t h1 h2 ih => rw [remark, if_neg h1, if_neg h2]; simp only [List.length_drop] at ih; omega

def bom (l : List UInt8) : Bool := l.take 3 = [239, 187, 191]

/-- What stands between tokens; 'first': at the text's beginning. -/
def gap (first : Bool) (l : List UInt8) : List UInt8 × Bool :=
  match l with
  | [] => ([], true)
  | c :: t =>
    if isBlank c then gap false t
    else if first ∧ bom (c :: t) then gap false ((c :: t).drop 3)
    else if c.toNat = 35 then
      (if (remark t).2 then gap false (remark t).1 else ((remark t).1, false))
    else (c :: t, true)
termination_by l.length
decreasing_by
  · simp
  · simp; omega
  · have := remark_le t; simp; omega

def hd (l : List UInt8) : UInt8 := l.headD 0
def digits (l : List UInt8) : List UInt8 := l.dropWhile isDigit

/-- Behind a number. -/
def numEnd (r : Nat × List UInt8) : Option (Nat × List UInt8) :=
  if (hd r.2).toNat = 46 ∨ isLetter (hd r.2) ∨ isDigit (hd r.2) then none else some r
/-- The exponent. -/
def numExp (r : Nat × List UInt8) : Option (Nat × List UInt8) :=
  if ((hd r.2) ||| 32).toNat = 101 then
    (let l1 := r.2.drop 1
     let l2 := if (hd l1).toNat = 43 ∨ (hd l1).toNat = 45 then l1.drop 1 else l1
     if (digits l2).length = l2.length then none else numEnd (3, digits l2))
  else numEnd r
/-- The fraction. -/
def numFrac (l : List UInt8) : Option (Nat × List UInt8) :=
  if (hd l).toNat = 46 then
    (if (digits (l.drop 1)).length = (l.drop 1).length then none else numExp (3, digits (l.drop 1)))
  else numExp (2, l)
/-- A number: its kind, what stands behind it. -/
def number (l : List UInt8) : Option (Nat × List UInt8) :=
  let l1 := if (hd l).toNat = 45 then l.drop 1 else l
  if (digits l1).length = l1.length ∨ ((hd l1).toNat = 48 ∧ 1 < l1.length - (digits l1).length) then none
  else numFrac (digits l1)

/-- A hexadecimal digit. -/
def hexv (c : UInt8) : Option Nat :=
  if 48 ≤ c.toNat ∧ c.toNat ≤ 57 then some (c.toNat - 48)
  else if 97 ≤ c.toNat ∧ c.toNat ≤ 102 then some (c.toNat - 87)
  else if 65 ≤ c.toNat ∧ c.toNat ≤ 70 then some (c.toNat - 55)
  else none
/-- Four of them, from a number on. -/
def hexs : Nat → Nat → List UInt8 → Option Nat
  | 0, r, _ => some r
  | _ + 1, _, [] => none
  | k + 1, r, c :: l => match hexv c with
    | none => none
    | some v => hexs k (r * 16 + v) l
def hex (l : List UInt8) : Option Nat := hexs 4 0 l

/-- A rune's bytes. -/
def enc (r : Nat) : List UInt8 :=
  if r < 128 then [r.toUInt8]
  else if r < 2048 then [(192 + r / 64).toUInt8, (128 + r % 64).toUInt8]
  else if r < 65536 then [(224 + r / 4096).toUInt8, (128 + r / 64 % 64).toUInt8, (128 + r % 64).toUInt8]
  else [(240 + r / 262144).toUInt8, (128 + r / 4096 % 64).toUInt8, (128 + r / 64 % 64).toUInt8, (128 + r % 64).toUInt8]

/-- What an escape of one sign means. -/
def esc (c : UInt8) : Option UInt8 :=
  if c.toNat = 34 then some 34 else if c.toNat = 92 then some 92 else if c.toNat = 47 then some 47 else if c.toNat = 98 then some 8
  else if c.toNat = 102 then some 12 else if c.toNat = 110 then some 10 else if c.toNat = 114 then some 13 else if c.toNat = 116 then some 9 else none

/-- A string from behind its first quote on: what it means, what stands behind it. -/
def text (out l : List UInt8) : Option (List UInt8 × List UInt8) :=
  match l with
  | [] => none
  | c :: t =>
    if (rune (c :: t)).2 = 0 ∨ ((rune (c :: t)).1 < 32 ∧ (rune (c :: t)).1 ≠ 9) then none
    else if (rune (c :: t)).1 = 34 then some (out, t)
    else if (rune (c :: t)).1 ≠ 92 then text (out ++ (c :: t).take (rune (c :: t)).2) ((c :: t).drop (rune (c :: t)).2)
    else match esc (hd t) with
      | some e => text (out ++ [e]) (t.drop 1)
      | none =>
        if (hd t).toNat = 117 then
          (match hex (t.drop 1) with
          | some h => if 55296 ≤ h ∧ h < 57344 then none else text (out ++ enc h) (t.drop 5)
          | none => none)
        else none
termination_by l.length
decreasing_by
  · simp only [List.length_drop, List.length_cons]; omega
  · simp
    omega
  · simp
    omega

def quotes3 (l : List UInt8) : Bool := l.take 3 = [34, 34, 34]

/-- A block string's raw text, from behind its first quotes on. -/
def block (out l : List UInt8) : Option (List UInt8 × List UInt8) :=
  match l with
  | [] => none
  | c :: t =>
    if quotes3 (c :: t) then some (out, (c :: t).drop 3)
    else if c.toNat = 92 ∧ quotes3 t then block (out ++ [34, 34, 34]) (t.drop 3)
    else if (rune (c :: t)).2 = 0 ∨ ((rune (c :: t)).1 < 32 ∧ (rune (c :: t)).1 ≠ 9 ∧ (rune (c :: t)).1 ≠ 10 ∧ (rune (c :: t)).1 ≠ 13) then none
    else block (out ++ (c :: t).take (rune (c :: t)).2) ((c :: t).drop (rune (c :: t)).2)
termination_by l.length
decreasing_by
  · simp; omega
  · simp only [List.length_drop, List.length_cons]; omega

end Lx
end Go.Proofs.YtonblegbnkfhbaaDoor
