/-
  Quoting as a plain function; the lexer's text undoes it. What a string means is valid UTF-8 (no program in sight).
-/
import Derived.Test.YtmgoebfcfgilfaaGreatDoorZi3
import Derived.Lib.IndexMore
namespace Go.Proofs.YtmgoebfcfgilfaaGreatDoor
set_option linter.unusedSimpArgs false
set_option linter.unusedVariables false

def Lx.validGo : Nat → List UInt8 → Bool
  | 0, _ => true
  | n + 1, l => if l = [] then true else if (Lx.rune l).2 = 0 then false else Lx.validGo n (l.drop (Lx.rune l).2)
def Lx.valid (l : List UInt8) : Bool := Lx.validGo l.length l

/-- A hexadecimal digit's byte. -/
def Lx.hexd (n : Nat) : UInt8 := if n < 10 then (48 + n).toUInt8 else (87 + n).toUInt8
/-- What an escape of one sign is for; 0: there is none. -/
def Lx.qs (c : UInt8) : UInt8 :=
  if c.toNat = 34 then 34 else if c.toNat = 92 then 92 else if c.toNat = 8 then 98 else if c.toNat = 9 then 116 else if c.toNat = 10 then 110
  else if c.toNat = 12 then 102 else if c.toNat = 13 then 114 else 0
/-- A byte, quoted. -/
def Lx.qb (c : UInt8) : List UInt8 :=
  if (Lx.qs c).toNat ≠ 0 then [92, Lx.qs c]
  else if c.toNat < 32 ∨ c.toNat = 127 then [92, 117, 48, 48, Lx.hexd (c.toNat / 16), Lx.hexd (c.toNat % 16)]
  else [c]
/-- A text, quoted. -/
def Lx.quote (l : List UInt8) : List UInt8 := 34 :: (l.flatMap Lx.qb ++ [34])

theorem rune_low (c : UInt8) (t : List UInt8) (h : c.toNat < 128) : Lx.rune (c :: t) = (c.toNat, 1) := by unfold Lx.rune; simp [h]

theorem rune_app (l x : List UInt8) (h : (Lx.rune l).2 ≠ 0) : Lx.rune (l.take (Lx.rune l).2 ++ x) = Lx.rune l := by
  match l with
  | [] => exact absurd rfl h
  | c :: t =>
    by_cases h1 : c.toNat < 128
    · rw [rune_low c t h1]
      exact rune_low c x h1
    match t with
    | [] => exact absurd (by simp [Lx.rune, h1]) h
    | d :: t =>
      by_cases h2 : 192 ≤ c.toNat ∧ c.toNat < 224 ∧ Lx.cont d = true
      · by_cases q : 128 ≤ (c.toNat - 192) * 64 + (d.toNat - 128)
        · have e : ∀ y, Lx.rune (c :: d :: y) = ((c.toNat - 192) * 64 + (d.toNat - 128), 2) := fun y => by simp only [Lx.rune]; rw [if_neg h1, if_pos h2, if_pos q]
          rw [e t]
          exact e x
        · exact absurd (by simp only [Lx.rune]; rw [if_neg h1, if_pos h2, if_neg q]) h
      match t with
      | [] => exact absurd (by simp only [Lx.rune]; rw [if_neg h1, if_neg h2]) h
      | e :: t =>
        by_cases h3 : 224 ≤ c.toNat ∧ c.toNat < 240 ∧ Lx.cont d = true ∧ Lx.cont e = true
        · by_cases q : 2048 ≤ (c.toNat - 224) * 4096 + (d.toNat - 128) * 64 + (e.toNat - 128) ∧ ((c.toNat - 224) * 4096 + (d.toNat - 128) * 64 + (e.toNat - 128) < 55296 ∨ 57343 < (c.toNat - 224) * 4096 + (d.toNat - 128) * 64 + (e.toNat - 128))
          · have e3 : ∀ y, Lx.rune (c :: d :: e :: y) = ((c.toNat - 224) * 4096 + (d.toNat - 128) * 64 + (e.toNat - 128), 3) := fun y => by simp only [Lx.rune]; rw [if_neg h1, if_neg h2, if_pos h3, if_pos q]
            rw [e3 t]
            exact e3 x
          · exact absurd (by simp only [Lx.rune]; rw [if_neg h1, if_neg h2, if_pos h3, if_neg q]) h
        match t with
        | [] => exact absurd (by simp only [Lx.rune]; rw [if_neg h1, if_neg h2, if_neg h3]) h
        | f :: t =>
          by_cases h4 : 240 ≤ c.toNat ∧ c.toNat < 248 ∧ Lx.cont d = true ∧ Lx.cont e = true ∧ Lx.cont f = true
          · by_cases q : 65536 ≤ (c.toNat - 240) * 262144 + (d.toNat - 128) * 4096 + (e.toNat - 128) * 64 + (f.toNat - 128) ∧ (c.toNat - 240) * 262144 + (d.toNat - 128) * 4096 + (e.toNat - 128) * 64 + (f.toNat - 128) ≤ 1114111
            · have e4 : ∀ y, Lx.rune (c :: d :: e :: f :: y) = ((c.toNat - 240) * 262144 + (d.toNat - 128) * 4096 + (e.toNat - 128) * 64 + (f.toNat - 128), 4) := fun y => by simp only [Lx.rune]; rw [if_neg h1, if_neg h2, if_neg h3, if_pos h4, if_pos q]
              rw [e4 t]
              exact e4 x
            · exact absurd (by simp only [Lx.rune]; rw [if_neg h1, if_neg h2, if_neg h3, if_pos h4, if_neg q]) h
          · exact absurd (by simp only [Lx.rune]; rw [if_neg h1, if_neg h2, if_neg h3, if_neg h4]) h

/-- A rune of more bytes than one: they are high, and so is it. -/
theorem rune_high (c : UInt8) (t : List UInt8) (hc : ¬ c.toNat < 128) (h : (Lx.rune (c :: t)).2 ≠ 0) :
    128 ≤ (Lx.rune (c :: t)).1 ∧ ∀ x ∈ (c :: t).take (Lx.rune (c :: t)).2, 128 ≤ x.toNat := by
  have hcont : ∀ d : UInt8, Lx.cont d = true → 128 ≤ d.toNat := fun d hd => by simp [Lx.cont] at hd; omega
  unfold Lx.rune at h ⊢
  dsimp only at h ⊢
  rw [if_neg hc] at h ⊢
  match t with
  | [] => exact absurd rfl h
  | d :: t =>
    simp only [] at h ⊢
    by_cases h2 : 192 ≤ c.toNat ∧ c.toNat < 224 ∧ Lx.cont d = true
    · rw [if_pos h2] at h ⊢
      by_cases q : 128 ≤ (c.toNat - 192) * 64 + (d.toNat - 128)
      · rw [if_pos q]
        refine ⟨q, fun x hx => ?_⟩
        simp at hx
        rcases hx with rfl | rfl
        · omega
        · exact hcont _ h2.2.2
      · rw [if_neg q] at h; exact absurd rfl h
    rw [if_neg h2] at h ⊢
    match t with
    | [] => exact absurd rfl h
    | e :: t =>
      simp only [] at h ⊢
      by_cases h3 : 224 ≤ c.toNat ∧ c.toNat < 240 ∧ Lx.cont d = true ∧ Lx.cont e = true
      · rw [if_pos h3] at h ⊢
        by_cases q : 2048 ≤ (c.toNat - 224) * 4096 + (d.toNat - 128) * 64 + (e.toNat - 128) ∧ ((c.toNat - 224) * 4096 + (d.toNat - 128) * 64 + (e.toNat - 128) < 55296 ∨ 57343 < (c.toNat - 224) * 4096 + (d.toNat - 128) * 64 + (e.toNat - 128))
        · rw [if_pos q]
          refine ⟨by simp only []; omega, fun x hx => ?_⟩
          simp at hx
          rcases hx with rfl | rfl | rfl
          · omega
          · exact hcont _ h3.2.2.1
          · exact hcont _ h3.2.2.2
        · rw [if_neg q] at h; exact absurd rfl h
      rw [if_neg h3] at h ⊢
      match t with
      | [] => exact absurd rfl h
      | f :: t =>
        simp only [] at h ⊢
        by_cases h4 : 240 ≤ c.toNat ∧ c.toNat < 248 ∧ Lx.cont d = true ∧ Lx.cont e = true ∧ Lx.cont f = true
        · rw [if_pos h4] at h ⊢
          by_cases q : 65536 ≤ (c.toNat - 240) * 262144 + (d.toNat - 128) * 4096 + (e.toNat - 128) * 64 + (f.toNat - 128) ∧ (c.toNat - 240) * 262144 + (d.toNat - 128) * 4096 + (e.toNat - 128) * 64 + (f.toNat - 128) ≤ 1114111
          · rw [if_pos q]
            refine ⟨by simp only []; omega, fun x hx => ?_⟩
            simp at hx
            rcases hx with rfl | rfl | rfl | rfl
            · omega
            · exact hcont _ h4.2.2.1
            · exact hcont _ h4.2.2.2.1
            · exact hcont _ h4.2.2.2.2
          · rw [if_neg q] at h; exact absurd rfl h
        · rw [if_neg h4] at h; exact absurd rfl h

theorem qs_high (c : UInt8) (h : 128 ≤ c.toNat) : Lx.qs c = 0 := by
  unfold Lx.qs
  repeat rw [if_neg (by omega)]
theorem qb_high (c : UInt8) (h : 128 ≤ c.toNat) : Lx.qb c = [c] := by
  unfold Lx.qb
  rw [qs_high c h, if_neg (by decide), if_neg (by omega)]
theorem flat_high : ∀ l : List UInt8, (∀ x ∈ l, 128 ≤ x.toNat) → l.flatMap Lx.qb = l
  | [], _ => rfl
  | c :: l, h => by
    rw [List.flatMap_cons, qb_high c (h c (by simp)), flat_high l (fun x hx => h x (by simp [hx]))]; rfl

/-- Whether the three ways to quote a byte are undone. -/
def qbOk (c : UInt8) : Bool :=
  if (Lx.qs c).toNat ≠ 0 then decide (Lx.esc (Lx.qs c) = some c)
  else if c.toNat < 32 ∨ c.toNat = 127 then decide (Lx.hex [48, 48, Lx.hexd (c.toNat / 16), Lx.hexd (c.toNat % 16)] = some c.toNat ∧ Lx.enc c.toNat = [c])
  else true
set_option maxRecDepth 100000 in
theorem qbOk_all : ∀ n : Fin 256, qbOk (UInt8.ofNat n.val) = true := by decide +kernel
theorem qbOk_any (c : UInt8) : qbOk c = true := by
  have := qbOk_all ⟨c.toNat, UInt8.toNat_lt c⟩
  simpa using this
theorem hex_app (a b c d : UInt8) (x : List UInt8) : Lx.hex (a :: b :: c :: d :: x) = Lx.hex [a, b, c, d] := by
  simp [Lx.hex, Lx.hexs]

theorem ctl_92 {t : List UInt8} : ¬ Lx.ctl (92 :: t) := by
  unfold Lx.ctl
  rw [rune_low 92 _ (by decide)]
  decide

theorem text_qb (c : UInt8) (out x : List UInt8) (hc : c.toNat < 128) : Lx.text out (Lx.qb c ++ x) = Lx.text (out ++ [c]) x := by
  have hok := qbOk_any c
  unfold qbOk at hok
  unfold Lx.qb
  by_cases h1 : (Lx.qs c).toNat ≠ 0
  · rw [if_pos h1] at hok ⊢
    have he := of_decide_eq_true hok
    show Lx.text out (92 :: Lx.qs c :: x) = _
    exact Lx.text_esc ctl_92 (by rw [rune_low 92 _ (by decide)]; rfl) he
  rw [if_neg h1] at hok ⊢
  by_cases h2 : c.toNat < 32 ∨ c.toNat = 127
  · rw [if_pos h2] at hok ⊢
    obtain ⟨hh, hn⟩ := of_decide_eq_true hok
    show Lx.text out (92 :: 117 :: 48 :: 48 :: Lx.hexd (c.toNat / 16) :: Lx.hexd (c.toNat % 16) :: x) = _
    rw [Lx.text_uni (v := c.toNat) ctl_92 (by rw [rune_low 92 _ (by decide)]; rfl) (by show Lx.esc 117 = none; decide) (by rfl) (by show Lx.hex (48 :: 48 :: Lx.hexd (c.toNat / 16) :: Lx.hexd (c.toNat % 16) :: x) = _; rw [hex_app, hh]) (by omega), hn]
    rfl
  · rw [if_neg h2]
    have h34 : c.toNat ≠ 34 := fun e => h1 (by simp [Lx.qs, e])
    have h92 : c.toNat ≠ 92 := fun e => h1 (by simp [Lx.qs, e])
    show Lx.text out (c :: x) = _
    rw [Lx.text, rune_low c _ hc]
    rw [if_neg (by simp; omega), if_neg h34, if_pos h92]
    rfl

theorem text_quote : ∀ (n : Nat) (l out x : List UInt8), l.length ≤ n → Lx.validGo n l = true → Lx.text out (l.flatMap Lx.qb ++ 34 :: x) = some (out ++ l, x)
  | n, [], out, x, _, _ => by
    show Lx.text out (34 :: x) = _
    rw [Lx.text, rune_low 34 _ (by decide), if_neg (by decide), if_pos (by decide)]
    simp
  | 0, c :: t, _, _, h, _ => by simp at h
  | n + 1, c :: t, out, x, hn, h => by
    unfold Lx.validGo at h
    rw [if_neg (by simp)] at h
    by_cases h0 : (Lx.rune (c :: t)).2 = 0
    · rw [if_pos h0] at h; cases h
    rw [if_neg h0] at h
    by_cases hc : c.toNat < 128
    · rw [rune_low c t hc] at h
      rw [List.flatMap_cons, List.append_assoc, text_qb c out _ hc, text_quote n t (out ++ [c]) x (by simpa using hn) h]
      simp
    · obtain ⟨hr, hx⟩ := rune_high c t hc h0
      generalize hk : (Lx.rune (c :: t)).2 = k at *
      have happ := rune_app (c :: t) (((c :: t).drop k).flatMap Lx.qb ++ 34 :: x) (by rw [hk]; exact h0)
      rw [hk] at happ
      obtain ⟨k, rfl⟩ : ∃ j, k = j + 1 := ⟨k - 1, by omega⟩
      have hkl : k + 1 ≤ (c :: t).length := by rw [← hk]; exact Lx.rune_len _
      have hf : (c :: t).flatMap Lx.qb = (c :: t).take (k + 1) ++ ((c :: t).drop (k + 1)).flatMap Lx.qb := by
        conv => lhs; rw [← List.take_append_drop (k + 1) (c :: t)]
        rw [List.flatMap_append, flat_high _ hx]
      rw [hf, List.append_assoc]
      have hcons : ∀ y, (c :: t).take (k + 1) ++ y = c :: (t.take k ++ y) := fun y => by simp
      rw [hcons] at happ ⊢
      rw [Lx.text, happ]
      rw [if_neg (by rw [hk]; omega), if_neg (by omega), if_pos (by omega), hk, ← hcons]
      have hl2 : ((c :: t).take (k + 1)).length = k + 1 := by rw [List.length_take]; omega
      have ht : ∀ y, ((c :: t).take (k + 1) ++ y).take (k + 1) = (c :: t).take (k + 1) := fun y => by
        rw [List.take_append_of_le_length (by omega), List.take_of_length_le (by omega)]
      have hd : ∀ y, ((c :: t).take (k + 1) ++ y).drop (k + 1) = y := fun y => by
        rw [List.drop_append_of_le_length (by omega), List.drop_of_length_le (by omega), List.nil_append]
      rw [ht, hd, text_quote n _ _ x (by rw [List.length_drop]; simp at hn ⊢; omega) h, List.append_assoc, List.take_append_drop]

/-- What stands ahead of a quoted byte is no quote. -/
theorem qb_head (c : UInt8) : ∃ a r, Lx.qb c = a :: r ∧ a.toNat ≠ 34 := by
  unfold Lx.qb
  split
  · exact ⟨_, _, rfl, by decide⟩
  · rename_i h
    split
    · exact ⟨_, _, rfl, by decide⟩
    · refine ⟨_, _, rfl, fun e => h (by simp [Lx.qs, e])⟩

theorem token_quote (l x : List UInt8) (hv : Lx.valid l = true) (hx : (Lx.hd x).toNat ≠ 34) : Lx.token (Lx.quote l ++ x) = some (4, l, x) := by
  have h3 : Lx.quotes3 (34 :: (l.flatMap Lx.qb ++ 34 :: x)) = false := by
    cases l with
    | nil =>
      cases x with
      | nil => rfl
      | cons a x =>
        simp only [Lx.quotes3, List.flatMap_nil, List.nil_append, List.take_succ_cons, List.take_zero, decide_eq_false_iff_not]
        intro e
        simp at e
        exact hx (by rw [Lx.hd, List.headD_cons, e]; rfl)
    | cons c l =>
      obtain ⟨a, r, hq, ha⟩ := qb_head c
      rw [List.flatMap_cons, hq]
      unfold Lx.quotes3
      rw [decide_eq_false_iff_not]
      intro e
      simp at e
      exact ha (by rw [e.1]; rfl)
  have e : Lx.quote l ++ x = 34 :: (l.flatMap Lx.qb ++ 34 :: x) := by simp [Lx.quote]
  rw [e]
  unfold Lx.token
  rw [if_neg (by simp [Lx.hd, show Lx.isLetter 34 = false by decide]), if_neg (by simp [Lx.hd, show Lx.isDigit 34 = false by decide]), if_neg (by rw [h3]; simp), if_pos (by rfl)]
  rw [List.drop_one, List.tail_cons, text_quote l.length l [] x (Nat.le_refl _) hv]
  rfl

end Go.Proofs.YtmgoebfcfgilfaaGreatDoor
namespace Go.Proofs.YtmgoebfcfgilfaaGreatDoor
set_option linter.unusedSimpArgs false
set_option linter.unusedVariables false
namespace Lx

/-- Valid UTF-8, rune by rune. -/
inductive V : List UInt8 → Prop
  | nil : V []
  | step (l : List UInt8) (h : (rune l).2 ≠ 0) (t : V (l.drop (rune l).2)) : V l

theorem V_valid {l : List UInt8} (h : V l) : ∀ n, l.length ≤ n → validGo n l = true := by
  induction h with
  | nil => intro n _; cases n <;> rfl
  | step l h t ih =>
    intro n hn
    cases n with
    | zero => rfl
    | succ n =>
      unfold validGo
      by_cases h0 : l = []
      · rw [if_pos h0]
      · rw [if_neg h0, if_neg h]
        refine ih n ?_
        rw [List.length_drop]
        omega
theorem rune_app2 (l x : List UInt8) (h : (rune l).2 ≠ 0) : rune (l ++ x) = rune l := by
  have := rune_app l (l.drop (rune l).2 ++ x) h
  rw [← List.append_assoc, List.take_append_drop] at this
  exact this
theorem V_append {a b : List UInt8} (ha : V a) (hb : V b) : V (a ++ b) := by
  induction ha with
  | nil => exact hb
  | step l h t ih =>
    have e := rune_app2 l b h
    refine V.step _ (by rw [e]; exact h) ?_
    rw [e, List.drop_append_of_le_length (rune_len l)]
    exact ih
theorem V_rune {l : List UInt8} (h : (rune l).2 ≠ 0) : V (l.take (rune l).2) := by
  have e := rune_app l [] h
  rw [List.append_nil] at e
  refine V.step _ (by rw [e]; exact h) ?_
  rw [e, List.drop_of_length_le (by rw [List.length_take]; omega)]
  exact .nil
theorem V_low {c : UInt8} (h : c.toNat < 128) : V [c] := by
  refine V.step _ (by rw [rune_low c [] h]; simp) ?_
  rw [rune_low c [] h]
  exact .nil
theorem V_ascii : ∀ l : List UInt8, (∀ c ∈ l, c.toNat < 128) → V l
  | [], _ => .nil
  | c :: l, h => V_append (V_low (h c (by simp))) (V_ascii l (fun d hd => h d (by simp [hd])))
theorem u8n {n : Nat} (h : n < 256) : n.toUInt8.toNat = n := by simp; omega
theorem V_enc {r : Nat} (h : r < 55296 ∨ (57343 < r ∧ r ≤ 1114111)) : V (enc r) := by
  unfold enc
  by_cases h1 : r < 128
  · rw [if_pos h1]
    exact V_low (by rw [u8n (by omega)]; exact h1)
  rw [if_neg h1]
  have cont_of : ∀ c : UInt8, 128 ≤ c.toNat → c.toNat < 192 → cont c = true := fun c h1 h2 => by simp [cont, h1, h2]
  by_cases h2 : r < 2048
  · rw [if_pos h2]
    have a := u8n (n := 192 + r / 64) (by omega)
    have b := u8n (n := 128 + r % 64) (by omega)
    generalize (192 + r / 64).toUInt8 = A at *
    generalize (128 + r % 64).toUInt8 = B at *
    have e : rune [A, B] = (r, 2) := by
      simp only [rune]
      rw [if_neg (by omega), if_pos ⟨by omega, by omega, cont_of B (by omega) (by omega)⟩, if_pos (by omega)]
      simp only [Prod.mk.injEq, and_true]
      omega
    exact V.step _ (by rw [e]; simp) (by rw [e]; exact .nil)
  rw [if_neg h2]
  by_cases h3 : r < 65536
  · rw [if_pos h3]
    have a := u8n (n := 224 + r / 4096) (by omega)
    have b := u8n (n := 128 + r / 64 % 64) (by omega)
    have c := u8n (n := 128 + r % 64) (by omega)
    generalize (224 + r / 4096).toUInt8 = A at *
    generalize (128 + r / 64 % 64).toUInt8 = B at *
    generalize (128 + r % 64).toUInt8 = C at *
    have e : rune [A, B, C] = (r, 3) := by
      simp only [rune]
      rw [if_neg (by omega), if_neg (by omega), if_pos ⟨by omega, by omega, cont_of B (by omega) (by omega), cont_of C (by omega) (by omega)⟩, if_pos (by omega)]
      simp only [Prod.mk.injEq, and_true]
      omega
    exact V.step _ (by rw [e]; simp) (by rw [e]; exact .nil)
  · rw [if_neg h3]
    have a := u8n (n := 240 + r / 262144) (by omega)
    have b := u8n (n := 128 + r / 4096 % 64) (by omega)
    have c := u8n (n := 128 + r / 64 % 64) (by omega)
    have d := u8n (n := 128 + r % 64) (by omega)
    generalize (240 + r / 262144).toUInt8 = A at *
    generalize (128 + r / 4096 % 64).toUInt8 = B at *
    generalize (128 + r / 64 % 64).toUInt8 = C at *
    generalize (128 + r % 64).toUInt8 = D at *
    have e : rune [A, B, C, D] = (r, 4) := by
      simp only [rune]
      rw [if_neg (by omega), if_neg (by omega), if_neg (by omega), if_pos ⟨by omega, by omega, cont_of B (by omega) (by omega), cont_of C (by omega) (by omega), cont_of D (by omega) (by omega)⟩, if_pos (by omega)]
      simp only [Prod.mk.injEq, and_true]
      omega
    exact V.step _ (by rw [e]; simp) (by rw [e]; exact .nil)

theorem V_split {l : List UInt8} (h : V l) : ∀ (a b : List UInt8) (c : UInt8), c.toNat < 128 → l = a ++ c :: b → V a ∧ V b := by
  induction h with
  | nil => intro a b c _ e; cases a <;> simp at e
  | step l h t ih =>
    intro a b c hc e
    subst e
    cases a with
    | nil =>
      rw [List.nil_append, rune_low c b hc] at t
      exact ⟨.nil, t⟩
    | cons x a =>
      have hk : (rune (x :: a ++ c :: b)).2 ≤ (x :: a).length := by
        rcases Nat.lt_or_ge (x :: a).length (rune (x :: a ++ c :: b)).2 with hlt | hge
        · exfalso
          by_cases hx : x.toNat < 128
          · rw [List.cons_append, rune_low x _ hx] at hlt
            simp at hlt
          · obtain ⟨_, hall⟩ := rune_high x (a ++ c :: b) hx h
            have hm : c ∈ (x :: (a ++ c :: b)).take (rune (x :: (a ++ c :: b))).2 := by
              have hg : ((x :: (a ++ c :: b)).take (rune (x :: (a ++ c :: b))).2)[(x :: a).length]? = some c := by
                rw [List.getElem?_take, if_pos (by exact hlt)]
                show (x :: a ++ c :: b)[(x :: a).length]? = _
                rw [List.getElem?_append_right (Nat.le_refl _)]
                simp
              exact List.mem_of_getElem? hg
            have := hall c hm
            omega
        · exact hge
      have e1 : rune (x :: a) = rune (x :: a ++ c :: b) := by
        have := rune_app (x :: a ++ c :: b) ((x :: a).drop (rune (x :: a ++ c :: b)).2) h
        rw [List.take_append_of_le_length hk, List.take_append_drop] at this
        exact this
      have e2 : (x :: a ++ c :: b).drop (rune (x :: a ++ c :: b)).2 = (x :: a).drop (rune (x :: a ++ c :: b)).2 ++ c :: b := List.drop_append_of_le_length hk
      obtain ⟨h1, h2⟩ := ih _ b c hc e2
      exact ⟨V.step _ (by rw [e1]; exact h) (by rw [e1]; exact h1), h2⟩
theorem V_drop : ∀ (a b : List UInt8), (∀ c ∈ a, c.toNat < 128) → V (a ++ b) → V b
  | [], b, _, h => h
  | c :: a, b, h, hv => V_drop a b (fun d hd => h d (by simp [hd])) (V_split hv [] (a ++ b) c (h c (by simp)) rfl).2

theorem esc_low {c e : UInt8} (h : esc c = some e) : e.toNat < 128 := by
  unfold esc at h
  repeat' split at h
  all_goals first | (simp at h; subst h; decide) | (cases h)

theorem V_text : ∀ (n : Nat) (l out m r : List UInt8), l.length ≤ n → V out → text out l = some (m, r) → V m
  | _, [], out, m, r, _, _, h => by rw [text_nil] at h; cases h
  | 0, c :: t, _, _, _, h, _, _ => by simp at h
  | n + 1, c :: t, out, m, r, hn, hv, h => by
    by_cases h0 : ctl (c :: t)
    · rw [text_bad h0] at h; cases h
    have hr : (rune (c :: t)).2 ≠ 0 := fun e => h0 (.inl e)
    have hl : t.length ≤ n := by simpa using hn
    by_cases h1 : (rune (c :: t)).1 = 34
    · rw [text_quote h0 h1] at h
      simp at h
      rw [← h.1]; exact hv
    by_cases h2 : (rune (c :: t)).1 = 92
    · cases he : esc (hd t) with
      | some e =>
        rw [text_esc h0 h2 he] at h
        exact V_text n _ _ m r (by rw [List.length_drop]; omega) (V_append hv (V_low (esc_low he))) h
      | none =>
        by_cases hu : (hd t).toNat = 117
        · cases hx : hex (t.drop 1) with
          | none => rw [text_nohex h0 h2 he hu hx] at h; cases h
          | some v =>
            by_cases hs : 55296 ≤ v ∧ v < 57344
            · rw [text_sur h0 h2 he hu hx hs] at h; cases h
            · rw [text_uni h0 h2 he hu hx hs] at h
              have := hex_lt hx
              exact V_text n _ _ m r (by rw [List.length_drop]; omega) (V_append hv (V_enc (by omega))) h
        · rw [text_noesc h0 h2 he hu] at h; cases h
    · rw [text_plain h0 h1 h2] at h
      exact V_text n _ _ m r (by rw [List.length_drop]; simp at hn ⊢; omega) (V_append hv (V_rune hr)) h

theorem V_block : ∀ (n : Nat) (l out m r : List UInt8), l.length ≤ n → V out → block out l = some (m, r) → V m
  | _, [], out, m, r, _, _, h => by rw [block_nil] at h; cases h
  | 0, c :: t, _, _, _, h, _, _ => by simp at h
  | n + 1, c :: t, out, m, r, hn, hv, h => by
    have hl : t.length ≤ n := by simpa using hn
    cases hq : quotes3 (c :: t)
    · by_cases he : c.toNat = 92 ∧ quotes3 t = true
      · rw [block_esc hq he] at h
        exact V_block n _ _ m r (by rw [List.length_drop]; omega) (V_append hv (V_ascii _ (fun d hd => by simp at hd; subst hd; decide))) h
      · by_cases hc : ctlB (c :: t)
        · rw [block_bad hq he hc] at h; cases h
        · rw [block_go hq he hc] at h
          have hr : (rune (c :: t)).2 ≠ 0 := fun e => hc (.inl e)
          exact V_block n _ _ m r (by rw [List.length_drop]; simp at hn ⊢; omega) (V_append hv (V_rune hr)) h
    · rw [block_end hq] at h
      simp at h
      rw [← h.1]; exact hv

/-! 'dedent'. -/
theorem index_cut {s old : List UInt8} {i : Nat} (h : Lib.index s old = i) : ∃ r, s = s.take i ++ (old ++ r) ∧ s.drop (i + old.length) = r := by
  rcases Lib.index_spec s old with ⟨h1, _⟩ | ⟨j, h1, h2, h3, _⟩
  · rw [h1] at h; omega
  · obtain rfl : j = i := by omega
    unfold Lib.occAt at h3
    obtain ⟨r, hr⟩ := List.isPrefixOf_iff_prefix.1 h3
    refine ⟨r, by rw [hr, List.take_append_drop], ?_⟩
    rw [← List.drop_drop, ← hr, List.drop_left]
theorem V_cut {s : List UInt8} {x : UInt8} {o : List UInt8} {i : Nat} (hv : V s) (ho : ∀ c ∈ x :: o, c.toNat < 128) (h : Lib.index s (x :: o) = i) : V (s.take i) ∧ V (s.drop (i + (x :: o).length)) := by
  obtain ⟨r, h1, h2⟩ := index_cut h
  rw [h2]
  obtain ⟨h3, h4⟩ := V_split hv (s.take i) (o ++ r) x (ho x (by simp)) h1
  exact ⟨h3, V_drop o r (fun c hc => ho c (by simp [hc])) h4⟩
theorem V_replK (x : UInt8) (o n : List UInt8) (ho : ∀ c ∈ x :: o, c.toNat < 128) (hn : V n) : ∀ (k : Nat) (s : List UInt8), V s → V (Lib.replaceK (x :: o) n k s)
  | 0, s, hv => hv
  | k + 1, s, hv => by
    unfold Lib.replaceK
    split
    · exact hv
    · rename_i h
      have hge := Lib.index_ge s (x :: o)
      have hi : Lib.index s (x :: o) = ((Lib.index s (x :: o)).toNat : Nat) := by
        have : Lib.index s (x :: o) ≠ -1 := fun e => h (by rw [e]; rfl)
        omega
      obtain ⟨h1, h2⟩ := V_cut hv ho hi
      exact V_append (V_append h1 hn) (V_replK x o n ho hn k _ h2)
theorem V_repl (x : UInt8) (o n s : List UInt8) (ho : ∀ c ∈ x :: o, c.toNat < 128) (hn : V n) (hv : V s) : V (Lib.replaceAll s (x :: o) n) := by
  unfold Lib.replaceAll Lib.replace
  split
  · exact hv
  · exact V_replK x o n ho hn _ s hv
theorem V_splitK : ∀ (k : Nat) (s : List UInt8), V s → ∀ y ∈ Lib.splitK [10] 0 k s, V y
  | 0, s, hv, y, hy => by simp [Lib.splitK] at hy; rw [hy]; exact hv
  | k + 1, s, hv, y, hy => by
    unfold Lib.splitK at hy
    split at hy
    · simp at hy; rw [hy]; exact hv
    · rename_i h
      have hge := Lib.index_ge s [10]
      have hi : Lib.index s [10] = ((Lib.index s [10]).toNat : Nat) := by
        have : Lib.index s [10] ≠ -1 := fun e => h (by rw [e]; rfl)
        omega
      obtain ⟨h1, h2⟩ := V_cut hv (fun c hc => by simp at hc; subst hc; decide) hi
      rcases List.mem_cons.1 hy with rfl | hy
      · exact h1
      · exact V_splitK k _ h2 y hy
theorem V_lines {raw : List UInt8} (hv : V raw) : ∀ y ∈ lines raw, V y := by
  intro y hy
  unfold lines linesB at hy
  rw [Lib.splitB_data] at hy
  refine V_splitK _ _ ?_ y hy
  show V (nl raw)
  unfold nl
  have h10 : V [10] := V_low (by decide)
  exact V_repl 13 [] [10] _ (fun c hc => by simp at hc; subst hc; decide) h10 (V_repl 13 [10] [10] _ (fun c hc => by simp at hc; rcases hc with rfl | rfl <;> decide) h10 hv)

theorem isSp_low {c : UInt8} (h : isSp c = true) : c.toNat < 128 := by
  simp only [isSp, List.contains_cons, List.contains_nil, Bool.or_false, Bool.or_eq_true, beq_iff_eq] at h
  rcases h with rfl | rfl <;> decide
theorem dw_split (p : UInt8 → Bool) : ∀ l : List UInt8, ∃ a, l = a ++ l.dropWhile p ∧ ∀ c ∈ a, p c = true
  | [] => ⟨[], rfl, by simp⟩
  | c :: l => by
    rw [List.dropWhile_cons]
    split
    · rename_i h
      obtain ⟨a, h1, h2⟩ := dw_split p l
      refine ⟨c :: a, by rw [List.cons_append, ← h1], fun d hd => ?_⟩
      rcases List.mem_cons.1 hd with rfl | hd
      · exact h
      · exact h2 d hd
    · exact ⟨[], rfl, by simp⟩
theorem ind_take (x : List UInt8) (n : Nat) (h : n ≤ ind x) : ∀ c ∈ x.take n, isSp c = true := by
  obtain ⟨a, h1, h2⟩ := dw_split isSp x
  have hl : a.length = ind x := by
    unfold ind
    conv => rhs; rw [h1]
    have := congrArg List.length h1
    rw [List.length_append] at this
    rw [← h1]
    omega
  intro c hc
  rw [h1, List.take_append_of_le_length (by omega)] at hc
  exact h2 c (List.mem_of_mem_take hc)
theorem V_dropSp {x : List UInt8} (hv : V x) (n : Nat) (h : allSp x = true ∨ n ≤ ind x) : V (x.drop n) := by
  rcases h with h | h
  · refine V_ascii _ (fun c hc => ?_)
    have hi : x.length ≤ ind x := by
      unfold allSp at h
      rw [beq_iff_eq] at h
      omega
    have := ind_take x x.length hi c (by rw [List.take_length]; exact List.mem_of_mem_drop hc)
    exact isSp_low this
  · refine V_drop (x.take n) _ (fun c hc => isSp_low (ind_take x n h c hc)) ?_
    rw [List.take_append_drop]
    exact hv
theorem com_prop : ∀ (ls : List (List UInt8)) (c : Int), (0 ≤ c → 0 ≤ ls.foldl comStep c ∧ ls.foldl comStep c ≤ c) ∧ ∀ x ∈ ls, allSp x = true ∨ (0 ≤ ls.foldl comStep c ∧ ls.foldl comStep c ≤ ind x)
  | [], c => ⟨fun h => ⟨h, Int.le_refl _⟩, by simp⟩
  | x :: r, c => by
    obtain ⟨h1, h2⟩ := com_prop r (comStep c x)
    rw [List.foldl_cons]
    have hix : (0 : Int) ≤ ind x := Int.natCast_nonneg _
    have hstep : (comStep c x = ind x ∧ (c < 0 ∨ (ind x : Int) < c)) ∨ (comStep c x = c ∧ (allSp x = true ∨ (0 ≤ c ∧ c ≤ ind x))) := by
      unfold comStep
      split
      · rename_i h
        exact .inl ⟨rfl, h.2⟩
      · rename_i h
        refine .inr ⟨rfl, ?_⟩
        by_cases he : ind x = x.length
        · exact .inl (by unfold allSp; rw [he]; simp)
        · have := ind_le x
          exact .inr (by omega)
    refine ⟨fun h0 => ?_, fun y hy => ?_⟩
    · rcases hstep with ⟨e, h⟩ | ⟨e, h⟩
      · rw [e] at h1 ⊢
        have := h1 hix
        omega
      · rw [e] at h1 ⊢
        exact h1 h0
    · rcases List.mem_cons.1 hy with rfl | hy
      · rcases hstep with ⟨e, h⟩ | ⟨e, h⟩
        · rw [e] at h1 ⊢
          exact .inr (h1 hix)
        · rcases h with h | h
          · exact .inl h
          · rw [e] at h1 ⊢
            have := h1 h.1
            exact .inr (by omega)
      · exact h2 y hy
theorem mem_trimEnd {ls : List (List UInt8)} {x : List UInt8} (h : x ∈ trimEnd ls) : x ∈ ls := by
  obtain ⟨n, _, e⟩ := trimEnd_take ls
  rw [e] at h
  exact List.mem_of_mem_take h
theorem mem_dw {α : Type} (p : α → Bool) {ls : List α} {x : α} (h : x ∈ ls.dropWhile p) : x ∈ ls := (List.dropWhile_sublist p).subset h
theorem V_joinTail : ∀ ls : List (List UInt8), (∀ x ∈ ls, V x) → V (Lib.joinTail [10] ls)
  | [], _ => .nil
  | x :: r, h => by
    have e : Lib.joinTail [10] (x :: r) = [10] ++ x ++ Lib.joinTail [10] r := by simp [Lib.joinTail]
    rw [e]
    exact V_append (V_append (V_low (by decide)) (h x (by simp))) (V_joinTail r (fun y hy => h y (by simp [hy])))
theorem V_join : ∀ ls : List (List UInt8), (∀ x ∈ ls, V x) → V (Lib.join ls [10])
  | [], _ => .nil
  | x :: r, h => by
    rw [Lib.join_cons]
    exact V_append (h x (by simp)) (V_joinTail r (fun y hy => h y (by simp [hy])))
theorem V_dedent {raw : List UInt8} (hv : V raw) : V (dedent raw) := by
  unfold dedent
  refine V_join _ (fun x hx => ?_)
  have hx := mem_dw _ (mem_trimEnd hx)
  obtain ⟨i, hi⟩ := List.getElem?_of_mem hx
  rw [strip_get] at hi
  cases hl : (lines raw)[i]? with
  | none => rw [hl] at hi; cases hi
  | some y =>
    rw [hl] at hi
    simp at hi
    subst hi
    have hy := V_lines hv y (List.mem_of_getElem? hl)
    unfold stripAt
    split
    · rename_i h
      refine V_dropSp hy _ ?_
      have hmem : y ∈ (lines raw).tail := by
        cases hlr : lines raw with
        | nil => rw [hlr] at hl; simp at hl
        | cons a r =>
          rw [hlr] at hl
          obtain ⟨j, rfl⟩ : ∃ j, i = j + 1 := ⟨i - 1, by omega⟩
          simp at hl
          exact List.mem_of_getElem? hl
      rcases (com_prop (lines raw).tail (-1)).2 y hmem with h2 | h2
      · exact .inl h2
      · refine .inr ?_
        unfold common at h ⊢
        omega
    · exact hy
end Lx
end Go.Proofs.YtmgoebfcfgilfaaGreatDoor
