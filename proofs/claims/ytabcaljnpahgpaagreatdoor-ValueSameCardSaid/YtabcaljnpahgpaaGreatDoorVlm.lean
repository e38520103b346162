/-
  Values and types in a text, as plain functions; names alone; what is deep (no program in sight).
-/
import Derived.Test.YtabcaljnpahgpaaGreatDoorK5
import Derived.Test.YtabcaljnpahgpaaGreatDoorSdj
namespace Go.Proofs.YtabcaljnpahgpaaGreatDoor
set_option linter.unusedSimpArgs false
set_option linter.unusedVariables false
namespace Vl
open Rd Lx
/-- A text's value. -/
def parse (l : List UInt8) (fixed : Bool) : St × V :=
  let s := begin_ l
  let r := value fixed (s.rest.length + 1) s
  (fin r.1, r.2)
/-- A text's type. -/
def parseType (l : List UInt8) : St × List UInt8 :=
  let s := begin_ l
  let r := type (s.rest.length + 1) s
  (fin r.1, r.2)
theorem ok_fin (s : St) : Ok s (fin s) := by
  unfold fin
  split
  · exact ok_wrong s
  · exact Ok.refl s
theorem lex_ws {ws : List Wd} (h : StandAll ws []) (h1 : ws.length ≤ 1500) (h2 : (flat ws).length ≤ 4096) : lex (flat ws) = .ok (toksAt 0 ws ++ [⟨0, [], (flat ws).length⟩]) := by
  have := words_lex (t := []) h (by simp) h1 (by rw [List.append_nil]; exact h2)
  rw [List.append_nil] at this
  exact this
def nw (w : List UInt8) : Wd := ⟨[], 1, w, w⟩
/-- A name alone. -/
theorem name_alone {s : List UInt8} (h1 : isLetter (hd s) = true) (h2 : ∀ c ∈ s, isWord c = true) (hl : s.length ≤ 300) : lex s = .ok [⟨1, s, 0⟩, ⟨0, [], s.length⟩] := by
  have h := lex_ws (ws := [nw s]) ⟨stands_name [] (by simp) h1 h2 (by decide), trivial⟩ (by simp) (by simp [flat, nw]; omega)
  have e : flat [nw s] = s := by simp [flat, nw]
  rw [e] at h
  rw [h]
  rfl
theorem var_alone {s : List UInt8} (h1 : isLetter (hd s) = true) (h2 : ∀ c ∈ s, isWord c = true) (hl : s.length ≤ 300) : lex (36 :: s) = .ok [⟨5, [36], 0⟩, ⟨1, s, 1⟩, ⟨0, [], s.length + 1⟩] := by
  have h := lex_ws (ws := [sg 36, nw s]) ⟨stands_sign [] (by simp) (by decide) _, stands_name [] (by simp) h1 h2 (by decide), trivial⟩ (by simp) (by simp [flat, nw, sg]; omega)
  have e : flat [sg 36, nw s] = 36 :: s := by simp [flat, nw, sg]
  rw [e] at h
  rw [h]
  rfl
def nmKind (s : List UInt8) : Nat := if s = sTrue ∨ s = sFalse then 5 else if s = sNull then 6 else 7
def nmText (s : List UInt8) : List UInt8 := if s = sNull then [] else s
theorem parse_name {s : List UInt8} (h1 : isLetter (hd s) = true) (h2 : ∀ c ∈ s, isWord c = true) (hl : s.length ≤ 300) :
    (parse s true).1.err = 0 ∧ (parse s true).2.kind = nmKind s ∧ (parse s true).2.text = nmText s := by
  unfold parse begin_
  rw [name_alone h1 h2 hl]
  dsimp only
  unfold value
  dsimp only
  have p : peek ⟨[⟨1, s, 0⟩, ⟨0, [], s.length⟩], 0, 0, 0⟩ = ⟨1, s, 0⟩ := rfl
  have hS : ∀ c, isS ⟨[⟨1, s, 0⟩, ⟨0, [], s.length⟩], 0, 0, 0⟩ c = false := fun c => by unfold isS; rw [p]; simp
  have hN : isN ⟨[⟨1, s, 0⟩, ⟨0, [], s.length⟩], 0, 0, 0⟩ = true := by unfold isN; rw [p]; rfl
  have hW : ∀ ws, isW ⟨[⟨1, s, 0⟩, ⟨0, [], s.length⟩], 0, 0, 0⟩ ws = (ws.any (fun w => decide (s = w)) || ws.isEmpty) := fun ws => by unfold isW; rw [hN, p]; rfl
  have hnx : fin (next ⟨[⟨1, s, 0⟩, ⟨0, [], s.length⟩], 0, 0, 0⟩) = ⟨[⟨0, [], s.length⟩], 0, 0, 0⟩ := by unfold next; rw [p]; rfl
  rw [hS, hS, hS, hW, hW, hN, p]
  rw [if_neg (by simp), if_neg (by simp), if_neg (by simp), if_neg (by simp), if_neg (by simp), if_neg (by simp)]
  unfold nmKind nmText
  by_cases hn : s = sNull
  · rw [if_pos (by simp [hn])]
    rw [if_neg (by subst hn; decide), if_pos hn, if_pos hn]
    exact ⟨by show (fin (next _)).err = 0; rw [hnx], rfl, rfl⟩
  · rw [if_neg (by simp [hn])]
    by_cases ht : s = sTrue ∨ s = sFalse
    · rw [if_pos (by rcases ht with h | h <;> simp [h]), if_pos ht]
      refine ⟨by show (fin (next _)).err = 0; rw [hnx], rfl, ?_⟩
      rw [if_neg hn]
      rfl
    · rw [if_neg (by simp; exact ⟨fun h => ht (.inl h), fun h => ht (.inr h)⟩), if_pos rfl, if_neg ht]
      refine ⟨by show (fin (next _)).err = 0; rw [hnx], ?_, ?_⟩
      · rw [if_neg hn]; rfl
      · rw [if_neg hn]; rfl
theorem parse_var {s : List UInt8} (h1 : isLetter (hd s) = true) (h2 : ∀ c ∈ s, isWord c = true) (hl : s.length ≤ 300) :
    (parse (36 :: s) false).1.err = 0 ∧ (parse (36 :: s) false).2.kind = 1 ∧ (parse (36 :: s) false).2.text = s ∧ (parse (36 :: s) true).1.err = 41 ∧ (parse (36 :: s) true).1.at_ = 0 := by
  unfold parse begin_
  rw [var_alone h1 h2 hl]
  exact ⟨rfl, rfl, rfl, rfl, rfl⟩

def nmA : Wd := ⟨[], 1, [97], [97]⟩
def one1 : Wd := ⟨[], 2, [49], [49]⟩
def vdOpen (ob : Bool) : Nat → List Wd
  | 0 => []
  | n + 1 => vdOpen ob n ++ (if ob = true ∧ n % 2 = 1 then [sg 123, nmA, sg 58] else [sg 91])
def vdShut (ob : Bool) : Nat → List Wd
  | 0 => []
  | n + 1 => (if ob = true ∧ n % 2 = 1 then [sg 125] else [sg 93]) ++ vdShut ob n
def vdW (ob : Bool) (n : Nat) : List Wd := vdOpen ob n ++ ([one1] ++ vdShut ob n)
/-- The text, as it is put together. -/
def opT (ob : Bool) : Nat → List UInt8
  | 0 => []
  | n + 1 => opT ob n ++ (if ob = true ∧ n % 2 = 1 then [123, 97, 58] else [91])
def shT (ob : Bool) : Nat → List UInt8
  | 0 => []
  | n + 1 => (if ob = true ∧ n % 2 = 1 then [125] else [93]) ++ shT ob n
theorem flat_vdOpen (ob : Bool) : ∀ n, flat (vdOpen ob n) = opT ob n
  | 0 => rfl
  | n + 1 => by
    unfold vdOpen opT
    rw [flat_app, flat_vdOpen ob n]
    split <;> rfl
theorem flat_vdShut (ob : Bool) : ∀ n, flat (vdShut ob n) = shT ob n
  | 0 => rfl
  | n + 1 => by
    unfold vdShut shT
    rw [flat_app, flat_vdShut ob n]
    split <;> rfl
theorem flat_vd (ob : Bool) (n : Nat) : flat (vdW ob n) = opT ob n ++ [49] ++ shT ob n := by
  unfold vdW
  rw [flat_app, flat_app, flat_vdOpen, flat_vdShut, List.append_assoc]
  rfl
theorem stand_open (ob : Bool) (t : List UInt8) : ∀ n, StandAll (vdOpen ob n) t
  | 0 => trivial
  | n + 1 => by
    unfold vdOpen
    refine standAll_app ?_ ?_
    · exact stand_open ob _ n
    · split
      · exact ⟨stands_sign [] (by simp) (by decide) _, stands_name [] (by simp) (by decide) (by decide) (show isWord 58 = false by decide), stands_sign [] (by simp) (by decide) _, trivial⟩
      · exact ⟨stands_sign [] (by simp) (by decide) _, trivial⟩
theorem stand_shut (ob : Bool) (t : List UInt8) : ∀ n, StandAll (vdShut ob n) t
  | 0 => trivial
  | n + 1 => by
    unfold vdShut
    refine standAll_app ?_ (stand_shut ob t n)
    split <;> exact ⟨stands_sign [] (by simp) (by decide) _, trivial⟩
theorem one_tok (c : UInt8) (h : c = 93 ∨ c = 125) (l : List UInt8) : StandsW one1 (c :: l) := by
  refine ⟨by simp [one1], by decide, by simp [one1], ?_⟩
  show token (49 :: c :: l) = some (2, [49], c :: l)
  have hn : number (49 :: c :: l) = some (2, c :: l) := by
    rcases h with rfl | rfl <;> simp (decide := true) [number, hd, digits, isDigit, numFrac, numExp, numEnd, isLetter]
  unfold token
  rw [hd_cons, if_neg (by decide), if_pos (.inr (by decide)), hn]
  simp only [Option.map_some, List.length_cons]
  congr 3
  simp
theorem one_end : StandsW one1 [] := ⟨by simp [one1], by decide, by simp [one1], by
  show token [49] = some (2, [49], [])
  have hn : number [49] = some (2, []) := by simp (decide := true) [number, hd, digits, isDigit, numFrac, numExp, numEnd, isLetter]
  unfold token
  rw [hd_cons, if_neg (by decide), if_pos (.inr (by decide)), hn]
  rfl⟩
theorem stand_vd (ob : Bool) (n : Nat) : StandAll (vdW ob n) [] := by
  unfold vdW
  refine standAll_app (stand_open ob _ n) (standAll_app ⟨?_, trivial⟩ (stand_shut ob [] n))
  cases n with
  | zero => exact one_end
  | succ n =>
    rw [flat_vdShut]
    unfold shT
    split
    · exact one_tok 125 (.inr rfl) _
    · exact one_tok 93 (.inl rfl) _
theorem opT_len (ob : Bool) : ∀ n, (opT ob n).length ≤ 3 * n
  | 0 => Nat.le_refl _
  | n + 1 => by
    have := opT_len ob n
    unfold opT
    rw [List.length_append]
    split <;> simp only [List.length_cons, List.length_nil] <;> omega
theorem shT_len (ob : Bool) : ∀ n, (shT ob n).length = n
  | 0 => rfl
  | n + 1 => by
    have := shT_len ob n
    unfold shT
    rw [List.length_append]
    split <;> simp only [List.length_cons, List.length_nil] <;> omega
theorem vdO_len (ob : Bool) : ∀ n, (vdOpen ob n).length ≤ 3 * n
  | 0 => Nat.le_refl _
  | n + 1 => by
    have := vdO_len ob n
    unfold vdOpen
    rw [List.length_append]
    split <;> simp only [List.length_cons, List.length_nil] <;> omega
theorem vdS_len (ob : Bool) : ∀ n, (vdShut ob n).length = n
  | 0 => rfl
  | n + 1 => by
    have := vdS_len ob n
    unfold vdShut
    rw [List.length_append]
    split <;> simp only [List.length_cons, List.length_nil] <;> omega
theorem lex_vd (ob : Bool) (n : Nat) (hn : n < 30) : lex (opT ob n ++ [49] ++ shT ob n) = .ok (toksAt 0 (vdW ob n) ++ [⟨0, [], (opT ob n ++ [49] ++ shT ob n).length⟩]) := by
  have h1 := opT_len ob n
  have h2 := shT_len ob n
  have h3 := vdO_len ob n
  have h4 := vdS_len ob n
  have h := lex_ws (stand_vd ob n) (by unfold vdW; simp only [List.length_append, List.length_cons, List.length_nil]; omega) (by rw [flat_vd]; simp only [List.length_append, List.length_cons, List.length_nil]; omega)
  rw [flat_vd] at h
  exact h
def vdGot (ob : Bool) (n : Nat) : Nat × Nat × Bool :=
  let s : St := ⟨toksAt 0 (vdW ob n) ++ [⟨0, [], (opT ob n ++ [49] ++ shT ob n).length⟩], 0, 0, 0⟩
  let r := value true (s.rest.length + 1) s
  ((fin r.1).err, (fin r.1).at_, decide (r.2.kind ≠ 0))
def vdWant (ob : Bool) (n : Nat) : Nat × Nat × Bool := if n ≤ 16 then (0, 0, true) else (42, if ob then 32 else 16, true)
set_option maxRecDepth 100000 in
theorem vd_fin : ∀ ob : Bool, ∀ n : Fin 30, vdGot ob n.val = vdWant ob n.val := by decide +kernel
theorem parse_vd (ob : Bool) (n : Nat) (hn : n < 30) : ((parse (opT ob n ++ [49] ++ shT ob n) true).1.err, (parse (opT ob n ++ [49] ++ shT ob n) true).1.at_, decide ((parse (opT ob n ++ [49] ++ shT ob n) true).2.kind ≠ 0)) = vdWant ob n := by
  have := vd_fin ob ⟨n, hn⟩
  unfold parse begin_
  rw [lex_vd ob n hn]
  exact this
def tyW (n : Nat) : List Wd := List.replicate n (sg 91) ++ ([nw [65]] ++ List.replicate n (sg 93))
def tyT (n : Nat) : List UInt8 := Qr.rep n [91] ++ [65] ++ Qr.rep n [93]
theorem flat_ty (n : Nat) : flat (tyW n) = tyT n := by
  unfold tyW tyT
  rw [flat_app, flat_app, Qr.flat_rep, Qr.flat_rep, List.append_assoc]
  rfl
theorem stand_ty (n : Nat) : StandAll (tyW n) [] := by
  unfold tyW
  refine standAll_app (Qr.stand_rep 91 (by decide) _ n) (standAll_app ⟨stands_name [] (by simp) (by decide) (by decide) ?_, trivial⟩ (Qr.stand_rep 93 (by decide) _ n))
  exact Qr.hd_rep 93 isWord (by decide) [] (by decide) n
theorem ty_len (n : Nat) : (tyT n).length = 2 * n + 1 := by
  unfold tyT
  simp only [List.length_append, Qr.rep_len, List.length_cons, List.length_nil]
  omega
theorem lex_ty (n : Nat) (hn : n < 30) : lex (tyT n) = .ok (toksAt 0 (tyW n) ++ [⟨0, [], (tyT n).length⟩]) := by
  have h := lex_ws (stand_ty n) (by unfold tyW; simp; omega) (by rw [flat_ty, ty_len]; omega)
  rw [flat_ty] at h
  exact h
def tyGot (n : Nat) : Nat × Nat × Nat :=
  let s : St := ⟨toksAt 0 (tyW n) ++ [⟨0, [], (tyT n).length⟩], 0, 0, 0⟩
  let r := type (s.rest.length + 1) s
  ((fin r.1).err, (fin r.1).at_, if (fin r.1).err = 0 then r.2.length else 0)
def tyWant (n : Nat) : Nat × Nat × Nat := if n ≤ 16 then (0, 0, 2 * n + 1) else (42, 16, 0)
set_option maxRecDepth 100000 in
theorem ty_fin : ∀ n : Fin 30, tyGot n.val = tyWant n.val := by decide +kernel
theorem parse_ty (n : Nat) (hn : n < 30) : ((parseType (tyT n)).1.err, (parseType (tyT n)).1.at_, if (parseType (tyT n)).1.err = 0 then (parseType (tyT n)).2.length else 0) = tyWant n := by
  have := ty_fin ⟨n, hn⟩
  unfold parseType begin_
  rw [lex_ty n hn]
  exact this
end Vl
end Go.Proofs.YtabcaljnpahgpaaGreatDoor
