/-
  A number's digits, and what they mean (plain, over the kit's own words for strconv).
-/
import Derived.Lib.ParseIntB
import Derived.Lib.ItoaLen
namespace Go.Proofs.YtmgoebfcfgilfaaGreatDoor
set_option linter.unusedSimpArgs false
set_option linter.unusedVariables false
namespace Ci
open Go.Lib
theorem parseM_snoc (M : Nat) (c : UInt8) : ∀ (l : List UInt8) (acc : Nat), parseUintM M acc (l ++ [c]) = match parseUintM M acc l with
    | .ok u => parseUintM M u [c]
    | r => r
  | [], acc => by simp [parseUintM]
  | x :: r, acc => by
    rw [List.cons_append, parseUintM, parseUintM]
    split
    · split
      · rfl
      · split
        · rfl
        · exact parseM_snoc M c r _
    · rfl
theorem ofNat_val (d : Nat) (h : d < 10) : (UInt8.ofNat (48 + d)).toNat = 48 + d := UInt8.toNat_ofNat_of_lt' (by show _ < 256; omega)
theorem parseM_one (M u d : Nat) (h : d < 10) (hu : u ≤ 4294967296) : parseUintM M u [UInt8.ofNat (48 + d)] = if M < u * 10 + d then .range else .ok (u * 10 + d) := by
  rw [parseUintM, ofNat_val d h, if_pos (by omega), if_neg (by omega), show 48 + d - 48 = d by omega]
  split
  · rfl
  · rw [parseUintM]
theorem parseM_digits (M : Nat) (hM : M ≤ 4294967296) (m : Nat) : parseUintM M 0 (decDigits m) = if M < m then .range else .ok m := by
  induction m using Nat.strongRecOn with
  | _ m ih =>
    by_cases h : m < 10
    · rw [decDigits_one h, parseM_one M 0 m h (by omega), Nat.zero_mul, Nat.zero_add]
    · rw [decDigits, dif_neg h, parseM_snoc, ih (m / 10) (by omega)]
      by_cases h1 : M < m / 10
      · rw [if_pos h1, if_pos (by omega)]
      · rw [if_neg h1]
        show parseUintM M (m / 10) [_] = _
        rw [parseM_one M (m / 10) (m % 10) (by omega) (by omega), show m / 10 * 10 + m % 10 = m by omega]
theorem digits_cons (m : Nat) : ∃ d r, d < 10 ∧ decDigits m = UInt8.ofNat (48 + d) :: r := by
  induction m using Nat.strongRecOn with
  | _ m ih =>
    by_cases h : m < 10
    · exact ⟨m, [], h, decDigits_one h⟩
    · obtain ⟨d, r, hd, e⟩ := ih (m / 10) (by omega)
      rw [decDigits, dif_neg h, e]
      exact ⟨d, r ++ [_], hd, rfl⟩
theorem digits_ne (m : Nat) : decDigits m ≠ [] := by
  obtain ⟨d, r, _, e⟩ := digits_cons m
  rw [e]
  simp
/-- A number's text. -/
def text (n : Int) : List UInt8 := if n < 0 then 45 :: decDigits n.natAbs else decDigits n.natAbs
theorem parse_text (n : Int) : (decide (-2147483648 ≤ n ∧ n ≤ 2147483647) = true ∧ ∃ v, parseIntB 32 (text n) = .ok v) ∨ (decide (-2147483648 ≤ n ∧ n ≤ 2147483647) = false ∧ parseIntB 32 (text n) = .range) := by
  have hp := parseM_digits (2 ^ 32 - 1) (by decide) n.natAbs
  have hne := digits_ne n.natAbs
  by_cases hn : n < 0
  · have e : parseIntB 32 (text n) = match parseUintB 32 (decDigits n.natAbs) with
        | .range => .range
        | .ok u => if 2 ^ 31 < u then .range else .ok (-(u : Int))
        | _ => Lib.NumEnd.syntax := by
      unfold text
      rw [if_pos hn, parseIntB]
      simp
      cases parseUintB 32 (decDigits n.natAbs) <;> rfl
    rw [e]
    unfold parseUintB
    rw [if_neg hne, hp]
    by_cases h1 : 2 ^ 32 - 1 < n.natAbs
    · rw [if_pos h1]
      exact .inr ⟨decide_eq_false (by omega), rfl⟩
    · rw [if_neg h1]
      by_cases h2 : 2 ^ 31 < n.natAbs
      · refine .inr ⟨decide_eq_false (by omega), ?_⟩
        simp only [if_pos h2]
      · refine .inl ⟨decide_eq_true (by omega), -(n.natAbs : Int), ?_⟩
        simp only [if_neg h2]
  · obtain ⟨d, r, hd, ed⟩ := digits_cons n.natAbs
    have hc := ofNat_val d hd
    have e : parseIntB 32 (text n) = match parseUintB 32 (decDigits n.natAbs) with
        | .range => .range
        | .ok u => if 2 ^ 31 ≤ u then .range else .ok (u : Int)
        | _ => Lib.NumEnd.syntax := by
      unfold text
      rw [if_neg hn, ed, parseIntB]
      simp only [hc]
      rw [if_neg (by omega)]
      cases parseUintB 32 (UInt8.ofNat (48 + d) :: r) with
      | ok u =>
        simp only
        have h45 : ¬ (48 + d = 45) := by omega
        simp [h45]
      | _ => rfl
    rw [e]
    unfold parseUintB
    rw [if_neg hne, hp]
    by_cases h1 : 2 ^ 32 - 1 < n.natAbs
    · rw [if_pos h1]
      exact .inr ⟨decide_eq_false (by omega), rfl⟩
    · rw [if_neg h1]
      by_cases h2 : 2 ^ 31 ≤ n.natAbs
      · refine .inr ⟨decide_eq_false (by omega), ?_⟩
        simp only [if_pos h2]
      · refine .inl ⟨decide_eq_true (by omega), (n.natAbs : Int), ?_⟩
        simp only [if_neg h2]
/-- What is still to be told of k, and what is told already. -/
def CIt (M K : Nat) (s : List UInt8) : Prop := (s = [] ∧ K = M) ∨ (s ≠ [] ∧ (if K = 0 then s else decDigits K ++ s) = decDigits M)
theorem CIt.start (M : Nat) : CIt M M [] := .inl ⟨rfl, rfl⟩
theorem CIt.step {M K : Nat} {s : List UInt8} (h : CIt M K s) (hg : K ≠ 0 ∨ s = []) : CIt M (K / 10) (UInt8.ofNat (48 + K % 10) :: s) := by
  refine .inr ⟨by simp, ?_⟩
  have hK : (if K / 10 = 0 then UInt8.ofNat (48 + K % 10) :: s else decDigits (K / 10) ++ UInt8.ofNat (48 + K % 10) :: s) = decDigits K ++ s := by
    by_cases h0 : K / 10 = 0
    · rw [if_pos h0, decDigits_one (by omega : K < 10), show K % 10 = K by omega]
      rfl
    · rw [if_neg h0, decDigits.eq_def K, dif_neg (by omega)]
      simp
  rw [hK]
  rcases h with ⟨rfl, rfl⟩ | ⟨hs, h⟩
  · rw [List.append_nil]
  · rw [if_neg (hg.resolve_right hs)] at h
    exact h
theorem CIt.done {M : Nat} {s : List UInt8} (h : CIt M 0 s) (hs : s ≠ []) : s = decDigits M := by
  rcases h with ⟨e, _⟩ | ⟨_, h⟩
  · exact absurd e hs
  · rwa [if_pos rfl] at h
end Ci
end Go.Proofs.YtmgoebfcfgilfaaGreatDoor
