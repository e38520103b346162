/-
  Segments: the program's ID is the document's (no program in sight).
-/
import Derived.Test.YtcimobbppmpmgaaDoorSg3
namespace Go.Proofs.YtcimobbppmpmgaaDoor
set_option linter.unusedSimpArgs false
set_option linter.unusedVariables false
open Go Go.RowKit

namespace Sg
theorem dig_ok (n : Nat) (h : n < 10) : (UInt8.ofNat (48 + n)).toNat = 48 + n := UInt8.toNat_ofNat_of_lt' (by show _ < 256; omega)
/-- Digits' value. -/
theorem dval_dec (n : Nat) : ∀ (a : Nat), (Lib.decDigits n).foldl (fun n c => n * 10 + (c.toNat - 48)) a = a * 10 ^ (Lib.decDigits n).length + n ∧ (Lib.decDigits n).all isDig = true := by
  induction n using Nat.strongRecOn with
  | _ n ih =>
    intro a
    by_cases h : n < 10
    · rw [Lib.decDigits_one h]
      refine ⟨?_, ?_⟩
      · simp only [List.foldl_cons, List.foldl_nil, List.length_singleton, Nat.pow_one, dig_ok n h]
        omega
      · simp only [List.all_cons, List.all_nil, isDig, dig_ok n h]
        simp
        omega
    · have he : Lib.decDigits n = Lib.decDigits (n / 10) ++ Lib.decDigits (n % 10) := by
        rw [Lib.decDigits, dif_neg h, Lib.decDigits_one (i := n % 10) (by omega)]
      obtain ⟨h1, h2⟩ := ih (n / 10) (by omega) a
      obtain ⟨h3, h4⟩ := ih (n % 10) (by omega) (a * 10 ^ (Lib.decDigits (n / 10)).length + n / 10)
      rw [he, List.foldl_append, h1, h3, List.all_append, h2, h4, List.length_append, Nat.pow_add]
      have hl : (Lib.decDigits (n % 10)).length = 1 := by rw [Lib.decDigits_one (by omega)]; rfl
      rw [hl, Nat.pow_one]
      refine ⟨?_, rfl⟩
      rw [Nat.add_mul, Nat.mul_assoc]
      omega
theorem dec_ne (n : Nat) : Lib.decDigits n ≠ [] := by
  intro h
  have := Lib.decDigits_length n
  have h2 := Lib.nDigits_pos n
  rw [h] at this
  simp at this
  omega
/-- What the library's parse makes of digits. -/
theorem parse_digits : ∀ (l : List UInt8) (a : Nat), l.all isDig = true → l.foldl (fun n c => n * 10 + (c.toNat - 48)) a < 18446744073709551616 →
    Lib.parseUint10 a l = .ok (l.foldl (fun n c => n * 10 + (c.toNat - 48)) a)
  | [], a, _, _ => rfl
  | c :: r, a, hd, hb => by
    simp only [List.all_cons, Bool.and_eq_true] at hd
    have hc := hd.1
    unfold isDig at hc
    simp only [Bool.and_eq_true, decide_eq_true_eq] at hc
    rw [List.foldl_cons] at hb ⊢
    have hge : ∀ (l : List UInt8) (b : Nat), b ≤ l.foldl (fun n c => n * 10 + (c.toNat - 48)) b := by
      intro l
      induction l with
      | nil => intro b; exact Nat.le_refl _
      | cons x l ih => intro b; rw [List.foldl_cons]; have := ih (b * 10 + (x.toNat - 48)); omega
    have h1 := hge r (a * 10 + (c.toNat - 48))
    unfold Lib.parseUint10
    rw [if_pos hc, if_neg (by omega), if_neg (by omega)]
    exact parse_digits r _ hd.2 hb
theorem atoi_dec (n : Nat) (h : n < 9223372036854775808) : Lib.atoiAll (Lib.decDigits n) = .ok (n : Int) := by
  obtain ⟨h1, h2⟩ := dval_dec n 0
  rw [Nat.zero_mul, Nat.zero_add] at h1
  have hp := parse_digits (Lib.decDigits n) 0 h2 (by rw [h1]; omega)
  rw [h1] at hp
  have hne := dec_ne n
  cases hl : Lib.decDigits n with
  | nil => exact absurd hl hne
  | cons c r =>
    have hc : isDig c = true := by
      rw [hl] at h2
      simp only [List.all_cons, Bool.and_eq_true] at h2
      exact h2.1
    unfold isDig at hc
    simp only [Bool.and_eq_true, decide_eq_true_eq] at hc
    unfold Lib.atoiAll
    rw [hl] at hp
    simp only
    rw [if_neg (by omega)]
    unfold Lib.parseMag
    rw [if_neg (by simp), hp]
    have hc45 : ¬ c.toNat = 45 := by omega
    simp only [hc45, not_false_eq_true, true_and, false_and, if_false]
    rw [if_neg (by omega)]
theorem name_of {id : Int} (h : nameE id = 0) : 1 ≤ id ∧ id ≤ 2147483647 ∧ nameB id = seg ++ Lib.decDigits id.toNat := by
  unfold nameE at h
  have hid : ¬ (id < 1 ∨ 2147483647 < id) := by
    intro hc
    rw [if_pos hc] at h
    cases h
  refine ⟨by omega, by omega, ?_⟩
  unfold nameB
  rw [if_neg hid]
  have : Lib.itoa id = Lib.decDigits id.toNat := by
    have := Lib.itoa_nonneg id.toNat
    rwa [show ((id.toNat : Nat) : Int) = id by omega] at this
  rw [this]
  rfl
theorem trim_seg (r : List UInt8) : Lib.trimPrefix (seg ++ r) seg = r ∧ Lib.hasPrefix (seg ++ r) seg = true := by
  have h : Lib.hasPrefix (seg ++ r) seg = true := by
    unfold Lib.hasPrefix
    rw [List.isPrefixOf_iff_prefix]
    exact List.prefix_append _ _
  refine ⟨?_, h⟩
  unfold Lib.trimPrefix
  rw [if_pos h]
  rfl
/-- A name's id is told by both. -/
theorem id_name {id : Int} (h : nameE id = 0) : idOf (nameB id) = id ∧ refId (nameB id) = id := by
  obtain ⟨h1, h2, h3⟩ := name_of h
  obtain ⟨n, rfl⟩ : ∃ n : Nat, id = n := ⟨id.toNat, by omega⟩
  rw [Int.toNat_natCast] at h3
  obtain ⟨t1, t2⟩ := trim_seg (Lib.decDigits n)
  obtain ⟨d1, d2⟩ := dval_dec n 0
  rw [Nat.zero_mul, Nat.zero_add] at d1
  have hlen : (Lib.decDigits n).length ≤ 10 := by
    rw [Lib.decDigits_length]
    have hn : n ≤ 2147483647 := by omega
    rcases Nat.lt_or_ge 10 (Lib.nDigits n) with hgt | hle
    · exfalso
      have : ∀ k u, Lib.nDigits u = k + 1 → 1 ≤ u → 10 ^ k ≤ u := by
        intro k
        induction k with
        | zero => intro u _ hu; simpa using hu
        | succ k ih =>
          intro u hu h1u
          by_cases hs : u < 10
          · rw [Lib.nDigits_small hs] at hu; omega
          · rw [Lib.nDigits_big hs] at hu
            have := ih (u / 10) (by omega) (by omega)
            rw [Nat.pow_succ]
            omega
      have h4 := this (Lib.nDigits n - 1) n (by omega) (by omega)
      have h5 : 10 ^ 10 ≤ 10 ^ (Lib.nDigits n - 1) := Nat.pow_le_pow_right (by omega) (by omega)
      omega
    · exact hle
  have hlen1 : 1 ≤ (Lib.decDigits n).length := by
    have := dec_ne n
    cases hx : Lib.decDigits n with
    | nil => exact absurd hx this
    | cons c r => simp
  have hdrop : (seg ++ Lib.decDigits n).drop 4 = Lib.decDigits n := rfl
  have htake : (seg ++ Lib.decDigits n).take 4 = seg := rfl
  have hl4 : (seg ++ Lib.decDigits n).length = 4 + (Lib.decDigits n).length := by rw [List.length_append]; rfl
  constructor
  · unfold idOf
    rw [h3, t1, atoi_dec n (by omega)]
    show (if _ then _ else _) = _
    rw [if_pos ⟨t2, h, h3⟩]
  · unfold refId
    have hdv : dval ((nameB (n : Int)).drop 4) = n := by rw [h3, hdrop]; exact d1
    rw [hdv]
    rw [if_neg (by rw [h3, hl4, htake]; simp; omega), if_neg (by rw [h3, hdrop, d2]; simp), if_neg (by rw [h]; simp)]
theorem id_of {l : List UInt8} {v : Int} (h : idOf l = v) (hv : v ≠ 0) : nameE v = 0 ∧ nameB v = l := by
  unfold idOf at h
  cases hat : Lib.atoiAll (Lib.trimPrefix l seg) with
  | ok u =>
    rw [hat] at h
    simp only at h
    by_cases hc : Lib.hasPrefix l seg = true ∧ nameE u = 0 ∧ nameB u = l
    · rw [if_pos hc] at h
      subst h
      exact hc.2
    · rw [if_neg hc] at h
      exact absurd h.symm hv
  | _ => rw [hat] at h; exact absurd h.symm hv
theorem ref_of {l : List UInt8} {v : Int} (h : refId l = v) (hv : v ≠ 0) : nameE v = 0 ∧ nameB v = l := by
  unfold refId at h
  by_cases h1 : l.length < 5 ∨ 14 < l.length ∨ l.take 4 ≠ seg
  · rw [if_pos h1] at h; exact absurd h.symm hv
  · rw [if_neg h1] at h
    by_cases h2 : (l.drop 4).all isDig = false
    · rw [if_pos h2] at h; exact absurd h.symm hv
    · rw [if_neg h2] at h
      by_cases h3 : nameE (dval (l.drop 4)) ≠ 0 ∨ nameB (dval (l.drop 4)) ≠ l
      · rw [if_pos h3] at h; exact absurd h.symm hv
      · rw [if_neg h3] at h
        subst h
        have h4 : nameE (dval (l.drop 4)) = 0 ∧ nameB (dval (l.drop 4)) = l := by
          constructor
          · rcases Classical.em (nameE (dval (l.drop 4)) = 0) with h | h
            · exact h
            · exact absurd (.inl h) h3
          · rcases Classical.em (nameB (dval (l.drop 4)) = l) with h | h
            · exact h
            · exact absurd (.inr h) h3
        exact h4
/-- ONE ID. -/
theorem id_ref (l : List UInt8) : idOf l = refId l := by
  by_cases h1 : idOf l = 0
  · by_cases h2 : refId l = 0
    · rw [h1, h2]
    · obtain ⟨a, b⟩ := ref_of rfl h2
      have := (id_name a).1
      rw [b] at this
      exact this
  · obtain ⟨a, b⟩ := id_of rfl h1
    have := (id_name a).2
    rw [b] at this
    exact this.symm
end Sg
end Go.Proofs.YtcimobbppmpmgaaDoor
