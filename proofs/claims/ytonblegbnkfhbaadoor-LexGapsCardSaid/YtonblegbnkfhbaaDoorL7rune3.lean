/-
  The document's 'Rune': runes of four bytes; all together.
-/
import Derived.Test.YtonblegbnkfhbaaDoorL7rune2
namespace Go.Proofs.YtonblegbnkfhbaaDoor
set_option linter.unusedSimpArgs false
set_option linter.unusedVariables false
open Go Go.RowKit
set_option maxHeartbeats 1000000 in
set_option maxRecDepth 100000 in
theorem rune_4n (s : ByteArray) (a : Nat) (w : World) (hs : s.size ≤ 4096) (ha : a ≤ s.size) (c : Nat) (k0 : 240 ≤ c) (k1 : c < 248) (HO0 : Hid (oneAt s (a) = (c : Nat))) (HG1 : Hid (goesAt s (a + 1) = false)) (HZ : Hid (Lx.rune (sfx s a) = (0, 0))) :
    Calls Tryd.prog 39 #[.string s, .int .i64 a] w (RunePost s a w) := by
  have hs1 : s.size ≤ 9223372036854775807 := by omega
  have hi0 : (0 : Int) ≤ (a : Int) := Int.natCast_nonneg _
  go_enter Tryd.func39, Tryd.ntmps39
  go_wp2_with (first | (go_at_call 47; refine (one_int s (a) _ _ (by omega) hs1 (by omega)).mono ?_; rintro e w' ⟨rfl, hw'⟩; obtain rfl := hw'.symm; rw [HO0.out]) | (go_at_call 48; refine (goes_int s (a + 1) _ _ (by omega) hs1 (by omega)).mono ?_; rintro e w' ⟨rfl, hw'⟩; obtain rfl := hw'.symm; rw [HG1.out]) | fail)
  all_goals refine bodyPost_ret (v := .tuple #[.int .i64 (0), .int .i64 0]) (by simp [results, Tryd.results39, go_sem]) rfl (rune_post (r := 0) (n := 0) HZ.out (by omega))
set_option maxHeartbeats 1000000 in
set_option maxRecDepth 100000 in
theorem rune_4m (s : ByteArray) (a : Nat) (w : World) (hs : s.size ≤ 4096) (ha : a ≤ s.size) (c : Nat) (k0 : 240 ≤ c) (k1 : c < 248) (HO0 : Hid (oneAt s (a) = (c : Nat))) (HG1 : Hid (goesAt s (a + 1) = true)) (HG2 : Hid (goesAt s (a + 2) = false)) (HZ : Hid (Lx.rune (sfx s a) = (0, 0))) :
    Calls Tryd.prog 39 #[.string s, .int .i64 a] w (RunePost s a w) := by
  have hs1 : s.size ≤ 9223372036854775807 := by omega
  have hi0 : (0 : Int) ≤ (a : Int) := Int.natCast_nonneg _
  go_enter Tryd.func39, Tryd.ntmps39
  go_wp2_with (first | (go_at_call 47; refine (one_int s (a) _ _ (by omega) hs1 (by omega)).mono ?_; rintro e w' ⟨rfl, hw'⟩; obtain rfl := hw'.symm; rw [HO0.out]) | (go_at_call 48; refine (goes_int s (a + 1) _ _ (by omega) hs1 (by omega)).mono ?_; rintro e w' ⟨rfl, hw'⟩; obtain rfl := hw'.symm; rw [HG1.out]) | (go_at_call 48; refine (goes_int s (a + 2) _ _ (by omega) hs1 (by omega)).mono ?_; rintro e w' ⟨rfl, hw'⟩; obtain rfl := hw'.symm; rw [HG2.out]) | fail)
  all_goals refine bodyPost_ret (v := .tuple #[.int .i64 (0), .int .i64 0]) (by simp [results, Tryd.results39, go_sem]) rfl (rune_post (r := 0) (n := 0) HZ.out (by omega))
set_option maxHeartbeats 1000000 in
set_option maxRecDepth 100000 in
theorem rune_4p (s : ByteArray) (a : Nat) (w : World) (hs : s.size ≤ 4096) (ha : a ≤ s.size) (c : Nat) (k0 : 240 ≤ c) (k1 : c < 248) (HO0 : Hid (oneAt s (a) = (c : Nat))) (HG1 : Hid (goesAt s (a + 1) = true)) (HG2 : Hid (goesAt s (a + 2) = true)) (HG3 : Hid (goesAt s (a + 3) = false)) (HZ : Hid (Lx.rune (sfx s a) = (0, 0))) :
    Calls Tryd.prog 39 #[.string s, .int .i64 a] w (RunePost s a w) := by
  have hs1 : s.size ≤ 9223372036854775807 := by omega
  have hi0 : (0 : Int) ≤ (a : Int) := Int.natCast_nonneg _
  go_enter Tryd.func39, Tryd.ntmps39
  go_wp2_with (first | (go_at_call 47; refine (one_int s (a) _ _ (by omega) hs1 (by omega)).mono ?_; rintro e w' ⟨rfl, hw'⟩; obtain rfl := hw'.symm; rw [HO0.out]) | (go_at_call 48; refine (goes_int s (a + 1) _ _ (by omega) hs1 (by omega)).mono ?_; rintro e w' ⟨rfl, hw'⟩; obtain rfl := hw'.symm; rw [HG1.out]) | (go_at_call 48; refine (goes_int s (a + 2) _ _ (by omega) hs1 (by omega)).mono ?_; rintro e w' ⟨rfl, hw'⟩; obtain rfl := hw'.symm; rw [HG2.out]) | (go_at_call 48; refine (goes_int s (a + 3) _ _ (by omega) hs1 (by omega)).mono ?_; rintro e w' ⟨rfl, hw'⟩; obtain rfl := hw'.symm; rw [HG3.out]) | fail)
  all_goals refine bodyPost_ret (v := .tuple #[.int .i64 (0), .int .i64 0]) (by simp [results, Tryd.results39, go_sem]) rfl (rune_post (r := 0) (n := 0) HZ.out (by omega))
set_option maxHeartbeats 1000000 in
set_option maxRecDepth 100000 in
theorem rune_4s (s : ByteArray) (a : Nat) (w : World) (hs : s.size ≤ 4096) (ha : a ≤ s.size) (c d1 d2 d3 : Nat) (k0 : 240 ≤ c) (k1 : c < 248) (k2 : 128 ≤ d1 ∧ d1 < 192) (k3 : 128 ≤ d2 ∧ d2 < 192) (k4 : 128 ≤ d3 ∧ d3 < 192) (k5 : ¬ (65536 ≤ (c - 240) * 262144 + (d1 - 128) * 4096 + (d2 - 128) * 64 + (d3 - 128) ∧ (c - 240) * 262144 + (d1 - 128) * 4096 + (d2 - 128) * 64 + (d3 - 128) ≤ 1114111)) (HO0 : Hid (oneAt s (a) = (c : Nat))) (HO1 : Hid (oneAt s (a + 1) = (d1 : Nat))) (HO2 : Hid (oneAt s (a + 2) = (d2 : Nat))) (HO3 : Hid (oneAt s (a + 3) = (d3 : Nat))) (HG1 : Hid (goesAt s (a + 1) = true)) (HG2 : Hid (goesAt s (a + 2) = true)) (HG3 : Hid (goesAt s (a + 3) = true)) (HZ : Hid (Lx.rune (sfx s a) = (0, 0))) :
    Calls Tryd.prog 39 #[.string s, .int .i64 a] w (RunePost s a w) := by
  have hs1 : s.size ≤ 9223372036854775807 := by omega
  have hi0 : (0 : Int) ≤ (a : Int) := Int.natCast_nonneg _
  go_enter Tryd.func39, Tryd.ntmps39
  go_wp2_with (first | (go_at_call 47; refine (one_int s (a) _ _ (by omega) hs1 (by omega)).mono ?_; rintro e w' ⟨rfl, hw'⟩; obtain rfl := hw'.symm; rw [HO0.out]) | (go_at_call 47; refine (one_int s (a + 1) _ _ (by omega) hs1 (by omega)).mono ?_; rintro e w' ⟨rfl, hw'⟩; obtain rfl := hw'.symm; rw [HO1.out]) | (go_at_call 47; refine (one_int s (a + 2) _ _ (by omega) hs1 (by omega)).mono ?_; rintro e w' ⟨rfl, hw'⟩; obtain rfl := hw'.symm; rw [HO2.out]) | (go_at_call 47; refine (one_int s (a + 3) _ _ (by omega) hs1 (by omega)).mono ?_; rintro e w' ⟨rfl, hw'⟩; obtain rfl := hw'.symm; rw [HO3.out]) | (go_at_call 48; refine (goes_int s (a + 1) _ _ (by omega) hs1 (by omega)).mono ?_; rintro e w' ⟨rfl, hw'⟩; obtain rfl := hw'.symm; rw [HG1.out]) | (go_at_call 48; refine (goes_int s (a + 2) _ _ (by omega) hs1 (by omega)).mono ?_; rintro e w' ⟨rfl, hw'⟩; obtain rfl := hw'.symm; rw [HG2.out]) | (go_at_call 48; refine (goes_int s (a + 3) _ _ (by omega) hs1 (by omega)).mono ?_; rintro e w' ⟨rfl, hw'⟩; obtain rfl := hw'.symm; rw [HG3.out]) | fail)
  all_goals refine bodyPost_ret (v := .tuple #[.int .i64 (0), .int .i64 0]) (by simp [results, Tryd.results39, go_sem]) rfl (rune_post (r := 0) (n := 0) HZ.out (by omega))
set_option maxHeartbeats 1000000 in
set_option maxRecDepth 100000 in
theorem rune_4 (s : ByteArray) (a : Nat) (w : World) (hs : s.size ≤ 4096) (ha : a ≤ s.size) (c d1 d2 d3 : Nat) (k0 : 240 ≤ c) (k1 : c < 248) (k2 : 128 ≤ d1 ∧ d1 < 192) (k3 : 128 ≤ d2 ∧ d2 < 192) (k4 : 128 ≤ d3 ∧ d3 < 192) (k5 : 65536 ≤ (c - 240) * 262144 + (d1 - 128) * 4096 + (d2 - 128) * 64 + (d3 - 128) ∧ (c - 240) * 262144 + (d1 - 128) * 4096 + (d2 - 128) * 64 + (d3 - 128) ≤ 1114111) (HO0 : Hid (oneAt s (a) = (c : Nat))) (HO1 : Hid (oneAt s (a + 1) = (d1 : Nat))) (HO2 : Hid (oneAt s (a + 2) = (d2 : Nat))) (HO3 : Hid (oneAt s (a + 3) = (d3 : Nat))) (HG1 : Hid (goesAt s (a + 1) = true)) (HG2 : Hid (goesAt s (a + 2) = true)) (HG3 : Hid (goesAt s (a + 3) = true)) (HZ : Hid (Lx.rune (sfx s a) = ((c - 240) * 262144 + (d1 - 128) * 4096 + (d2 - 128) * 64 + (d3 - 128), 4))) :
    Calls Tryd.prog 39 #[.string s, .int .i64 a] w (RunePost s a w) := by
  have hs1 : s.size ≤ 9223372036854775807 := by omega
  have hi0 : (0 : Int) ≤ (a : Int) := Int.natCast_nonneg _
  go_enter Tryd.func39, Tryd.ntmps39
  go_wp2_with (first | (go_at_call 47; refine (one_int s (a) _ _ (by omega) hs1 (by omega)).mono ?_; rintro e w' ⟨rfl, hw'⟩; obtain rfl := hw'.symm; rw [HO0.out]) | (go_at_call 47; refine (one_int s (a + 1) _ _ (by omega) hs1 (by omega)).mono ?_; rintro e w' ⟨rfl, hw'⟩; obtain rfl := hw'.symm; rw [HO1.out]) | (go_at_call 47; refine (one_int s (a + 2) _ _ (by omega) hs1 (by omega)).mono ?_; rintro e w' ⟨rfl, hw'⟩; obtain rfl := hw'.symm; rw [HO2.out]) | (go_at_call 47; refine (one_int s (a + 3) _ _ (by omega) hs1 (by omega)).mono ?_; rintro e w' ⟨rfl, hw'⟩; obtain rfl := hw'.symm; rw [HO3.out]) | (go_at_call 48; refine (goes_int s (a + 1) _ _ (by omega) hs1 (by omega)).mono ?_; rintro e w' ⟨rfl, hw'⟩; obtain rfl := hw'.symm; rw [HG1.out]) | (go_at_call 48; refine (goes_int s (a + 2) _ _ (by omega) hs1 (by omega)).mono ?_; rintro e w' ⟨rfl, hw'⟩; obtain rfl := hw'.symm; rw [HG2.out]) | (go_at_call 48; refine (goes_int s (a + 3) _ _ (by omega) hs1 (by omega)).mono ?_; rintro e w' ⟨rfl, hw'⟩; obtain rfl := hw'.symm; rw [HG3.out]) | fail)
  all_goals refine bodyPost_ret (v := .tuple #[.int .i64 (((c : Int) - 240) * 262144 + ((d1 : Int) - 128) * 4096 + ((d2 : Int) - 128) * 64 + (d3 : Int) - 128), .int .i64 4]) (by simp [results, Tryd.results39, go_sem]) rfl (rune_post (r := (c - 240) * 262144 + (d1 - 128) * 4096 + (d2 - 128) * 64 + (d3 - 128)) (n := 4) HZ.out (by omega))

theorem refRune_any (s : ByteArray) (a : Nat) (w : World) (hs : s.size ≤ 4096) (ha : a ≤ s.size) :
    Calls Tryd.prog 39 #[.string s, .int .i64 a] w (RunePost s a w) := by
  by_cases hlt : a < s.size
  · have hr := rune_bt s a hlt
    have H0 : Hid (oneAt s a = (bt s a).toNat) := by unfold oneAt; rw [if_pos hlt]; exact Lib.hid rfl
    have hc256 := bt_lt s a
    generalize (bt s a).toNat = c at *
    by_cases k1 : c < 128
    · rw [if_pos k1] at hr
      exact rune_1 s a w hs ha c k1 H0 (Lib.hid hr)
    rw [if_neg k1] at hr
    by_cases k2 : c < 192
    · rw [if_neg (by omega), if_neg (by omega), if_neg (by omega)] at hr
      exact rune_c s a w hs ha c (by omega) k2 H0 (Lib.hid hr)
    by_cases k8 : 248 ≤ c
    · rw [if_neg (by omega), if_neg (by omega), if_neg (by omega)] at hr
      exact rune_h s a w hs ha c k8 hc256 H0 (Lib.hid hr)
    cases hg1 : goesAt s (a + 1)
    · rw [if_neg (by simp [hg1]), if_neg (by simp [hg1]), if_neg (by simp [hg1])] at hr
      by_cases k3 : c < 224
      · exact rune_2n s a w hs ha c (by omega) k3 H0 (Lib.hid hg1) (Lib.hid hr)
      by_cases k5 : c < 240
      · exact rune_3n s a w hs ha c (by omega) k5 H0 (Lib.hid hg1) (Lib.hid hr)
      · exact rune_4n s a w hs ha c (by omega) (by omega) H0 (Lib.hid hg1) (Lib.hid hr)
    obtain ⟨ho1, h1a, h1b⟩ := one_goes hg1
    generalize (bt s (a + 1)).toNat = d1 at *
    by_cases k3 : c < 224
    · rw [if_pos ⟨by omega, by omega, hg1⟩] at hr
      by_cases q : 128 ≤ (c - 192) * 64 + (d1 - 128)
      · rw [if_pos q] at hr
        exact rune_2 s a w hs ha c d1 (by omega) k3 ⟨h1a, h1b⟩ q H0 (Lib.hid ho1) (Lib.hid hg1) (Lib.hid hr)
      · rw [if_neg q] at hr
        exact rune_2s s a w hs ha c d1 (by omega) k3 ⟨h1a, h1b⟩ q H0 (Lib.hid ho1) (Lib.hid hg1) (Lib.hid hr)
    rw [if_neg (by omega)] at hr
    cases hg2 : goesAt s (a + 2)
    · rw [if_neg (by simp [hg2]), if_neg (by simp [hg2])] at hr
      by_cases k5 : c < 240
      · exact rune_3m s a w hs ha c (by omega) k5 H0 (Lib.hid hg1) (Lib.hid hg2) (Lib.hid hr)
      · exact rune_4m s a w hs ha c (by omega) (by omega) H0 (Lib.hid hg1) (Lib.hid hg2) (Lib.hid hr)
    obtain ⟨ho2, h2a, h2b⟩ := one_goes hg2
    generalize (bt s (a + 2)).toNat = d2 at *
    by_cases k5 : c < 240
    · rw [if_pos ⟨by omega, by omega, hg1, hg2⟩] at hr
      by_cases q : 2048 ≤ (c - 224) * 4096 + (d1 - 128) * 64 + (d2 - 128) ∧ ((c - 224) * 4096 + (d1 - 128) * 64 + (d2 - 128) < 55296 ∨ 57343 < (c - 224) * 4096 + (d1 - 128) * 64 + (d2 - 128))
      · rw [if_pos q] at hr
        exact rune_3 s a w hs ha c d1 d2 (by omega) k5 ⟨h1a, h1b⟩ ⟨h2a, h2b⟩ q H0 (Lib.hid ho1) (Lib.hid ho2) (Lib.hid hg1) (Lib.hid hg2) (Lib.hid hr)
      · rw [if_neg q] at hr
        exact rune_3s s a w hs ha c d1 d2 (by omega) k5 ⟨h1a, h1b⟩ ⟨h2a, h2b⟩ q H0 (Lib.hid ho1) (Lib.hid ho2) (Lib.hid hg1) (Lib.hid hg2) (Lib.hid hr)
    rw [if_neg (by omega)] at hr
    cases hg3 : goesAt s (a + 3)
    · rw [if_neg (by simp [hg3])] at hr
      exact rune_4p s a w hs ha c (by omega) (by omega) H0 (Lib.hid hg1) (Lib.hid hg2) (Lib.hid hg3) (Lib.hid hr)
    obtain ⟨ho3, h3a, h3b⟩ := one_goes hg3
    generalize (bt s (a + 3)).toNat = d3 at *
    rw [if_pos ⟨by omega, by omega, hg1, hg2, hg3⟩] at hr
    by_cases q : 65536 ≤ (c - 240) * 262144 + (d1 - 128) * 4096 + (d2 - 128) * 64 + (d3 - 128) ∧ (c - 240) * 262144 + (d1 - 128) * 4096 + (d2 - 128) * 64 + (d3 - 128) ≤ 1114111
    · rw [if_pos q] at hr
      exact rune_4 s a w hs ha c d1 d2 d3 (by omega) (by omega) ⟨h1a, h1b⟩ ⟨h2a, h2b⟩ ⟨h3a, h3b⟩ q H0 (Lib.hid ho1) (Lib.hid ho2) (Lib.hid ho3) (Lib.hid hg1) (Lib.hid hg2) (Lib.hid hg3) (Lib.hid hr)
    · rw [if_neg q] at hr
      exact rune_4s s a w hs ha c d1 d2 d3 (by omega) (by omega) ⟨h1a, h1b⟩ ⟨h2a, h2b⟩ ⟨h3a, h3b⟩ q H0 (Lib.hid ho1) (Lib.hid ho2) (Lib.hid ho3) (Lib.hid hg1) (Lib.hid hg2) (Lib.hid hg3) (Lib.hid hr)
  · have HA : Hid (oneAt s a = -1) := by unfold oneAt; rw [if_neg hlt]; exact Lib.hid rfl
    have hr : Lx.rune (sfx s a) = (0, 0) := by rw [sfx_end s a (by omega)]; rfl
    exact rune_neg s a w hs ha HA (Lib.hid hr)
end Go.Proofs.YtonblegbnkfhbaaDoor
