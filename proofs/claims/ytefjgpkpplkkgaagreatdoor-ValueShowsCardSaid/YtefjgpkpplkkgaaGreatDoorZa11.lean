/-
  The document's 'Rune': runes of four bytes; all together. The document's 'UTF8' and 'Quote'.
-/
import Derived.Test.YtefjgpkpplkkgaaGreatDoorZa10
import Derived.Outline
import Derived.Deep.LoopGhost
import Derived.Deep.DeepCutAuto
namespace Go.Proofs.YtefjgpkpplkkgaaGreatDoor
set_option linter.unusedSimpArgs false
set_option linter.unusedVariables false
open Go Go.RowKit
set_option maxHeartbeats 1000000 in
set_option maxRecDepth 100000 in
theorem rune_4n (s : ByteArray) (a : Nat) (w : World) (hs : s.size ≤ 300000) (ha : a ≤ s.size) (c : Nat) (k0 : 240 ≤ c) (k1 : c < 248) (HO0 : Hid (oneAt s (a) = (c : Nat))) (HG1 : Hid (goesAt s (a + 1) = false)) (HZ : Hid (Lx.rune (sfx s a) = (0, 0))) :
    Calls Tryz.prog 94 #[.string s, .int .i64 a] w (RunePost s a w) := by
  have hs1 : s.size ≤ 9223372036854775807 := by omega
  have hi0 : (0 : Int) ≤ (a : Int) := Int.natCast_nonneg _
  go_enter Tryz.func94, Tryz.ntmps94
  go_wp2_with (first | (go_at_call 164; refine (one_int s (a) _ _ (by omega) hs1 (by omega)).mono ?_; rintro e w' ⟨rfl, hw'⟩; obtain rfl := hw'.symm; rw [HO0.out]) | (go_at_call 165; refine (goes_int s (a + 1) _ _ (by omega) hs1 (by omega)).mono ?_; rintro e w' ⟨rfl, hw'⟩; obtain rfl := hw'.symm; rw [HG1.out]) | fail)
  all_goals refine bodyPost_ret (v := .tuple #[.int .i64 (0), .int .i64 0]) (by simp [results, Tryz.results94, go_sem]) rfl (rune_post (r := 0) (n := 0) HZ.out (by omega))
set_option maxHeartbeats 1000000 in
set_option maxRecDepth 100000 in
theorem rune_4m (s : ByteArray) (a : Nat) (w : World) (hs : s.size ≤ 300000) (ha : a ≤ s.size) (c : Nat) (k0 : 240 ≤ c) (k1 : c < 248) (HO0 : Hid (oneAt s (a) = (c : Nat))) (HG1 : Hid (goesAt s (a + 1) = true)) (HG2 : Hid (goesAt s (a + 2) = false)) (HZ : Hid (Lx.rune (sfx s a) = (0, 0))) :
    Calls Tryz.prog 94 #[.string s, .int .i64 a] w (RunePost s a w) := by
  have hs1 : s.size ≤ 9223372036854775807 := by omega
  have hi0 : (0 : Int) ≤ (a : Int) := Int.natCast_nonneg _
  go_enter Tryz.func94, Tryz.ntmps94
  go_wp2_with (first | (go_at_call 164; refine (one_int s (a) _ _ (by omega) hs1 (by omega)).mono ?_; rintro e w' ⟨rfl, hw'⟩; obtain rfl := hw'.symm; rw [HO0.out]) | (go_at_call 165; refine (goes_int s (a + 1) _ _ (by omega) hs1 (by omega)).mono ?_; rintro e w' ⟨rfl, hw'⟩; obtain rfl := hw'.symm; rw [HG1.out]) | (go_at_call 165; refine (goes_int s (a + 2) _ _ (by omega) hs1 (by omega)).mono ?_; rintro e w' ⟨rfl, hw'⟩; obtain rfl := hw'.symm; rw [HG2.out]) | fail)
  all_goals refine bodyPost_ret (v := .tuple #[.int .i64 (0), .int .i64 0]) (by simp [results, Tryz.results94, go_sem]) rfl (rune_post (r := 0) (n := 0) HZ.out (by omega))
set_option maxHeartbeats 1000000 in
set_option maxRecDepth 100000 in
theorem rune_4p (s : ByteArray) (a : Nat) (w : World) (hs : s.size ≤ 300000) (ha : a ≤ s.size) (c : Nat) (k0 : 240 ≤ c) (k1 : c < 248) (HO0 : Hid (oneAt s (a) = (c : Nat))) (HG1 : Hid (goesAt s (a + 1) = true)) (HG2 : Hid (goesAt s (a + 2) = true)) (HG3 : Hid (goesAt s (a + 3) = false)) (HZ : Hid (Lx.rune (sfx s a) = (0, 0))) :
    Calls Tryz.prog 94 #[.string s, .int .i64 a] w (RunePost s a w) := by
  have hs1 : s.size ≤ 9223372036854775807 := by omega
  have hi0 : (0 : Int) ≤ (a : Int) := Int.natCast_nonneg _
  go_enter Tryz.func94, Tryz.ntmps94
  go_wp2_with (first | (go_at_call 164; refine (one_int s (a) _ _ (by omega) hs1 (by omega)).mono ?_; rintro e w' ⟨rfl, hw'⟩; obtain rfl := hw'.symm; rw [HO0.out]) | (go_at_call 165; refine (goes_int s (a + 1) _ _ (by omega) hs1 (by omega)).mono ?_; rintro e w' ⟨rfl, hw'⟩; obtain rfl := hw'.symm; rw [HG1.out]) | (go_at_call 165; refine (goes_int s (a + 2) _ _ (by omega) hs1 (by omega)).mono ?_; rintro e w' ⟨rfl, hw'⟩; obtain rfl := hw'.symm; rw [HG2.out]) | (go_at_call 165; refine (goes_int s (a + 3) _ _ (by omega) hs1 (by omega)).mono ?_; rintro e w' ⟨rfl, hw'⟩; obtain rfl := hw'.symm; rw [HG3.out]) | fail)
  all_goals refine bodyPost_ret (v := .tuple #[.int .i64 (0), .int .i64 0]) (by simp [results, Tryz.results94, go_sem]) rfl (rune_post (r := 0) (n := 0) HZ.out (by omega))
set_option maxHeartbeats 1000000 in
set_option maxRecDepth 100000 in
theorem rune_4s (s : ByteArray) (a : Nat) (w : World) (hs : s.size ≤ 300000) (ha : a ≤ s.size) (c d1 d2 d3 : Nat) (k0 : 240 ≤ c) (k1 : c < 248) (k2 : 128 ≤ d1 ∧ d1 < 192) (k3 : 128 ≤ d2 ∧ d2 < 192) (k4 : 128 ≤ d3 ∧ d3 < 192) (k5 : ¬ (65536 ≤ (c - 240) * 262144 + (d1 - 128) * 4096 + (d2 - 128) * 64 + (d3 - 128) ∧ (c - 240) * 262144 + (d1 - 128) * 4096 + (d2 - 128) * 64 + (d3 - 128) ≤ 1114111)) (HO0 : Hid (oneAt s (a) = (c : Nat))) (HO1 : Hid (oneAt s (a + 1) = (d1 : Nat))) (HO2 : Hid (oneAt s (a + 2) = (d2 : Nat))) (HO3 : Hid (oneAt s (a + 3) = (d3 : Nat))) (HG1 : Hid (goesAt s (a + 1) = true)) (HG2 : Hid (goesAt s (a + 2) = true)) (HG3 : Hid (goesAt s (a + 3) = true)) (HZ : Hid (Lx.rune (sfx s a) = (0, 0))) :
    Calls Tryz.prog 94 #[.string s, .int .i64 a] w (RunePost s a w) := by
  have hs1 : s.size ≤ 9223372036854775807 := by omega
  have hi0 : (0 : Int) ≤ (a : Int) := Int.natCast_nonneg _
  go_enter Tryz.func94, Tryz.ntmps94
  go_wp2_with (first | (go_at_call 164; refine (one_int s (a) _ _ (by omega) hs1 (by omega)).mono ?_; rintro e w' ⟨rfl, hw'⟩; obtain rfl := hw'.symm; rw [HO0.out]) | (go_at_call 164; refine (one_int s (a + 1) _ _ (by omega) hs1 (by omega)).mono ?_; rintro e w' ⟨rfl, hw'⟩; obtain rfl := hw'.symm; rw [HO1.out]) | (go_at_call 164; refine (one_int s (a + 2) _ _ (by omega) hs1 (by omega)).mono ?_; rintro e w' ⟨rfl, hw'⟩; obtain rfl := hw'.symm; rw [HO2.out]) | (go_at_call 164; refine (one_int s (a + 3) _ _ (by omega) hs1 (by omega)).mono ?_; rintro e w' ⟨rfl, hw'⟩; obtain rfl := hw'.symm; rw [HO3.out]) | (go_at_call 165; refine (goes_int s (a + 1) _ _ (by omega) hs1 (by omega)).mono ?_; rintro e w' ⟨rfl, hw'⟩; obtain rfl := hw'.symm; rw [HG1.out]) | (go_at_call 165; refine (goes_int s (a + 2) _ _ (by omega) hs1 (by omega)).mono ?_; rintro e w' ⟨rfl, hw'⟩; obtain rfl := hw'.symm; rw [HG2.out]) | (go_at_call 165; refine (goes_int s (a + 3) _ _ (by omega) hs1 (by omega)).mono ?_; rintro e w' ⟨rfl, hw'⟩; obtain rfl := hw'.symm; rw [HG3.out]) | fail)
  all_goals refine bodyPost_ret (v := .tuple #[.int .i64 (0), .int .i64 0]) (by simp [results, Tryz.results94, go_sem]) rfl (rune_post (r := 0) (n := 0) HZ.out (by omega))
set_option maxHeartbeats 1000000 in
set_option maxRecDepth 100000 in
theorem rune_4 (s : ByteArray) (a : Nat) (w : World) (hs : s.size ≤ 300000) (ha : a ≤ s.size) (c d1 d2 d3 : Nat) (k0 : 240 ≤ c) (k1 : c < 248) (k2 : 128 ≤ d1 ∧ d1 < 192) (k3 : 128 ≤ d2 ∧ d2 < 192) (k4 : 128 ≤ d3 ∧ d3 < 192) (k5 : 65536 ≤ (c - 240) * 262144 + (d1 - 128) * 4096 + (d2 - 128) * 64 + (d3 - 128) ∧ (c - 240) * 262144 + (d1 - 128) * 4096 + (d2 - 128) * 64 + (d3 - 128) ≤ 1114111) (HO0 : Hid (oneAt s (a) = (c : Nat))) (HO1 : Hid (oneAt s (a + 1) = (d1 : Nat))) (HO2 : Hid (oneAt s (a + 2) = (d2 : Nat))) (HO3 : Hid (oneAt s (a + 3) = (d3 : Nat))) (HG1 : Hid (goesAt s (a + 1) = true)) (HG2 : Hid (goesAt s (a + 2) = true)) (HG3 : Hid (goesAt s (a + 3) = true)) (HZ : Hid (Lx.rune (sfx s a) = ((c - 240) * 262144 + (d1 - 128) * 4096 + (d2 - 128) * 64 + (d3 - 128), 4))) :
    Calls Tryz.prog 94 #[.string s, .int .i64 a] w (RunePost s a w) := by
  have hs1 : s.size ≤ 9223372036854775807 := by omega
  have hi0 : (0 : Int) ≤ (a : Int) := Int.natCast_nonneg _
  go_enter Tryz.func94, Tryz.ntmps94
  go_wp2_with (first | (go_at_call 164; refine (one_int s (a) _ _ (by omega) hs1 (by omega)).mono ?_; rintro e w' ⟨rfl, hw'⟩; obtain rfl := hw'.symm; rw [HO0.out]) | (go_at_call 164; refine (one_int s (a + 1) _ _ (by omega) hs1 (by omega)).mono ?_; rintro e w' ⟨rfl, hw'⟩; obtain rfl := hw'.symm; rw [HO1.out]) | (go_at_call 164; refine (one_int s (a + 2) _ _ (by omega) hs1 (by omega)).mono ?_; rintro e w' ⟨rfl, hw'⟩; obtain rfl := hw'.symm; rw [HO2.out]) | (go_at_call 164; refine (one_int s (a + 3) _ _ (by omega) hs1 (by omega)).mono ?_; rintro e w' ⟨rfl, hw'⟩; obtain rfl := hw'.symm; rw [HO3.out]) | (go_at_call 165; refine (goes_int s (a + 1) _ _ (by omega) hs1 (by omega)).mono ?_; rintro e w' ⟨rfl, hw'⟩; obtain rfl := hw'.symm; rw [HG1.out]) | (go_at_call 165; refine (goes_int s (a + 2) _ _ (by omega) hs1 (by omega)).mono ?_; rintro e w' ⟨rfl, hw'⟩; obtain rfl := hw'.symm; rw [HG2.out]) | (go_at_call 165; refine (goes_int s (a + 3) _ _ (by omega) hs1 (by omega)).mono ?_; rintro e w' ⟨rfl, hw'⟩; obtain rfl := hw'.symm; rw [HG3.out]) | fail)
  all_goals refine bodyPost_ret (v := .tuple #[.int .i64 (((c : Int) - 240) * 262144 + ((d1 : Int) - 128) * 4096 + ((d2 : Int) - 128) * 64 + (d3 : Int) - 128), .int .i64 4]) (by simp [results, Tryz.results94, go_sem]) rfl (rune_post (r := (c - 240) * 262144 + (d1 - 128) * 4096 + (d2 - 128) * 64 + (d3 - 128)) (n := 4) HZ.out (by omega))

theorem refRune_big (s : ByteArray) (a : Nat) (w : World) (hs : s.size ≤ 300000) (ha : a ≤ s.size) :
    Calls Tryz.prog 94 #[.string s, .int .i64 a] w (RunePost s a w) := by
  by_cases hlt : a < s.size
  · have hr := rune_bt s a hlt
    have H0 : Hid (oneAt s a = (bt s a).toNat) := by unfold oneAt; rw [if_pos hlt]; exact Lib.hid rfl
    have hc256 := bt_lt s a
    generalize (bt s a).toNat = c at *
    by_cases k1 : c < 128
    · rw [if_pos k1] at hr
      exact rune_1 s a w hs ha c k1 H0 (Lib.hid hr)
    rw [if_neg k1] at hr
    by_cases k2 : c < 192
    · rw [if_neg (by omega), if_neg (by omega), if_neg (by omega)] at hr
      exact rune_c s a w hs ha c (by omega) k2 H0 (Lib.hid hr)
    by_cases k8 : 248 ≤ c
    · rw [if_neg (by omega), if_neg (by omega), if_neg (by omega)] at hr
      exact rune_h s a w hs ha c k8 hc256 H0 (Lib.hid hr)
    cases hg1 : goesAt s (a + 1)
    · rw [if_neg (by simp [hg1]), if_neg (by simp [hg1]), if_neg (by simp [hg1])] at hr
      by_cases k3 : c < 224
      · exact rune_2n s a w hs ha c (by omega) k3 H0 (Lib.hid hg1) (Lib.hid hr)
      by_cases k5 : c < 240
      · exact rune_3n s a w hs ha c (by omega) k5 H0 (Lib.hid hg1) (Lib.hid hr)
      · exact rune_4n s a w hs ha c (by omega) (by omega) H0 (Lib.hid hg1) (Lib.hid hr)
    obtain ⟨ho1, h1a, h1b⟩ := one_goes hg1
    generalize (bt s (a + 1)).toNat = d1 at *
    by_cases k3 : c < 224
    · rw [if_pos ⟨by omega, by omega, hg1⟩] at hr
      by_cases q : 128 ≤ (c - 192) * 64 + (d1 - 128)
      · rw [if_pos q] at hr
        exact rune_2 s a w hs ha c d1 (by omega) k3 ⟨h1a, h1b⟩ q H0 (Lib.hid ho1) (Lib.hid hg1) (Lib.hid hr)
      · rw [if_neg q] at hr
        exact rune_2s s a w hs ha c d1 (by omega) k3 ⟨h1a, h1b⟩ q H0 (Lib.hid ho1) (Lib.hid hg1) (Lib.hid hr)
    rw [if_neg (by omega)] at hr
    cases hg2 : goesAt s (a + 2)
    · rw [if_neg (by simp [hg2]), if_neg (by simp [hg2])] at hr
      by_cases k5 : c < 240
      · exact rune_3m s a w hs ha c (by omega) k5 H0 (Lib.hid hg1) (Lib.hid hg2) (Lib.hid hr)
      · exact rune_4m s a w hs ha c (by omega) (by omega) H0 (Lib.hid hg1) (Lib.hid hg2) (Lib.hid hr)
    obtain ⟨ho2, h2a, h2b⟩ := one_goes hg2
    generalize (bt s (a + 2)).toNat = d2 at *
    by_cases k5 : c < 240
    · rw [if_pos ⟨by omega, by omega, hg1, hg2⟩] at hr
      by_cases q : 2048 ≤ (c - 224) * 4096 + (d1 - 128) * 64 + (d2 - 128) ∧ ((c - 224) * 4096 + (d1 - 128) * 64 + (d2 - 128) < 55296 ∨ 57343 < (c - 224) * 4096 + (d1 - 128) * 64 + (d2 - 128))
      · rw [if_pos q] at hr
        exact rune_3 s a w hs ha c d1 d2 (by omega) k5 ⟨h1a, h1b⟩ ⟨h2a, h2b⟩ q H0 (Lib.hid ho1) (Lib.hid ho2) (Lib.hid hg1) (Lib.hid hg2) (Lib.hid hr)
      · rw [if_neg q] at hr
        exact rune_3s s a w hs ha c d1 d2 (by omega) k5 ⟨h1a, h1b⟩ ⟨h2a, h2b⟩ q H0 (Lib.hid ho1) (Lib.hid ho2) (Lib.hid hg1) (Lib.hid hg2) (Lib.hid hr)
    rw [if_neg (by omega)] at hr
    cases hg3 : goesAt s (a + 3)
    · rw [if_neg (by simp [hg3])] at hr
      exact rune_4p s a w hs ha c (by omega) (by omega) H0 (Lib.hid hg1) (Lib.hid hg2) (Lib.hid hg3) (Lib.hid hr)
    obtain ⟨ho3, h3a, h3b⟩ := one_goes hg3
    generalize (bt s (a + 3)).toNat = d3 at *
    rw [if_pos ⟨by omega, by omega, hg1, hg2, hg3⟩] at hr
    by_cases q : 65536 ≤ (c - 240) * 262144 + (d1 - 128) * 4096 + (d2 - 128) * 64 + (d3 - 128) ∧ (c - 240) * 262144 + (d1 - 128) * 4096 + (d2 - 128) * 64 + (d3 - 128) ≤ 1114111
    · rw [if_pos q] at hr
      exact rune_4 s a w hs ha c d1 d2 d3 (by omega) (by omega) ⟨h1a, h1b⟩ ⟨h2a, h2b⟩ ⟨h3a, h3b⟩ q H0 (Lib.hid ho1) (Lib.hid ho2) (Lib.hid ho3) (Lib.hid hg1) (Lib.hid hg2) (Lib.hid hg3) (Lib.hid hr)
    · rw [if_neg q] at hr
      exact rune_4s s a w hs ha c d1 d2 d3 (by omega) (by omega) ⟨h1a, h1b⟩ ⟨h2a, h2b⟩ ⟨h3a, h3b⟩ q H0 (Lib.hid ho1) (Lib.hid ho2) (Lib.hid ho3) (Lib.hid hg1) (Lib.hid hg2) (Lib.hid hg3) (Lib.hid hr)
  · have HA : Hid (oneAt s a = -1) := by unfold oneAt; rw [if_neg hlt]; exact Lib.hid rfl
    have hr : Lx.rune (sfx s a) = (0, 0) := by rw [sfx_end s a (by omega)]; rfl
    exact rune_neg s a w hs ha HA (Lib.hid hr)
theorem refRune_any (s : ByteArray) (a : Nat) (w : World) (hs : s.size ≤ 4096) (ha : a ≤ s.size) :
    Calls Tryz.prog 94 #[.string s, .int .i64 a] w (RunePost s a w) := refRune_big s a w (by omega) ha
end Go.Proofs.YtefjgpkpplkkgaaGreatDoor
namespace Go.Proofs.YtefjgpkpplkkgaaGreatDoor
set_option linter.unusedSimpArgs false
set_option linter.unusedVariables false
open Go Go.RowKit

set_option maxHeartbeats 400000 in
theorem refUtf8_any (s : ByteArray) (w : World) (hs : s.size ≤ 300000) :
    Calls Tryz.prog 36 #[.string s] w fun e w' => e = .returned (.bool (Lx.valid s.data.toList)) ∧ w' = w := by
  have H0 : Hid (Lx.validGo s.size (sfx s 0) = Lx.valid s.data.toList) := by rw [sfx_all]; exact Lib.hid rfl
  go_enter Tryz.func36, Tryz.ntmps36
  have hi0 : (0 : Int) ≤ (s.size : Int) := Int.natCast_nonneg _
  go_wp2
  go_loopg [3] s.size (fun k s3 wr => ∃ a m, a ≤ s.size ∧ k = s.size - a ∧ s.size ≤ m + a ∧ s3 = .int .i64 (a : Nat) ∧ Lx.validGo m (sfx s a) = Lx.valid s.data.toList ∧ wr = w)
  case atStart => exact ⟨0, s.size, Nat.zero_le _, by omega, by omega, rfl, H0.out, rfl⟩
  case round =>
    obtain ⟨a, m, ha, hk, hm, rfl, hv, rfl⟩ := hrel
    have HV := Lib.hid hv
    have HK := Lib.hid hk
    clear hv hk H0
    have ha0 : (0 : Int) ≤ (a : Int) := Int.natCast_nonneg _
    by_cases hlt : a < s.size
    · have hlt1 : (a : Int) < s.size := by omega
      have hn4 := Lx.rune_le4 (sfx s a)
      have hnl := Lx.rune_len (sfx s a)
      rw [sfx_len] at hnl
      obtain ⟨m, rfl⟩ : ∃ j, m = j + 1 := ⟨m - 1, by omega⟩
      have hv := HV.out
      rw [Lx.validGo, if_neg (by rw [sfx_cons s a hlt]; simp)] at hv
      clear HV
      by_cases hn : (Lx.rune (sfx s a)).2 = 0
      · rw [if_pos hn] at hv
        have HV := Lib.hid hv
        have hq := eqT (n := (Lx.rune (sfx s a)).2) (k := 0) (by omega)
        clear hv
        go_wp2_with fail
        refine (refRune_big s a _ hs ha).mono ?_
        rintro e w2 ⟨rfl, hw2⟩
        obtain rfl := hw2.symm
        go_wp2
        go_ret
        exact ⟨congrArg (fun b => Ending.returned (.bool b)) HV.out, rfl⟩
      · rw [if_neg hn, sfx_drop] at hv
        have HV := Lib.hid hv
        have hq := eqF (n := (Lx.rune (sfx s a)).2) (k := 0) (by omega)
        clear hv
        go_wp2_with fail
        refine (refRune_big s a _ hs ha).mono ?_
        rintro e w2 ⟨rfl, hw2⟩
        obtain rfl := hw2.symm
        go_wp2
        go_roundg (s.size - (a + (Lx.rune (sfx s a)).2))
        case measure => rw [HK.out]; omega
        case rel => exact ⟨a + (Lx.rune (sfx s a)).2, m, by omega, rfl, by omega, by simp, HV.out, rfl⟩
    · have hlt1 : (s.size : Int) ≤ a := by omega
      go_wp2
      go_ret
      refine ⟨?_, rfl⟩
      rw [← HV.out, sfx_end s a (by omega)]
      cases m <;> rfl

end Go.Proofs.YtefjgpkpplkkgaaGreatDoor
