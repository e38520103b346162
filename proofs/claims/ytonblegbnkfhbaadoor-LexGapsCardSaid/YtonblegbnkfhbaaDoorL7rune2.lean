/-
  The document's 'Rune'.
-/
import Derived.Test.YtonblegbnkfhbaaDoorL7rune
namespace Go.Proofs.YtonblegbnkfhbaaDoor
set_option linter.unusedSimpArgs false
set_option linter.unusedVariables false
open Go Go.RowKit
theorem one_int (s : ByteArray) (n : Nat) (x : Int) (w : World) (hx : x = n) (hs : s.size ≤ 9223372036854775807) (hn : n ≤ 9223372036854775807) :
    Calls Tryd.prog 47 #[.string s, .int .i64 x] w fun e w' => e = .returned (.int .i64 (oneAt s n)) ∧ w' = w := by subst hx; exact one_any s n w hs hn
theorem goes_int (s : ByteArray) (n : Nat) (x : Int) (w : World) (hx : x = n) (hs : s.size ≤ 9223372036854775807) (hn : n ≤ 9223372036854775807) :
    Calls Tryd.prog 48 #[.string s, .int .i64 x] w fun e w' => e = .returned (.bool (goesAt s n)) ∧ w' = w := by subst hx; exact goes_any s n w hs hn
theorem one_goes {s : ByteArray} {n : Nat} (h : goesAt s n = true) : oneAt s n = (bt s n).toNat ∧ 128 ≤ (bt s n).toNat ∧ (bt s n).toNat < 192 := by
  simp only [goesAt, Lx.cont, Bool.and_eq_true, decide_eq_true_eq] at h
  unfold oneAt
  rw [if_pos h.1]
  exact ⟨rfl, h.2.1, h.2.2⟩
/-- What the document's 'Rune' answers. -/
def RunePost (s : ByteArray) (a : Nat) (w : World) (e : Ending) (w' : World) : Prop :=
  e = .returned (.tuple #[.int .i64 (Lx.rune (sfx s a)).1, .int .i64 (Lx.rune (sfx s a)).2]) ∧ w' = w
theorem rune_post {s : ByteArray} {a : Nat} {w : World} {x : Int} {r n : Nat} (h : Lx.rune (sfx s a) = (r, n)) (hx : x = r) : RunePost s a w (.returned (.tuple #[.int .i64 x, .int .i64 n])) w := by
  subst hx
  exact ⟨by rw [h], rfl⟩
set_option maxHeartbeats 1000000 in
set_option maxRecDepth 100000 in
theorem rune_neg (s : ByteArray) (a : Nat) (w : World) (hs : s.size ≤ 4096) (ha : a ≤ s.size) (HO0 : Hid (oneAt s (a) = -1)) (HZ : Hid (Lx.rune (sfx s a) = (0, 0))) :
    Calls Tryd.prog 39 #[.string s, .int .i64 a] w (RunePost s a w) := by
  have hs1 : s.size ≤ 9223372036854775807 := by omega
  have hi0 : (0 : Int) ≤ (a : Int) := Int.natCast_nonneg _
  go_enter Tryd.func39, Tryd.ntmps39
  go_wp2_with (first | (go_at_call 47; refine (one_int s (a) _ _ (by omega) hs1 (by omega)).mono ?_; rintro e w' ⟨rfl, hw'⟩; obtain rfl := hw'.symm; rw [HO0.out]) | fail)
  all_goals refine bodyPost_ret (v := .tuple #[.int .i64 (0), .int .i64 0]) (by simp [results, Tryd.results39, go_sem]) rfl (rune_post (r := 0) (n := 0) HZ.out (by omega))
set_option maxHeartbeats 1000000 in
set_option maxRecDepth 100000 in
theorem rune_1 (s : ByteArray) (a : Nat) (w : World) (hs : s.size ≤ 4096) (ha : a ≤ s.size) (c : Nat) (k0 : c < 128) (HO0 : Hid (oneAt s (a) = (c : Nat))) (HZ : Hid (Lx.rune (sfx s a) = (c, 1))) :
    Calls Tryd.prog 39 #[.string s, .int .i64 a] w (RunePost s a w) := by
  have hs1 : s.size ≤ 9223372036854775807 := by omega
  have hi0 : (0 : Int) ≤ (a : Int) := Int.natCast_nonneg _
  go_enter Tryd.func39, Tryd.ntmps39
  go_wp2_with (first | (go_at_call 47; refine (one_int s (a) _ _ (by omega) hs1 (by omega)).mono ?_; rintro e w' ⟨rfl, hw'⟩; obtain rfl := hw'.symm; rw [HO0.out]) | fail)
  all_goals refine bodyPost_ret (v := .tuple #[.int .i64 ((c : Int)), .int .i64 1]) (by simp [results, Tryd.results39, go_sem]) rfl (rune_post (r := c) (n := 1) HZ.out (by omega))
set_option maxHeartbeats 1000000 in
set_option maxRecDepth 100000 in
theorem rune_c (s : ByteArray) (a : Nat) (w : World) (hs : s.size ≤ 4096) (ha : a ≤ s.size) (c : Nat) (k0 : 128 ≤ c) (k1 : c < 192) (HO0 : Hid (oneAt s (a) = (c : Nat))) (HZ : Hid (Lx.rune (sfx s a) = (0, 0))) :
    Calls Tryd.prog 39 #[.string s, .int .i64 a] w (RunePost s a w) := by
  have hs1 : s.size ≤ 9223372036854775807 := by omega
  have hi0 : (0 : Int) ≤ (a : Int) := Int.natCast_nonneg _
  go_enter Tryd.func39, Tryd.ntmps39
  go_wp2_with (first | (go_at_call 47; refine (one_int s (a) _ _ (by omega) hs1 (by omega)).mono ?_; rintro e w' ⟨rfl, hw'⟩; obtain rfl := hw'.symm; rw [HO0.out]) | fail)
  all_goals refine bodyPost_ret (v := .tuple #[.int .i64 (0), .int .i64 0]) (by simp [results, Tryd.results39, go_sem]) rfl (rune_post (r := 0) (n := 0) HZ.out (by omega))
set_option maxHeartbeats 1000000 in
set_option maxRecDepth 100000 in
theorem rune_2n (s : ByteArray) (a : Nat) (w : World) (hs : s.size ≤ 4096) (ha : a ≤ s.size) (c : Nat) (k0 : 192 ≤ c) (k1 : c < 224) (HO0 : Hid (oneAt s (a) = (c : Nat))) (HG1 : Hid (goesAt s (a + 1) = false)) (HZ : Hid (Lx.rune (sfx s a) = (0, 0))) :
    Calls Tryd.prog 39 #[.string s, .int .i64 a] w (RunePost s a w) := by
  have hs1 : s.size ≤ 9223372036854775807 := by omega
  have hi0 : (0 : Int) ≤ (a : Int) := Int.natCast_nonneg _
  go_enter Tryd.func39, Tryd.ntmps39
  go_wp2_with (first | (go_at_call 47; refine (one_int s (a) _ _ (by omega) hs1 (by omega)).mono ?_; rintro e w' ⟨rfl, hw'⟩; obtain rfl := hw'.symm; rw [HO0.out]) | (go_at_call 48; refine (goes_int s (a + 1) _ _ (by omega) hs1 (by omega)).mono ?_; rintro e w' ⟨rfl, hw'⟩; obtain rfl := hw'.symm; rw [HG1.out]) | fail)
  all_goals refine bodyPost_ret (v := .tuple #[.int .i64 (0), .int .i64 0]) (by simp [results, Tryd.results39, go_sem]) rfl (rune_post (r := 0) (n := 0) HZ.out (by omega))
set_option maxHeartbeats 1000000 in
set_option maxRecDepth 100000 in
theorem rune_2s (s : ByteArray) (a : Nat) (w : World) (hs : s.size ≤ 4096) (ha : a ≤ s.size) (c d1 : Nat) (k0 : 192 ≤ c) (k1 : c < 224) (k2 : 128 ≤ d1 ∧ d1 < 192) (k3 : ¬ 128 ≤ (c - 192) * 64 + (d1 - 128)) (HO0 : Hid (oneAt s (a) = (c : Nat))) (HO1 : Hid (oneAt s (a + 1) = (d1 : Nat))) (HG1 : Hid (goesAt s (a + 1) = true)) (HZ : Hid (Lx.rune (sfx s a) = (0, 0))) :
    Calls Tryd.prog 39 #[.string s, .int .i64 a] w (RunePost s a w) := by
  have hs1 : s.size ≤ 9223372036854775807 := by omega
  have hi0 : (0 : Int) ≤ (a : Int) := Int.natCast_nonneg _
  go_enter Tryd.func39, Tryd.ntmps39
  go_wp2_with (first | (go_at_call 47; refine (one_int s (a) _ _ (by omega) hs1 (by omega)).mono ?_; rintro e w' ⟨rfl, hw'⟩; obtain rfl := hw'.symm; rw [HO0.out]) | (go_at_call 47; refine (one_int s (a + 1) _ _ (by omega) hs1 (by omega)).mono ?_; rintro e w' ⟨rfl, hw'⟩; obtain rfl := hw'.symm; rw [HO1.out]) | (go_at_call 48; refine (goes_int s (a + 1) _ _ (by omega) hs1 (by omega)).mono ?_; rintro e w' ⟨rfl, hw'⟩; obtain rfl := hw'.symm; rw [HG1.out]) | fail)
  all_goals refine bodyPost_ret (v := .tuple #[.int .i64 (0), .int .i64 0]) (by simp [results, Tryd.results39, go_sem]) rfl (rune_post (r := 0) (n := 0) HZ.out (by omega))
set_option maxHeartbeats 1000000 in
set_option maxRecDepth 100000 in
theorem rune_2 (s : ByteArray) (a : Nat) (w : World) (hs : s.size ≤ 4096) (ha : a ≤ s.size) (c d1 : Nat) (k0 : 192 ≤ c) (k1 : c < 224) (k2 : 128 ≤ d1 ∧ d1 < 192) (k3 : 128 ≤ (c - 192) * 64 + (d1 - 128)) (HO0 : Hid (oneAt s (a) = (c : Nat))) (HO1 : Hid (oneAt s (a + 1) = (d1 : Nat))) (HG1 : Hid (goesAt s (a + 1) = true)) (HZ : Hid (Lx.rune (sfx s a) = ((c - 192) * 64 + (d1 - 128), 2))) :
    Calls Tryd.prog 39 #[.string s, .int .i64 a] w (RunePost s a w) := by
  have hs1 : s.size ≤ 9223372036854775807 := by omega
  have hi0 : (0 : Int) ≤ (a : Int) := Int.natCast_nonneg _
  go_enter Tryd.func39, Tryd.ntmps39
  go_wp2_with (first | (go_at_call 47; refine (one_int s (a) _ _ (by omega) hs1 (by omega)).mono ?_; rintro e w' ⟨rfl, hw'⟩; obtain rfl := hw'.symm; rw [HO0.out]) | (go_at_call 47; refine (one_int s (a + 1) _ _ (by omega) hs1 (by omega)).mono ?_; rintro e w' ⟨rfl, hw'⟩; obtain rfl := hw'.symm; rw [HO1.out]) | (go_at_call 48; refine (goes_int s (a + 1) _ _ (by omega) hs1 (by omega)).mono ?_; rintro e w' ⟨rfl, hw'⟩; obtain rfl := hw'.symm; rw [HG1.out]) | fail)
  all_goals refine bodyPost_ret (v := .tuple #[.int .i64 (((c : Int) - 192) * 64 + (d1 : Int) - 128), .int .i64 2]) (by simp [results, Tryd.results39, go_sem]) rfl (rune_post (r := (c - 192) * 64 + (d1 - 128)) (n := 2) HZ.out (by omega))
set_option maxHeartbeats 1000000 in
set_option maxRecDepth 100000 in
theorem rune_3n (s : ByteArray) (a : Nat) (w : World) (hs : s.size ≤ 4096) (ha : a ≤ s.size) (c : Nat) (k0 : 224 ≤ c) (k1 : c < 240) (HO0 : Hid (oneAt s (a) = (c : Nat))) (HG1 : Hid (goesAt s (a + 1) = false)) (HZ : Hid (Lx.rune (sfx s a) = (0, 0))) :
    Calls Tryd.prog 39 #[.string s, .int .i64 a] w (RunePost s a w) := by
  have hs1 : s.size ≤ 9223372036854775807 := by omega
  have hi0 : (0 : Int) ≤ (a : Int) := Int.natCast_nonneg _
  go_enter Tryd.func39, Tryd.ntmps39
  go_wp2_with (first | (go_at_call 47; refine (one_int s (a) _ _ (by omega) hs1 (by omega)).mono ?_; rintro e w' ⟨rfl, hw'⟩; obtain rfl := hw'.symm; rw [HO0.out]) | (go_at_call 48; refine (goes_int s (a + 1) _ _ (by omega) hs1 (by omega)).mono ?_; rintro e w' ⟨rfl, hw'⟩; obtain rfl := hw'.symm; rw [HG1.out]) | fail)
  all_goals refine bodyPost_ret (v := .tuple #[.int .i64 (0), .int .i64 0]) (by simp [results, Tryd.results39, go_sem]) rfl (rune_post (r := 0) (n := 0) HZ.out (by omega))
set_option maxHeartbeats 1000000 in
set_option maxRecDepth 100000 in
theorem rune_3m (s : ByteArray) (a : Nat) (w : World) (hs : s.size ≤ 4096) (ha : a ≤ s.size) (c : Nat) (k0 : 224 ≤ c) (k1 : c < 240) (HO0 : Hid (oneAt s (a) = (c : Nat))) (HG1 : Hid (goesAt s (a + 1) = true)) (HG2 : Hid (goesAt s (a + 2) = false)) (HZ : Hid (Lx.rune (sfx s a) = (0, 0))) :
    Calls Tryd.prog 39 #[.string s, .int .i64 a] w (RunePost s a w) := by
  have hs1 : s.size ≤ 9223372036854775807 := by omega
  have hi0 : (0 : Int) ≤ (a : Int) := Int.natCast_nonneg _
  go_enter Tryd.func39, Tryd.ntmps39
  go_wp2_with (first | (go_at_call 47; refine (one_int s (a) _ _ (by omega) hs1 (by omega)).mono ?_; rintro e w' ⟨rfl, hw'⟩; obtain rfl := hw'.symm; rw [HO0.out]) | (go_at_call 48; refine (goes_int s (a + 1) _ _ (by omega) hs1 (by omega)).mono ?_; rintro e w' ⟨rfl, hw'⟩; obtain rfl := hw'.symm; rw [HG1.out]) | (go_at_call 48; refine (goes_int s (a + 2) _ _ (by omega) hs1 (by omega)).mono ?_; rintro e w' ⟨rfl, hw'⟩; obtain rfl := hw'.symm; rw [HG2.out]) | fail)
  all_goals refine bodyPost_ret (v := .tuple #[.int .i64 (0), .int .i64 0]) (by simp [results, Tryd.results39, go_sem]) rfl (rune_post (r := 0) (n := 0) HZ.out (by omega))
set_option maxHeartbeats 1000000 in
set_option maxRecDepth 100000 in
theorem rune_3s (s : ByteArray) (a : Nat) (w : World) (hs : s.size ≤ 4096) (ha : a ≤ s.size) (c d1 d2 : Nat) (k0 : 224 ≤ c) (k1 : c < 240) (k2 : 128 ≤ d1 ∧ d1 < 192) (k3 : 128 ≤ d2 ∧ d2 < 192) (k4 : ¬ (2048 ≤ (c - 224) * 4096 + (d1 - 128) * 64 + (d2 - 128) ∧ ((c - 224) * 4096 + (d1 - 128) * 64 + (d2 - 128) < 55296 ∨ 57343 < (c - 224) * 4096 + (d1 - 128) * 64 + (d2 - 128)))) (HO0 : Hid (oneAt s (a) = (c : Nat))) (HO1 : Hid (oneAt s (a + 1) = (d1 : Nat))) (HO2 : Hid (oneAt s (a + 2) = (d2 : Nat))) (HG1 : Hid (goesAt s (a + 1) = true)) (HG2 : Hid (goesAt s (a + 2) = true)) (HZ : Hid (Lx.rune (sfx s a) = (0, 0))) :
    Calls Tryd.prog 39 #[.string s, .int .i64 a] w (RunePost s a w) := by
  have hs1 : s.size ≤ 9223372036854775807 := by omega
  have hi0 : (0 : Int) ≤ (a : Int) := Int.natCast_nonneg _
  go_enter Tryd.func39, Tryd.ntmps39
  go_wp2_with (first | (go_at_call 47; refine (one_int s (a) _ _ (by omega) hs1 (by omega)).mono ?_; rintro e w' ⟨rfl, hw'⟩; obtain rfl := hw'.symm; rw [HO0.out]) | (go_at_call 47; refine (one_int s (a + 1) _ _ (by omega) hs1 (by omega)).mono ?_; rintro e w' ⟨rfl, hw'⟩; obtain rfl := hw'.symm; rw [HO1.out]) | (go_at_call 47; refine (one_int s (a + 2) _ _ (by omega) hs1 (by omega)).mono ?_; rintro e w' ⟨rfl, hw'⟩; obtain rfl := hw'.symm; rw [HO2.out]) | (go_at_call 48; refine (goes_int s (a + 1) _ _ (by omega) hs1 (by omega)).mono ?_; rintro e w' ⟨rfl, hw'⟩; obtain rfl := hw'.symm; rw [HG1.out]) | (go_at_call 48; refine (goes_int s (a + 2) _ _ (by omega) hs1 (by omega)).mono ?_; rintro e w' ⟨rfl, hw'⟩; obtain rfl := hw'.symm; rw [HG2.out]) | fail)
  all_goals refine bodyPost_ret (v := .tuple #[.int .i64 (0), .int .i64 0]) (by simp [results, Tryd.results39, go_sem]) rfl (rune_post (r := 0) (n := 0) HZ.out (by omega))
set_option maxHeartbeats 1000000 in
set_option maxRecDepth 100000 in
theorem rune_3 (s : ByteArray) (a : Nat) (w : World) (hs : s.size ≤ 4096) (ha : a ≤ s.size) (c d1 d2 : Nat) (k0 : 224 ≤ c) (k1 : c < 240) (k2 : 128 ≤ d1 ∧ d1 < 192) (k3 : 128 ≤ d2 ∧ d2 < 192) (k4 : 2048 ≤ (c - 224) * 4096 + (d1 - 128) * 64 + (d2 - 128) ∧ ((c - 224) * 4096 + (d1 - 128) * 64 + (d2 - 128) < 55296 ∨ 57343 < (c - 224) * 4096 + (d1 - 128) * 64 + (d2 - 128))) (HO0 : Hid (oneAt s (a) = (c : Nat))) (HO1 : Hid (oneAt s (a + 1) = (d1 : Nat))) (HO2 : Hid (oneAt s (a + 2) = (d2 : Nat))) (HG1 : Hid (goesAt s (a + 1) = true)) (HG2 : Hid (goesAt s (a + 2) = true)) (HZ : Hid (Lx.rune (sfx s a) = ((c - 224) * 4096 + (d1 - 128) * 64 + (d2 - 128), 3))) :
    Calls Tryd.prog 39 #[.string s, .int .i64 a] w (RunePost s a w) := by
  have hs1 : s.size ≤ 9223372036854775807 := by omega
  have hi0 : (0 : Int) ≤ (a : Int) := Int.natCast_nonneg _
  go_enter Tryd.func39, Tryd.ntmps39
  go_wp2_with (first | (go_at_call 47; refine (one_int s (a) _ _ (by omega) hs1 (by omega)).mono ?_; rintro e w' ⟨rfl, hw'⟩; obtain rfl := hw'.symm; rw [HO0.out]) | (go_at_call 47; refine (one_int s (a + 1) _ _ (by omega) hs1 (by omega)).mono ?_; rintro e w' ⟨rfl, hw'⟩; obtain rfl := hw'.symm; rw [HO1.out]) | (go_at_call 47; refine (one_int s (a + 2) _ _ (by omega) hs1 (by omega)).mono ?_; rintro e w' ⟨rfl, hw'⟩; obtain rfl := hw'.symm; rw [HO2.out]) | (go_at_call 48; refine (goes_int s (a + 1) _ _ (by omega) hs1 (by omega)).mono ?_; rintro e w' ⟨rfl, hw'⟩; obtain rfl := hw'.symm; rw [HG1.out]) | (go_at_call 48; refine (goes_int s (a + 2) _ _ (by omega) hs1 (by omega)).mono ?_; rintro e w' ⟨rfl, hw'⟩; obtain rfl := hw'.symm; rw [HG2.out]) | fail)
  all_goals refine bodyPost_ret (v := .tuple #[.int .i64 (((c : Int) - 224) * 4096 + ((d1 : Int) - 128) * 64 + (d2 : Int) - 128), .int .i64 3]) (by simp [results, Tryd.results39, go_sem]) rfl (rune_post (r := (c - 224) * 4096 + (d1 - 128) * 64 + (d2 - 128)) (n := 3) HZ.out (by omega))
set_option maxHeartbeats 1000000 in
set_option maxRecDepth 100000 in
theorem rune_h (s : ByteArray) (a : Nat) (w : World) (hs : s.size ≤ 4096) (ha : a ≤ s.size) (c : Nat) (k0 : 248 ≤ c) (k1 : c < 256) (HO0 : Hid (oneAt s (a) = (c : Nat))) (HZ : Hid (Lx.rune (sfx s a) = (0, 0))) :
    Calls Tryd.prog 39 #[.string s, .int .i64 a] w (RunePost s a w) := by
  have hs1 : s.size ≤ 9223372036854775807 := by omega
  have hi0 : (0 : Int) ≤ (a : Int) := Int.natCast_nonneg _
  go_enter Tryd.func39, Tryd.ntmps39
  go_wp2_with (first | (go_at_call 47; refine (one_int s (a) _ _ (by omega) hs1 (by omega)).mono ?_; rintro e w' ⟨rfl, hw'⟩; obtain rfl := hw'.symm; rw [HO0.out]) | fail)
  all_goals refine bodyPost_ret (v := .tuple #[.int .i64 (0), .int .i64 0]) (by simp [results, Tryd.results39, go_sem]) rfl (rune_post (r := 0) (n := 0) HZ.out (by omega))
end Go.Proofs.YtonblegbnkfhbaaDoor
