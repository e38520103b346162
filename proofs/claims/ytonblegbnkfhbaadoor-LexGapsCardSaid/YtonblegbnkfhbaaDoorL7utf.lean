/-
  The document's 'UTF8' and 'Quote'.
-/
import Derived.Test.YtonblegbnkfhbaaDoorL7rune3
import Derived.Outline
import Derived.Deep.LoopGhost
import Derived.Deep.DeepCutAuto
namespace Go.Proofs.YtonblegbnkfhbaaDoor
set_option linter.unusedSimpArgs false
set_option linter.unusedVariables false
open Go Go.RowKit

set_option maxHeartbeats 400000 in
theorem refUtf8_any (s : ByteArray) (w : World) (hs : s.size ≤ 4096) :
    Calls Tryd.prog 27 #[.string s] w fun e w' => e = .returned (.bool (Lx.valid s.data.toList)) ∧ w' = w := by
  have H0 : Hid (Lx.validGo s.size (sfx s 0) = Lx.valid s.data.toList) := by rw [sfx_all]; exact Lib.hid rfl
  go_enter Tryd.func27, Tryd.ntmps27
  have hi0 : (0 : Int) ≤ (s.size : Int) := Int.natCast_nonneg _
  go_wp2
  go_loopg [3] s.size (fun k s3 wr => ∃ a m, a ≤ s.size ∧ k = s.size - a ∧ s.size ≤ m + a ∧ s3 = .int .i64 (a : Nat) ∧ Lx.validGo m (sfx s a) = Lx.valid s.data.toList ∧ wr = w)
  case atStart => exact ⟨0, s.size, Nat.zero_le _, by omega, by omega, rfl, H0.out, rfl⟩
  case round =>
    obtain ⟨a, m, ha, hk, hm, rfl, hv, rfl⟩ := hrel
    have HV := Lib.hid hv
    have HK := Lib.hid hk
    clear hv hk H0
    have ha0 : (0 : Int) ≤ (a : Int) := Int.natCast_nonneg _
    by_cases hlt : a < s.size
    · have hlt1 : (a : Int) < s.size := by omega
      have hn4 := Lx.rune_le4 (sfx s a)
      have hnl := Lx.rune_len (sfx s a)
      rw [sfx_len] at hnl
      obtain ⟨m, rfl⟩ : ∃ j, m = j + 1 := ⟨m - 1, by omega⟩
      have hv := HV.out
      rw [Lx.validGo, if_neg (by rw [sfx_cons s a hlt]; simp)] at hv
      clear HV
      by_cases hn : (Lx.rune (sfx s a)).2 = 0
      · rw [if_pos hn] at hv
        have HV := Lib.hid hv
        have hq := eqT (n := (Lx.rune (sfx s a)).2) (k := 0) (by omega)
        clear hv
        go_wp2_with fail
        refine (refRune_any s a _ hs ha).mono ?_
        rintro e w2 ⟨rfl, hw2⟩
        obtain rfl := hw2.symm
        go_wp2
        go_ret
        exact ⟨congrArg (fun b => Ending.returned (.bool b)) HV.out, rfl⟩
      · rw [if_neg hn, sfx_drop] at hv
        have HV := Lib.hid hv
        have hq := eqF (n := (Lx.rune (sfx s a)).2) (k := 0) (by omega)
        clear hv
        go_wp2_with fail
        refine (refRune_any s a _ hs ha).mono ?_
        rintro e w2 ⟨rfl, hw2⟩
        obtain rfl := hw2.symm
        go_wp2
        go_roundg (s.size - (a + (Lx.rune (sfx s a)).2))
        case measure => rw [HK.out]; omega
        case rel => exact ⟨a + (Lx.rune (sfx s a)).2, m, by omega, rfl, by omega, by simp, HV.out, rfl⟩
    · have hlt1 : (s.size : Int) ≤ a := by omega
      go_wp2
      go_ret
      refine ⟨?_, rfl⟩
      rw [← HV.out, sfx_end s a (by omega)]
      cases m <;> rfl

end Go.Proofs.YtonblegbnkfhbaaDoor
