/-
  'LexBlocks', walked.
-/
import Derived.Test.YtonblegbnkfhbaaDoorL7bl
import Derived.Test.YtonblegbnkfhbaaDoorL7name
import Derived.Test.YtonblegbnkfhbaaDoorL7many
namespace Go.Proofs.YtonblegbnkfhbaaDoor
set_option linter.unusedSimpArgs false
set_option linter.unusedVariables false
open Go Go.RowKit

theorem plain_all (l : List UInt8) : Lx.plain l = (Lx.isLetter (Lx.hd l) && l.all plainB) := rfl
theorem isPlain_sfx (s : ByteArray) : Lx.plain s.data.toList = (Lx.isLetter (bt s 0) && (sfx s 0).all plainB) := by
  rw [plain_all, sfx_all]
  congr 2
  rw [Lx.hd, ← sfx_all]
  by_cases h : 0 < s.size
  · rw [sfx_cons s 0 h]; rfl
  · rw [sfx_end s 0 (by omega), bt_end s 0 (by omega)]; rfl
set_option maxHeartbeats 400000 in
theorem plain_any (s : ByteArray) (w : World) (hs : s.size ≤ 9223372036854775807) :
    Calls Tryd.prog 11 #[.string s] w fun e w' => e = .returned (.bool (Lx.plain s.data.toList)) ∧ w' = w := by
  have HN := Lib.hid (isPlain_sfx s)
  by_cases h0 : 0 < s.size
  · have hne := ne_empty h0
    have hi0 : (0 : Int) < s.size := by omega
    go_enter Tryd.func11, Tryd.ntmps11
    cases hl0 : Lx.isLetter (bt s 0)
    · have HL := Lib.hid hl0
      have HR : Hid (Lx.plain s.data.toList = false) := by rw [HN.out, hl0]; rfl
      clear hl0 HN
      go_wp2_with (first | (go_at_call 18; refine (refLetter_any _ _).mono ?_; rintro e w' ⟨rfl, hw'⟩; obtain rfl := hw'.symm; rw [HL.out]) | fail)
      go_ret
      exact ⟨congrArg (fun b => Ending.returned (.bool b)) HR.out.symm, rfl⟩
    · have HL := Lib.hid hl0
      have HR : Hid (Lx.plain s.data.toList = (sfx s 0).all plainB) := by rw [HN.out, hl0]; rfl
      clear hl0 HN
      go_wp2_with (first | (go_at_call 18; refine (refLetter_any _ _).mono ?_; rintro e w' ⟨rfl, hw'⟩; obtain rfl := hw'.symm; rw [HL.out]) | fail)
      go_loopg [3] s.size (fun k i wr => wr = w ∧ ∃ a : Nat, k = s.size - a ∧ a ≤ s.size ∧ i = .int .i64 a ∧ (sfx s a).all plainB = (sfx s 0).all plainB)
      case atStart => exact ⟨rfl, 0, by omega, Nat.zero_le _, rfl, rfl⟩
      case round =>
        obtain ⟨rfl, a, hk, ha, rfl, hal⟩ := hrel
        have HK := Lib.hid hk
        have HAL := Lib.hid hal
        clear hk hal hne
        by_cases hlt : a < s.size
        · have hA := all_sfx s plainB a hlt
          have hi1 : (0 : Int) ≤ (a : Int) := Int.natCast_nonneg _
          have hi2 : (a : Int) < s.size := by omega
          cases hla : Lx.isLetter (bt s a)
          · cases hda : Lx.isDigit (bt s a)
            · have HLA := Lib.hid hla
              have HDA := Lib.hid hda
              by_cases h32 : (bt s a).toNat = 32
              · have HF : Hid ((sfx s (a + 1)).all plainB = (sfx s 0).all plainB) := by rw [← HAL.out, hA, show plainB (bt s a) = true by simp [plainB, h32]]; rfl
                have q32 := neF (n := (bt s a).toNat) (k := 32) (by omega)
                clear hla hda hA h32
                go_wp2_with (first | (go_at_call 18; refine (refLetter_any _ _).mono ?_; rintro e w' ⟨rfl, hw'⟩; obtain rfl := hw'.symm; rw [HLA.out]) | (go_at_call 19; refine (refDigit_any _ _).mono ?_; rintro e w' ⟨rfl, hw'⟩; obtain rfl := hw'.symm; rw [HDA.out]) | fail)
                go_roundg (s.size - (a + 1))
                case measure => have := HK.out; omega
                case rel => exact ⟨rfl, a + 1, rfl, hlt, rfl, HF.out⟩
              · have HF : Hid (Lx.plain s.data.toList = false) := by rw [HR.out, ← HAL.out, hA, show plainB (bt s a) = false by simp [plainB, hla, hda, h32]]; rfl
                have q32 := neT (n := (bt s a).toNat) (k := 32) (by omega)
                clear hla hda hA h32
                go_wp2_with (first | (go_at_call 18; refine (refLetter_any _ _).mono ?_; rintro e w' ⟨rfl, hw'⟩; obtain rfl := hw'.symm; rw [HLA.out]) | (go_at_call 19; refine (refDigit_any _ _).mono ?_; rintro e w' ⟨rfl, hw'⟩; obtain rfl := hw'.symm; rw [HDA.out]) | fail)
                go_ret
                exact ⟨congrArg (fun b => Ending.returned (.bool b)) HF.out.symm, rfl⟩
            · have HLA := Lib.hid hla
              have HDA := Lib.hid hda
              have HF : Hid ((sfx s (a + 1)).all plainB = (sfx s 0).all plainB) := by rw [← HAL.out, hA, show plainB (bt s a) = true by simp [plainB, hla, hda]]; rfl
              clear hla hda hA
              go_wp2_with (first | (go_at_call 18; refine (refLetter_any _ _).mono ?_; rintro e w' ⟨rfl, hw'⟩; obtain rfl := hw'.symm; rw [HLA.out]) | (go_at_call 19; refine (refDigit_any _ _).mono ?_; rintro e w' ⟨rfl, hw'⟩; obtain rfl := hw'.symm; rw [HDA.out]) | fail)
              go_roundg (s.size - (a + 1))
              case measure => have := HK.out; omega
              case rel => exact ⟨rfl, a + 1, rfl, hlt, rfl, HF.out⟩
          · have HLA := Lib.hid hla
            have HF : Hid ((sfx s (a + 1)).all plainB = (sfx s 0).all plainB) := by rw [← HAL.out, hA, show plainB (bt s a) = true by simp [plainB, hla]]; rfl
            clear hla hA
            go_wp2_with (first | (go_at_call 18; refine (refLetter_any _ _).mono ?_; rintro e w' ⟨rfl, hw'⟩; obtain rfl := hw'.symm; rw [HLA.out]) | fail)
            go_roundg (s.size - (a + 1))
            case measure => have := HK.out; omega
            case rel => exact ⟨rfl, a + 1, rfl, hlt, rfl, HF.out⟩
        · have HF : Hid (Lx.plain s.data.toList = true) := by rw [HR.out, ← HAL.out, sfx_end s a (by omega)]; rfl
          go_wp2_with fail
          go_ret
          exact ⟨congrArg (fun b => Ending.returned (.bool b)) HF.out.symm, rfl⟩
  · obtain rfl := empty_of h0
    go_enter Tryd.func11, Tryd.ntmps11
    go_wp2_with fail
    go_ret
    exact ⟨rfl, rfl⟩
end Go.Proofs.YtonblegbnkfhbaaDoor
