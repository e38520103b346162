/-
  The lexer's 'gap', walked.
-/
import Derived.Test.YtonblegbnkfhbaaDoorLxw2
import Derived.Test.YtonblegbnkfhbaaDoorLxg
import Derived.Outline
import Derived.Deep.LoopGhost
namespace Go.Proofs.YtonblegbnkfhbaaDoor
set_option linter.unusedSimpArgs false
set_option linter.unusedVariables false
open Go Go.RowKit


set_option maxHeartbeats 4000000 in
set_option maxRecDepth 100000 in
theorem gap_any (bx : Nat) (s : ByteArray) (a : Nat) (w : World) (hs : s.size ≤ 4096) (hat : a ≤ s.size) (h : Scan w bx s a) (hE : Env w) (h3 : 3 ≤ bx) :
    Calls Tryd.prog 16 #[.pointer (some ⟨bx, 0, none⟩)] w fun e w' => ∃ b r, a ≤ b ∧ b ≤ s.size ∧ Lx.gap (decide (a = 0)) (sfx s a) = (sfx s b, r) ∧ e = .returned (.bool r) ∧ Scan w' bx s b ∧ Fr bx w w' := by
  go_enter Tryd.func16, Tryd.ntmps16
  go_wp2
  go_loopg [] (s.size - a) (fun k wr => ∃ b, k = s.size - b ∧ a ≤ b ∧ b ≤ s.size ∧ Lx.gap (decide (b = 0)) (sfx s b) = Lx.gap (decide (a = 0)) (sfx s a) ∧ Scan wr bx s b ∧ Fr bx w wr)
  case atStart => exact ⟨a, rfl, Nat.le_refl _, hat, rfl, h, But.refl _ _⟩
  case round =>
    obtain ⟨b, hk, hab, hb, hd, hS, hF⟩ := hrel
    obtain ⟨wo, rfl⟩ : ∃ wo : World, wo = wr := ⟨_, rfl⟩
    have hE0 := Lib.hid hE
    have c0 := hS.c0; have c1 := hS.c1; have f1 := hS.f1
    have HD := Lib.hid hd; have HK := Lib.hid hk
    clear hd hk h hE
    by_cases hlt : b < s.size
    · have hi0 : (0 : Int) ≤ (b : Int) := Int.natCast_nonneg _
      have hi1 : (b : Int) < s.size := by omega
      have HC := Lib.hid (sfx_cons s b hlt)
      cases hbl : Lx.isBlank (bt s b)
      · have hn := hbl
        simp only [Lx.isBlank, Bool.or_eq_false_iff, decide_eq_false_iff_not] at hn
        obtain ⟨⟨⟨⟨n1, n2⟩, n3⟩, n4⟩, n5⟩ := hn
        have e1 := eqF (n := (bt s b).toNat) (k := 32) (by omega); have e2 := eqF (n := (bt s b).toNat) (k := 9) (by omega); have e3 := eqF (n := (bt s b).toNat) (k := 10) (by omega)
        have e4 := eqF (n := (bt s b).toNat) (k := 13) (by omega); have e5 := eqF (n := (bt s b).toNat) (k := 44) (by omega)
        have HBL := Lib.hid hbl
        clear hbl n1 n2 n3 n4 n5
        by_cases hbom : b = 0 ∧ Lx.bom (sfx s b) = true
        · obtain ⟨rfl, hbm⟩ := hbom
          have hsz : 3 ≤ s.size := by
            have h1 := hbm
            rw [Lx.bom, decide_eq_true_eq] at h1
            have h2 := congrArg List.length h1
            rw [List.length_take, sfx_len] at h2
            simp at h2; omega
          have hpr : Lib.hasPrefix s.data.toList [239, 187, 191] = true := by rw [← Lx.bom_prefix, ← sfx_all]; exact hbm
          have c1' : wo.cell? ⟨bx, 1, none⟩ = some (.int .i64 0) := c1
          have HBM := Lib.hid hbm
          have HPR := Lib.hid hpr
          clear c1 hbm hpr
          go_wp2
          go_quiet (fail)
          go_wp2
          go_quiet (fail)
          go_wp2_with (go_at_call 28; refine (Tryd.strings_HasPrefix _ _ _).mono ?_; rintro e w' ⟨rfl, rfl⟩; rw [HPR.out])
          go_roundg (s.size - 3)
          case measure => rw [HK.out]; omega
          case rel =>
            refine ⟨3, rfl, by omega, hsz, ?_, (hS.drewN _).put 3, by (repeat' (first | (with_reducible assumption) | (with_reducible exact But.refl _ _) | (with_reducible refine But.drewN ?_ _) | (with_reducible refine But.drew ?_) | (with_reducible refine Fr.set ?_ _ _) | (with_reducible refine But.alloc ?_ _)))⟩
            rw [← HD.out]
            have hg := Lx.gap_bom HBL.out (t := sfx s 1) (by have := HBM.out; rwa [sfx_cons s 0 hlt] at this)
            have e0 : sfx s 0 = bt s 0 :: sfx s 1 := HC.out
            rw [e0]
            refine Eq.trans ?_ hg.symm
            rw [← e0, sfx_drop]
            rfl
        · have hcase : (((b : Int) == 0) = true ∧ Lib.hasPrefix s.data.toList [239, 187, 191] = false) ∨ ((b : Int) == 0) = false := by
            by_cases hb0 : b = 0
            · refine .inl ⟨eqT (by omega), ?_⟩
              rw [← Lx.bom_prefix, ← sfx_all]
              subst hb0
              simpa using hbom
            · exact .inr (eqF (by omega))
          have HP : Hid (¬ (decide (b = 0) = true ∧ Lx.bom (bt s b :: sfx s (b + 1)) = true)) := by
            rw [← HC.out]
            intro h
            exact hbom ⟨by simpa using h.1, h.2⟩
          clear hbom
          by_cases h35 : (bt s b).toNat = 35
          · have H35 := Lib.hid h35
            have e6 := eqT (n := (bt s b).toNat) (k := 35) (by omega)
            clear h35
            rcases hcase with ⟨e0, hpr⟩ | e0
            all_goals
              try (have HPR := Lib.hid hpr; clear hpr)
              go_wp2
              go_quiet (fail)
              go_wp2
              go_quiet (fail)
              go_wp2_with (go_at_call 28; refine (Tryd.strings_HasPrefix _ _ _).mono ?_; rintro e w' ⟨rfl, rfl⟩; rw [HPR.out])
              clear c0 c1 f1 e0 e1 e2 e3 e4 e5 e6
              go_loopg [] (s.size - b) (fun k wi => ∃ d, k = s.size - d ∧ b ≤ d ∧ d ≤ s.size ∧ Lx.remark (sfx s d) = Lx.remark (sfx s (b + 1)) ∧ Scan wi bx s d ∧ Fr bx w wi)
              case atStart => exact ⟨b, rfl, Nat.le_refl _, hb, by rw [HC.out, Lx.remark_hash H35.out], by (repeat' (first | (with_reducible assumption) | (with_reducible refine Scan.drewN ?_ _) | (with_reducible refine Scan.drew ?_))), by (repeat' (first | (with_reducible assumption) | (with_reducible exact But.refl _ _) | (with_reducible refine But.drewN ?_ _) | (with_reducible refine But.drew ?_) | (with_reducible refine Fr.set ?_ _ _) | (with_reducible refine But.alloc ?_ _)))⟩
              case round =>
                obtain ⟨d, hk, hbd, hd, hm, hS', hF'⟩ := hrel
                have hE' := hE0.out.fr hF' h3
                have c0 := hS'.c0; have c1 := hS'.c1; have f1 := hS'.f1
                have HM := Lib.hid hm; have HK2 := Lib.hid hk
                clear hm hk
                by_cases hdl : d < s.size
                · have hi0 : (0 : Int) ≤ (d : Int) := Int.natCast_nonneg _
                  have hi1 : (d : Int) < s.size := by omega
                  have HCd := Lib.hid (sfx_cons s d hdl)
                  by_cases hnl : (bt s d).toNat = 10 ∨ (bt s d).toNat = 13
                  · have hbd' : b < d := by
                      rcases Nat.lt_or_ge b d with h' | h'
                      · exact h'
                      · have hbe : d = b := by omega
                        rw [hbe, H35.out] at hnl
                        omega
                    have HNL := Lib.hid hnl
                    have hcase2 : (((bt s d).toNat : Int) != 10) = false ∨ (((bt s d).toNat : Int) != 10) = true ∧ (((bt s d).toNat : Int) != 13) = false := by
                      rcases hnl with h' | h'
                      · exact .inl (neF (by omega))
                      · exact .inr ⟨neT (by omega), neF (by omega)⟩
                    clear hnl
                    rcases hcase2 with e1 | ⟨e1, e2⟩
                    all_goals
                      go_wp2
                      go_quiet (fail)
                      go_wp2
                      go_roundg (s.size - d)
                      case measure => rw [HK.out]; omega
                      case rel =>
                        refine ⟨d, rfl, by omega, hd, ?_, by (repeat' (first | (with_reducible assumption) | (with_reducible refine Scan.drewN ?_ _) | (with_reducible refine Scan.drew ?_))), by (repeat' (first | (with_reducible assumption) | (with_reducible exact But.refl _ _) | (with_reducible refine But.drewN ?_ _) | (with_reducible refine But.drew ?_) | (with_reducible refine Fr.set ?_ _ _) | (with_reducible refine But.alloc ?_ _)))⟩
                        rw [← HD.out, HC.out, Lx.gap_rem H35.out, ← HM.out, HCd.out, Lx.remark_end HNL.out, if_pos rfl, decide_eq_false (by omega)]
                  · have e1 := neT (n := (bt s d).toNat) (k := 10) (by omega)
                    have e2 := neT (n := (bt s d).toNat) (k := 13) (by omega)
                    have HNL := Lib.hid hnl
                    have hn4 := Lx.rune_le4 (sfx s d)
                    have hnl2 := Lx.rune_len (sfx s d)
                    rw [sfx_len] at hnl2
                    clear hnl
                    rcases Lx.ctl_cases (Lx.rune (sfx s d)).1 (Lx.rune (sfx s d)).2 with ⟨q1, q4⟩ | ⟨q1, q2, q3, q4⟩ | ⟨q1, q2, q3, q4⟩ | ⟨q1, q2, q4⟩
                    all_goals
                      have Q4 := Lib.hid q4
                      clear q4
                      go_wp2
                      go_quiet (fail)
                      go_wp2_with fail
                      refine (rune_any bx s d _ hs hd (by (repeat' (first | (with_reducible assumption) | (with_reducible refine Scan.drewN ?_ _) | (with_reducible refine Scan.drew ?_)))) (hE'.drewN _)).mono ?_
                      rintro e w1 ⟨rfl, hb1⟩
                      have hb2 := Below.undrew hb1
                      have hS1 := hS'.below hb2
                      have hF1 : Fr bx w w1 := hF'.trans (But.of_below hb2)
                      clear hb1 c0 c1 f1
                      have c0 := hS1.c0; have c1 := hS1.c1; have f1 := hS1.f1
                      go_wp2
                      first
                      | (go_ret
                         refine ⟨d, false, by omega, hd, ?_, rfl, by (repeat' (first | (with_reducible assumption) | (with_reducible refine Scan.drewN ?_ _) | (with_reducible refine Scan.drew ?_))), by (repeat' (first | (with_reducible assumption) | (with_reducible exact But.refl _ _) | (with_reducible refine But.drewN ?_ _) | (with_reducible refine But.drew ?_) | (with_reducible refine Fr.set ?_ _ _) | (with_reducible refine But.alloc ?_ _)))⟩
                         rw [← HD.out, HC.out, Lx.gap_rem H35.out, ← HM.out, HCd.out, Lx.remark_bad HNL.out (by rw [← HCd.out]; exact Q4.out)]
                         rfl)
                      | (have q5 : (Lx.rune (sfx s d)).2 ≠ 0 := fun h => Q4.out (.inl h)
                         go_roundg (s.size - (d + (Lx.rune (sfx s d)).2))
                         case measure => rw [HK2.out]; omega
                         case rel =>
                           refine ⟨d + (Lx.rune (sfx s d)).2, rfl, by omega, by omega, ?_, hS1.put _, by (repeat' (first | (with_reducible assumption) | (with_reducible exact But.refl _ _) | (with_reducible refine But.drewN ?_ _) | (with_reducible refine But.drew ?_) | (with_reducible refine Fr.set ?_ _ _) | (with_reducible refine But.alloc ?_ _)))⟩
                           rw [← HM.out, ← sfx_drop]
                           have := Lx.remark_go HNL.out (t := sfx s (d + 1)) (by rw [← HCd.out]; exact Q4.out)
                           rw [← HCd.out] at this
                           exact this.symm)
                · have hi1 : (s.size : Int) ≤ d := by omega
                  go_wp2
                  go_quiet (fail)
                  go_wp2
                  go_roundg (s.size - d)
                  case measure => rw [HK.out]; omega
                  case rel =>
                    refine ⟨d, rfl, by omega, hd, ?_, by (repeat' (first | (with_reducible assumption) | (with_reducible refine Scan.drewN ?_ _) | (with_reducible refine Scan.drew ?_))), by (repeat' (first | (with_reducible assumption) | (with_reducible exact But.refl _ _) | (with_reducible refine But.drewN ?_ _) | (with_reducible refine But.drew ?_) | (with_reducible refine Fr.set ?_ _ _) | (with_reducible refine But.alloc ?_ _)))⟩
                    rw [← HD.out, HC.out, Lx.gap_rem H35.out, ← HM.out, sfx_end s d (by omega), Lx.remark_nil, if_pos rfl, decide_eq_false (by omega)]
          · have e6 := eqF (n := (bt s b).toNat) (k := 35) (by omega)
            have H35 := Lib.hid h35
            clear h35
            rcases hcase with ⟨e0, hpr⟩ | e0
            all_goals
              try (have HPR := Lib.hid hpr; clear hpr)
              go_wp2
              go_quiet (fail)
              go_wp2
              go_quiet (fail)
              go_wp2_with (go_at_call 28; refine (Tryd.strings_HasPrefix _ _ _).mono ?_; rintro e w' ⟨rfl, rfl⟩; rw [HPR.out])
              go_ret
              refine ⟨b, true, hab, hb, ?_, rfl, by (repeat' (first | (with_reducible assumption) | (with_reducible refine Scan.drewN ?_ _) | (with_reducible refine Scan.drew ?_))), by (repeat' (first | (with_reducible assumption) | (with_reducible exact But.refl _ _) | (with_reducible refine But.drewN ?_ _) | (with_reducible refine But.drew ?_) | (with_reducible refine Fr.set ?_ _ _) | (with_reducible refine But.alloc ?_ _)))⟩
              rw [← HD.out, HC.out]
              exact Lx.gap_stop HBL.out HP.out H35.out
      · have hn := hbl
        simp only [Lx.isBlank, Bool.or_eq_true, decide_eq_true_eq] at hn
        have HBL := Lib.hid hbl
        clear hbl
        rcases hn with (((hn | hn) | hn) | hn) | hn
        all_goals
          go_wp2
          go_quiet (fail)
          go_wp2
          go_quiet (fail)
          go_wp2
          go_roundg (s.size - (b + 1))
          case measure => rw [HK.out]; omega
          case rel =>
            refine ⟨b + 1, rfl, by omega, hlt, ?_, (hS.drewN _).put (b + 1), by (repeat' (first | (with_reducible assumption) | (with_reducible exact But.refl _ _) | (with_reducible refine But.drewN ?_ _) | (with_reducible refine But.drew ?_) | (with_reducible refine Fr.set ?_ _ _) | (with_reducible refine But.alloc ?_ _)))⟩
            rw [← HD.out, HC.out, Lx.gap_blank HBL.out]
            rfl
    · have hi1 : (s.size : Int) ≤ b := by omega
      go_wp2
      go_quiet (fail)
      go_wp2
      go_ret
      refine ⟨b, true, hab, hb, ?_, rfl, hS.drewN _, hF.drewN _⟩
      rw [← HD.out, sfx_end s b (by omega), Lx.gap_nil]
end Go.Proofs.YtonblegbnkfhbaaDoor
