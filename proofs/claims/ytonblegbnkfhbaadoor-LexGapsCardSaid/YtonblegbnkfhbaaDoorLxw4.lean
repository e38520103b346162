/-
  The lexer's 'number', walked.
-/
import Derived.Test.YtonblegbnkfhbaaDoorLxw2
import Derived.Test.YtonblegbnkfhbaaDoorLxg
import Derived.Outline
import Derived.Deep.DeepCutAuto
namespace Go.Proofs.YtonblegbnkfhbaaDoor
set_option linter.unusedSimpArgs false
set_option linter.unusedVariables false
open Go Go.RowKit

theorem hd_sfx (s : ByteArray) (n : Nat) : Lx.hd (sfx s n) = bt s n := by
  have := sfx_getD s n 0
  unfold Lx.hd
  cases h : sfx s n with
  | nil => rw [h] at this; simpa using this
  | cons c t => rw [h] at this; simpa using this


/-- What 'number' leaves. -/
def NumPost (bx : Nat) (s : ByteArray) (a : Nat) (w : World) (e : Ending) (w' : World) : Prop :=
  ∃ b, a ≤ b ∧ b ≤ s.size ∧ Scan w' bx s b ∧ Fr bx w w' ∧
    ((∃ k : Nat, Lx.number (sfx s a) = some (k, sfx s b) ∧ (k = 2 ∨ k = 3) ∧ e = .returned (.int .i64 k)) ∨ (Lx.number (sfx s a) = none ∧ e = .returned (.int .i64 0)))

set_option maxHeartbeats 4000000 in
set_option maxRecDepth 100000 in
theorem number_any (bx : Nat) (s : ByteArray) (a : Nat) (w : World) (hs : s.size ≤ 4096) (hat : a ≤ s.size) (h : Scan w bx s a) :
    Calls Tryd.prog 33 #[.pointer (some ⟨bx, 0, none⟩)] w (NumPost bx s a w) := by
  go_enter Tryd.func33, Tryd.ntmps33
  go_wp2_with fail; refine (peek0_any bx s a _ hs (by omega) (by (repeat' (first | (with_reducible assumption) | (with_reducible refine Scan.drewN ?_ _) | (with_reducible refine Scan.drew ?_))))).mono ?_; rintro e w' ⟨rfl, n1, rfl⟩
  go_upto_if 10 with (fail)
  go_cut [] (fun wx => ∃ b, a ≤ b ∧ b ≤ s.size ∧ sfx s b = (if (Lx.hd (sfx s a)).toNat = 45 then (sfx s a).drop 1 else sfx s a) ∧ Scan wx bx s b ∧ Fr bx w wx)
  case first =>
    have c0 := h.c0; have c1 := h.c1; have f1 := h.f1
    by_cases h45 : (bt s a).toNat = 45
    · have e1 := eqT (n := (bt s a).toNat) (k := 45) (by omega)
      have H45 := Lib.hid h45
      clear h45
      have hlt : a < s.size := by
        rcases Nat.lt_or_ge a s.size with h' | h'
        · exact h'
        · rw [bt_end _ _ h'] at H45; exact absurd H45.out (by decide)
      go_wp2_with fail
      go_meet
      exact ⟨a + 1, by omega, hlt, by rw [hd_sfx, if_pos H45.out, sfx_drop], (h.drewN _).put (a + 1), by (repeat' (first | (with_reducible assumption) | (with_reducible exact But.refl _ _) | (with_reducible refine But.drewN ?_ _) | (with_reducible refine But.drew ?_) | (with_reducible refine Fr.set ?_ _ _) | (with_reducible refine But.alloc ?_ _)))⟩
    · have e1 := eqF (n := (bt s a).toNat) (k := 45) (by omega)
      have H45 := Lib.hid h45
      clear h45
      go_wp2_with fail
      go_meet
      exact ⟨a, by omega, hat, by rw [hd_sfx, if_neg H45.out], by (repeat' (first | (with_reducible assumption) | (with_reducible refine Scan.drewN ?_ _) | (with_reducible refine Scan.drew ?_))), by (repeat' (first | (with_reducible assumption) | (with_reducible exact But.refl _ _) | (with_reducible refine But.drewN ?_ _) | (with_reducible refine But.drew ?_) | (with_reducible refine Fr.set ?_ _ _) | (with_reducible refine But.alloc ?_ _)))⟩
  case rest =>
    obtain ⟨b, hab, hb, hl1, hS, hF⟩ := hcut
    have HN := Lib.hid (Lx.number_at _ _ hl1)
    clear hl1
    go_wp2_with fail; refine (peek0_any bx s b _ hs (by omega) (by (repeat' (first | (with_reducible assumption) | (with_reducible refine Scan.drewN ?_ _) | (with_reducible refine Scan.drew ?_))))).mono ?_; rintro e w' ⟨rfl, n2, rfl⟩
    go_wp2_with fail
    refine (while_digit bx s b _ hs hb (by (repeat' (first | (with_reducible assumption) | (with_reducible refine Scan.drewN ?_ _) | (with_reducible refine Scan.drew ?_))))).mono ?_
    rintro e w1 ⟨c, hbc, hc, hdc, rfl, hS1, hF1⟩
    have hF1 := But.undrew hF1
    have HDC := Lib.hid hdc
    clear hdc
    have hF2 : Fr bx w w1 := hF.trans hF1
    clear hF1
    have fin : ∀ w', Scan w' bx s c → Fr bx w w' → ((Lx.digits (sfx s b)).length = (sfx s b).length ∨ ((Lx.hd (sfx s b)).toNat = 48 ∧ 1 < (sfx s b).length - (Lx.digits (sfx s b)).length)) →
        NumPost bx s a w (.returned (.int .i64 0)) w' := fun w' h1 h2 h3 => ⟨c, by omega, hc, h1, h2, .inr ⟨by rw [HN.out, if_pos h3], rfl⟩⟩
    have hlen1 : (Lx.digits (sfx s b)).length = s.size - c := by
      have h1 := congrArg List.length HDC.out
      rw [sfx_len] at h1
      exact h1.symm
    have hlen2 := sfx_len s b
    have FIN := Lib.hid fin; have HL1 := Lib.hid hlen1; have HL2 := Lib.hid hlen2
    clear fin hlen1 hlen2
    by_cases hcb : c = b
    · have e1 : ((c : Int) - (b : Int) == 0) = true := by rw [beq_iff_eq]; omega
      have HCB := Lib.hid hcb
      clear hcb
      go_wp2_with fail
      go_ret
      exact FIN.out _ hS1 hF2 (.inl (by rw [HL1.out, HL2.out, HCB.out]))
    · have e1 : ((c : Int) - (b : Int) == 0) = false := by rw [beq_eq_false_iff_ne]; omega
      have HCB := Lib.hid hcb
      clear hcb
      by_cases h48 : (bt s b).toNat = 48 ∧ 1 < c - b
      · have e2 := eqT (n := (bt s b).toNat) (k := 48) (by omega)
        have e3 : decide (1 < (c : Int) - (b : Int)) = true := by simp; omega
        have H48 := Lib.hid h48
        clear h48
        go_wp2_with fail
        go_ret
        exact FIN.out _ hS1 hF2 (.inr ⟨by rw [hd_sfx]; exact H48.out.1, by rw [HL1.out, HL2.out]; have := H48.out.2; omega⟩)
      · have hcase : ((((bt s b).toNat : Int) == 48) = false) ∨ ((((bt s b).toNat : Int) == 48) = true ∧ decide (1 < (c : Int) - (b : Int)) = false) := by
          by_cases h1 : (bt s b).toNat = 48
          · exact .inr ⟨eqT (by omega), by simp; omega⟩
          · exact .inl (eqF (by omega))
        have HN2 : Hid (Lx.number (sfx s a) = Lx.numFrac (sfx s c)) := by
          show _ = _
          rw [HN.out, if_neg, HDC.out]
          · rfl
          · rw [HL1.out, HL2.out, hd_sfx]
            have := HCB.out
            omega
        have hac : a ≤ c := by omega
        clear HN FIN HL1 HL2 h48 HDC HCB hbc hab hb
        rcases hcase with e2 | ⟨e2, e3⟩
        all_goals
          go_wp2_with fail; refine (peek0_any bx s c _ hs (by omega) (by (repeat' (first | (with_reducible assumption) | (with_reducible refine Scan.drewN ?_ _) | (with_reducible refine Scan.drew ?_))))).mono ?_; rintro e w' ⟨rfl, n3, rfl⟩
          clear e1
          try clear e2
          try clear e3
          go_upto_if 34 with (fail)
          go_cut [3] (fun s3 wx => ∃ (k : Nat) (d : Nat), s3 = .int .i64 k ∧ (k = 2 ∨ k = 3) ∧ a ≤ d ∧ d ≤ s.size ∧ Lx.number (sfx s a) = Lx.numExp (k, sfx s d) ∧ Scan wx bx s d ∧ Fr bx w wx)
          case first =>
            have c0 := hS1.c0; have c1 := hS1.c1; have f1 := hS1.f1
            by_cases h46 : (bt s c).toNat = 46
            · have e1 := eqT (n := (bt s c).toNat) (k := 46) (by omega)
              have H46 := Lib.hid h46
              clear h46
              have hlt : c < s.size := by
                rcases Nat.lt_or_ge c s.size with h' | h'
                · exact h'
                · have := H46.out; rw [bt_end _ _ h'] at this; exact absurd this (by decide)
              go_wp2_with fail
              refine (while_digit bx s (c + 1) _ hs hlt ((hS1.drewN _).put (c + 1))).mono ?_
              rintro e w2 ⟨d, hcd, hd, hdd, rfl, hS2, hF3⟩
              have hF4 : Fr bx w w2 := But.trans (by (repeat' (first | (with_reducible assumption) | (with_reducible exact But.refl _ _) | (with_reducible refine But.drewN ?_ _) | (with_reducible refine But.drew ?_) | (with_reducible refine Fr.set ?_ _ _) | (with_reducible refine But.alloc ?_ _)))) hF3
              have HFR : Hid (Lx.numFrac (sfx s c) = if d = c + 1 then none else Lx.numExp (3, sfx s d)) := by
                show _ = _
                have hl := congrArg List.length hdd
                rw [sfx_len] at hl
                unfold Lx.numFrac
                rw [hd_sfx, if_pos H46.out, sfx_drop, Lx.digits, ← hdd, sfx_len, sfx_len]
                by_cases hdc : d = c + 1
                · rw [if_pos (by omega), if_pos hdc]
                · rw [if_neg (by omega), if_neg hdc]
              clear hdd c0 c1 f1 hF3 e1
              by_cases hdc : d = c + 1
              · have e1 : ((d : Int) - ((c : Int) + 1) == 0) = true := by rw [beq_iff_eq]; omega
                have HDC := Lib.hid hdc
                clear hdc
                go_wp2_with fail
                go_ret
                exact ⟨d, by omega, hd, hS2, hF4, .inr ⟨by rw [HN2.out, HFR.out, if_pos HDC.out], rfl⟩⟩
              · have e1 : ((d : Int) - ((c : Int) + 1) == 0) = false := by rw [beq_eq_false_iff_ne]; omega
                have HDC := Lib.hid hdc
                clear hdc
                go_wp2_with fail
                go_meet
                exact ⟨3, d, rfl, .inr rfl, by omega, hd, by rw [HN2.out, HFR.out, if_neg HDC.out], hS2, hF4⟩
            · have e1 := eqF (n := (bt s c).toNat) (k := 46) (by omega)
              have H46 := Lib.hid h46
              clear h46
              go_wp2_with fail
              go_meet
              exact ⟨2, c, rfl, .inl rfl, by omega, hc, by rw [HN2.out, Lx.numFrac, hd_sfx, if_neg H46.out], by (repeat' (first | (with_reducible assumption) | (with_reducible refine Scan.drewN ?_ _) | (with_reducible refine Scan.drew ?_))), by (repeat' (first | (with_reducible assumption) | (with_reducible exact But.refl _ _) | (with_reducible refine But.drewN ?_ _) | (with_reducible refine But.drew ?_) | (with_reducible refine Fr.set ?_ _ _) | (with_reducible refine But.alloc ?_ _)))⟩
          case rest =>
            obtain ⟨k, d, rfl, hk, had, hd, hnum, hS2, hF3⟩ := hcut
            have HN3 := Lib.hid hnum
            have HK := Lib.hid hk
            clear hnum hk HN2 hc hac hS1 hF2 hF1 h hF hS
            go_wp2_with fail; refine (peek0_any bx s d _ hs (by omega) (by (repeat' (first | (with_reducible assumption) | (with_reducible refine Scan.drewN ?_ _) | (with_reducible refine Scan.drew ?_))))).mono ?_; rintro e w' ⟨rfl, n4, rfl⟩
            have h32 := or32 (bt s d)
            go_upto_if 48 with (fail)
            go_cut [3] (fun s3 wx => ∃ (k : Nat) (d : Nat), s3 = .int .i64 k ∧ (k = 2 ∨ k = 3) ∧ a ≤ d ∧ d ≤ s.size ∧ Lx.number (sfx s a) = Lx.numEnd (k, sfx s d) ∧ Scan wx bx s d ∧ Fr bx w wx)
            case first =>
              have c0 := hS2.c0; have c1 := hS2.c1; have f1 := hS2.f1
              by_cases h101 : (bt s d).toNat ||| 32 = 101
              · have e1 : ((((bt s d).toNat ||| 32 : Nat) : Int) == 101) = true := eqT (by omega)
                have hlt : d < s.size := by
                  rcases Nat.lt_or_ge d s.size with h' | h'
                  · exact h'
                  · rw [bt_end _ _ h'] at h101; exact absurd h101 (by decide)
                have H101 := Lib.hid h101
                clear h101
                go_wp2_with fail
                refine (peek0_any bx s (d + 1) _ hs hlt ((hS2.drewN _).put (d + 1))).mono ?_
                rintro e w3 ⟨rfl, n5, hw3⟩
                have hS3 : Scan w3 bx s (d + 1) := by rw [hw3]; exact Scan.drewN ((hS2.drewN _).put (d + 1)) _
                have hF4 : Fr bx w w3 := by rw [hw3]; (repeat' (first | (with_reducible assumption) | (with_reducible exact But.refl _ _) | (with_reducible refine But.drewN ?_ _) | (with_reducible refine But.drew ?_) | (with_reducible refine Fr.set ?_ _ _) | (with_reducible refine But.alloc ?_ _)))
                clear hw3 c0 c1 f1 e1 h32
                have c0 := hS3.c0; have c1 := hS3.c1; have f1 := hS3.f1
                have hsg : ((((bt s (d + 1)).toNat : Int) == 43) = true ∧ ((bt s (d + 1)).toNat = 43 ∨ (bt s (d + 1)).toNat = 45)) ∨
                    ((((bt s (d + 1)).toNat : Int) == 43) = false ∧ (((bt s (d + 1)).toNat : Int) == 45) = true ∧ ((bt s (d + 1)).toNat = 43 ∨ (bt s (d + 1)).toNat = 45)) ∨
                    ((((bt s (d + 1)).toNat : Int) == 43) = false ∧ (((bt s (d + 1)).toNat : Int) == 45) = false ∧ ¬ ((bt s (d + 1)).toNat = 43 ∨ (bt s (d + 1)).toNat = 45)) := by
                  by_cases h1 : (bt s (d + 1)).toNat = 43
                  · exact .inl ⟨eqT (by omega), .inl h1⟩
                  · by_cases h2 : (bt s (d + 1)).toNat = 45
                    · exact .inr (.inl ⟨eqF (by omega), eqT (by omega), .inr h2⟩)
                    · exact .inr (.inr ⟨eqF (by omega), eqF (by omega), by omega⟩)
                have HX : Hid (Lx.numExp (k, sfx s d) = (let l2 := if (bt s (d + 1)).toNat = 43 ∨ (bt s (d + 1)).toNat = 45 then (sfx s (d + 1)).drop 1 else sfx s (d + 1); if (Lx.digits l2).length = l2.length then none else Lx.numEnd (3, Lx.digits l2))) := by
                  show _ = _
                  unfold Lx.numExp
                  rw [if_pos (by rw [hd_sfx, UInt8.toNat_or]; exact H101.out), sfx_drop]
                  simp only [hd_sfx]
                have HX2 : ∀ g f, sfx s g = (if (bt s (d + 1)).toNat = 43 ∨ (bt s (d + 1)).toNat = 45 then (sfx s (d + 1)).drop 1 else sfx s (d + 1)) → g ≤ f → f ≤ s.size → sfx s f = (sfx s g).dropWhile Lx.isDigit →
                    Lx.number (sfx s a) = if f = g then none else Lx.numEnd (3, sfx s f) := fun g f hg hgf hf hd' => by
                  rw [HN3.out, HX.out]
                  simp only [← hg]
                  have hl := congrArg List.length hd'
                  rw [sfx_len] at hl
                  unfold Lx.digits
                  rw [← hd', sfx_len, sfx_len]
                  by_cases hfg : f = g
                  · rw [if_pos (by omega), if_pos hfg]
                  · rw [if_neg (by omega), if_neg hfg]
                have HY := Lib.hid HX2
                clear HX HX2 HN3
                have hd1 : d + 1 ≤ s.size := hlt
                rcases hsg with ⟨e1, e3⟩ | ⟨e1, e2, e3⟩ | ⟨e1, e2, e3⟩
                all_goals
                  have E3 := Lib.hid e3
                  clear e3
                  go_wp2_with fail
                  first
                  | (have hlt2 : d + 1 < s.size := by
                       rcases Nat.lt_or_ge (d + 1) s.size with h' | h'
                       · exact h'
                       · have := E3.out; rw [bt_end _ _ h'] at this; exact absurd this (by decide)
                     refine (while_digit bx s (d + 1 + 1) _ hs hlt2 (hS3.put (d + 1 + 1))).mono ?_
                     rintro e w4 ⟨f, hgf, hf, hdf, rfl, hS4, hF5⟩
                     have hF6 : Fr bx w w4 := But.trans (by (repeat' (first | (with_reducible assumption) | (with_reducible exact But.refl _ _) | (with_reducible refine But.drewN ?_ _) | (with_reducible refine But.drew ?_) | (with_reducible refine Fr.set ?_ _ _) | (with_reducible refine But.alloc ?_ _)))) hF5
                     have HZ := Lib.hid (HY.out (d + 1 + 1) f (by rw [if_pos E3.out, sfx_drop]) hgf hf hdf)
                     clear hdf hF5 c0 c1 f1 e1
                     by_cases hfg : f = d + 1 + 1
                     · have e4 : ((f : Int) - ((d : Int) + 1 + 1) == 0) = true := by rw [beq_iff_eq]; omega
                       have HFG := Lib.hid hfg
                       clear hfg
                       go_wp2_with fail
                       go_ret
                       exact ⟨f, by omega, hf, hS4, hF6, .inr ⟨by rw [HZ.out, if_pos HFG.out], rfl⟩⟩
                     · have e4 : ((f : Int) - ((d : Int) + 1 + 1) == 0) = false := by rw [beq_eq_false_iff_ne]; omega
                       have HFG := Lib.hid hfg
                       clear hfg
                       go_wp2_with fail
                       go_meet
                       exact ⟨3, f, rfl, .inr rfl, by omega, hf, by rw [HZ.out, if_neg HFG.out], hS4, hF6⟩)
                  | (refine (while_digit bx s (d + 1) _ hs hd1 hS3).mono ?_
                     rintro e w4 ⟨f, hgf, hf, hdf, rfl, hS4, hF5⟩
                     have hF6 : Fr bx w w4 := But.trans hF4 hF5
                     have HZ := Lib.hid (HY.out (d + 1) f (by rw [if_neg E3.out]) hgf hf hdf)
                     clear hdf hF5 c0 c1 f1 e1
                     by_cases hfg : f = d + 1
                     · have e4 : ((f : Int) - ((d : Int) + 1) == 0) = true := by rw [beq_iff_eq]; omega
                       have HFG := Lib.hid hfg
                       clear hfg
                       go_wp2_with fail
                       go_ret
                       exact ⟨f, by omega, hf, hS4, hF6, .inr ⟨by rw [HZ.out, if_pos HFG.out], rfl⟩⟩
                     · have e4 : ((f : Int) - ((d : Int) + 1) == 0) = false := by rw [beq_eq_false_iff_ne]; omega
                       have HFG := Lib.hid hfg
                       clear hfg
                       go_wp2_with fail
                       go_meet
                       exact ⟨3, f, rfl, .inr rfl, by omega, hf, by rw [HZ.out, if_neg HFG.out], hS4, hF6⟩)
              · have e1 : ((((bt s d).toNat ||| 32 : Nat) : Int) == 101) = false := eqF (by omega)
                have H101 := Lib.hid h101
                clear h101
                go_wp2_with fail
                go_meet
                exact ⟨k, d, rfl, HK.out, had, hd, by rw [HN3.out, Lx.numExp, if_neg (by rw [hd_sfx, UInt8.toNat_or]; exact H101.out)], by (repeat' (first | (with_reducible assumption) | (with_reducible refine Scan.drewN ?_ _) | (with_reducible refine Scan.drew ?_))), by (repeat' (first | (with_reducible assumption) | (with_reducible exact But.refl _ _) | (with_reducible refine But.drewN ?_ _) | (with_reducible refine But.drew ?_) | (with_reducible refine Fr.set ?_ _ _) | (with_reducible refine But.alloc ?_ _)))⟩
            case rest =>
              clear hS2 hF3 HN3 HK h32
              obtain ⟨k, d, rfl, hk, had, hd, hnum, hS2, hF3⟩ := hcut
              have HN3 := Lib.hid hnum
              have HK := Lib.hid hk
              clear hnum hk
              go_wp2_with fail; refine (peek0_any bx s d _ hs (by omega) (by (repeat' (first | (with_reducible assumption) | (with_reducible refine Scan.drewN ?_ _) | (with_reducible refine Scan.drew ?_))))).mono ?_; rintro e w' ⟨rfl, n5, rfl⟩
              by_cases h46 : (bt s d).toNat = 46
              · have e1 := eqT (n := (bt s d).toNat) (k := 46) (by omega)
                have H46 := Lib.hid h46
                clear h46
                go_wp2_with fail
                go_ret
                exact ⟨d, had, hd, by (repeat' (first | (with_reducible assumption) | (with_reducible refine Scan.drewN ?_ _) | (with_reducible refine Scan.drew ?_))), by (repeat' (first | (with_reducible assumption) | (with_reducible exact But.refl _ _) | (with_reducible refine But.drewN ?_ _) | (with_reducible refine But.drew ?_) | (with_reducible refine Fr.set ?_ _ _) | (with_reducible refine But.alloc ?_ _))), .inr ⟨by rw [HN3.out, Lx.numEnd, hd_sfx, if_pos (.inl H46.out)], rfl⟩⟩
              · have e1 := eqF (n := (bt s d).toNat) (k := 46) (by omega)
                have H46 := Lib.hid h46
                clear h46
                cases hlet : Lx.isLetter (bt s d)
                · have HLE := Lib.hid hlet
                  clear hlet
                  cases hdig : Lx.isDigit (bt s d)
                  · have HDI := Lib.hid hdig
                    clear hdig
                    go_wp2_with (first | (go_at_call 20; refine (letter_any _ _).mono ?_; rintro e w' ⟨rfl, rfl⟩; rw [HLE.out]) | (go_at_call 21; refine (digit_any _ _).mono ?_; rintro e w' ⟨rfl, rfl⟩; rw [HDI.out]))
                    go_ret
                    refine ⟨d, had, hd, by (repeat' (first | (with_reducible assumption) | (with_reducible refine Scan.drewN ?_ _) | (with_reducible refine Scan.drew ?_))), by (repeat' (first | (with_reducible assumption) | (with_reducible exact But.refl _ _) | (with_reducible refine But.drewN ?_ _) | (with_reducible refine But.drew ?_) | (with_reducible refine Fr.set ?_ _ _) | (with_reducible refine But.alloc ?_ _))), .inl ⟨k, ?_, HK.out, rfl⟩⟩
                    rw [HN3.out, Lx.numEnd, hd_sfx, HLE.out, HDI.out, if_neg (by have := H46.out; simp [this])]
                  · have HDI := Lib.hid hdig
                    clear hdig
                    go_wp2_with (first | (go_at_call 20; refine (letter_any _ _).mono ?_; rintro e w' ⟨rfl, rfl⟩; rw [HLE.out]) | (go_at_call 21; refine (digit_any _ _).mono ?_; rintro e w' ⟨rfl, rfl⟩; rw [HDI.out]))
                    go_ret
                    exact ⟨d, had, hd, by (repeat' (first | (with_reducible assumption) | (with_reducible refine Scan.drewN ?_ _) | (with_reducible refine Scan.drew ?_))), by (repeat' (first | (with_reducible assumption) | (with_reducible exact But.refl _ _) | (with_reducible refine But.drewN ?_ _) | (with_reducible refine But.drew ?_) | (with_reducible refine Fr.set ?_ _ _) | (with_reducible refine But.alloc ?_ _))), .inr ⟨by rw [HN3.out, Lx.numEnd, hd_sfx, if_pos (.inr (.inr HDI.out))], rfl⟩⟩
                · have HLE := Lib.hid hlet
                  clear hlet
                  go_wp2_with (first | (go_at_call 20; refine (letter_any _ _).mono ?_; rintro e w' ⟨rfl, rfl⟩; rw [HLE.out]) | (go_at_call 21; refine (digit_any _ _).mono ?_; rintro e w' ⟨rfl, rfl⟩))
                  go_ret
                  exact ⟨d, had, hd, by (repeat' (first | (with_reducible assumption) | (with_reducible refine Scan.drewN ?_ _) | (with_reducible refine Scan.drew ?_))), by (repeat' (first | (with_reducible assumption) | (with_reducible exact But.refl _ _) | (with_reducible refine But.drewN ?_ _) | (with_reducible refine But.drew ?_) | (with_reducible refine Fr.set ?_ _ _) | (with_reducible refine But.alloc ?_ _))), .inr ⟨by rw [HN3.out, Lx.numEnd, hd_sfx, if_pos (.inr (.inl HLE.out))], rfl⟩⟩
end Go.Proofs.YtonblegbnkfhbaaDoor
