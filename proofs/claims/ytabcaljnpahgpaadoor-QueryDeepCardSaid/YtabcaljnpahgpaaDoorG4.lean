/-
  The lexer's 'number', walked. The lexer's 'hex', walked. strings.Builder: copyCheck, WriteByte, WriteString, WriteRune at this translation (the shelf's own contracts do not fit here: copyCheck's panic is struck from the translation). After the shelf's BuilderK and BuilderRune, turned to this program. A scanner's method that builds a text: what its world is like. The lexer's 'text', walked. The lexer's 'indent', walked. The lexer's 'dedent', walked. The lexer's 'block', walked.
-/
import Derived.Test.YtabcaljnpahgpaaDoorG3
import Derived.Test.YtabcaljnpahgpaaDoorG1
import Derived.Outline
import Derived.Deep.DeepCutAuto
import Derived.Test.YtabcaljnpahgpaaDoorShelf
import Derived.Shelf.Strings.BuilderRune
import Derived.Deep.LoopGhost
import Derived.Shelf.Strings.SlTrimAscii
namespace Go.Proofs.YtabcaljnpahgpaaDoor
set_option linter.unusedSimpArgs false
set_option linter.unusedVariables false
open Go Go.RowKit

theorem hd_sfx (s : ByteArray) (n : Nat) : Lx.hd (sfx s n) = bt s n := by
  have := sfx_getD s n 0
  unfold Lx.hd
  cases h : sfx s n with
  | nil => rw [h] at this; simpa using this
  | cons c t => rw [h] at this; simpa using this


/-- What 'number' leaves. -/
def NumPost (bx : Nat) (s : ByteArray) (a : Nat) (w : World) (e : Ending) (w' : World) : Prop :=
  ∃ b, a ≤ b ∧ b ≤ s.size ∧ Scan w' bx s b ∧ Fr bx w w' ∧
    ((∃ k : Nat, Lx.number (sfx s a) = some (k, sfx s b) ∧ (k = 2 ∨ k = 3) ∧ e = .returned (.int .i64 k)) ∨ (Lx.number (sfx s a) = none ∧ e = .returned (.int .i64 0)))

set_option maxHeartbeats 4000000 in
set_option maxRecDepth 100000 in
theorem number_any (bx : Nat) (s : ByteArray) (a : Nat) (w : World) (hs : s.size ≤ 4096) (hat : a ≤ s.size) (h : Scan w bx s a) :
    Calls Tryd.prog 63 #[.pointer (some ⟨bx, 0, none⟩)] w (NumPost bx s a w) := by
  go_enter Tryd.func63, Tryd.ntmps63
  go_wp2_with fail; refine (peek0_any bx s a _ hs (by omega) (by (repeat' (first | (with_reducible assumption) | (with_reducible refine Scan.drewN ?_ _) | (with_reducible refine Scan.drew ?_))))).mono ?_; rintro e w' ⟨rfl, n1, rfl⟩
  go_upto_if 10 with (fail)
  go_cut [] (fun wx => ∃ b, a ≤ b ∧ b ≤ s.size ∧ sfx s b = (if (Lx.hd (sfx s a)).toNat = 45 then (sfx s a).drop 1 else sfx s a) ∧ Scan wx bx s b ∧ Fr bx w wx)
  case first =>
    have c0 := h.c0; have c1 := h.c1; have f1 := h.f1
    by_cases h45 : (bt s a).toNat = 45
    · have e1 := eqT (n := (bt s a).toNat) (k := 45) (by omega)
      have H45 := Lib.hid h45
      clear h45
      have hlt : a < s.size := by
        rcases Nat.lt_or_ge a s.size with h' | h'
        · exact h'
        · rw [bt_end _ _ h'] at H45; exact absurd H45.out (by decide)
      go_wp2_with fail
      go_meet
      exact ⟨a + 1, by omega, hlt, by rw [hd_sfx, if_pos H45.out, sfx_drop], (h.drewN _).put (a + 1), by (repeat' (first | (with_reducible assumption) | (with_reducible exact But.refl _ _) | (with_reducible refine But.drewN ?_ _) | (with_reducible refine But.drew ?_) | (with_reducible refine Fr.set ?_ _ _) | (with_reducible refine But.alloc ?_ _)))⟩
    · have e1 := eqF (n := (bt s a).toNat) (k := 45) (by omega)
      have H45 := Lib.hid h45
      clear h45
      go_wp2_with fail
      go_meet
      exact ⟨a, by omega, hat, by rw [hd_sfx, if_neg H45.out], by (repeat' (first | (with_reducible assumption) | (with_reducible refine Scan.drewN ?_ _) | (with_reducible refine Scan.drew ?_))), by (repeat' (first | (with_reducible assumption) | (with_reducible exact But.refl _ _) | (with_reducible refine But.drewN ?_ _) | (with_reducible refine But.drew ?_) | (with_reducible refine Fr.set ?_ _ _) | (with_reducible refine But.alloc ?_ _)))⟩
  case rest =>
    obtain ⟨b, hab, hb, hl1, hS, hF⟩ := hcut
    have HN := Lib.hid (Lx.number_at _ _ hl1)
    clear hl1
    go_wp2_with fail; refine (peek0_any bx s b _ hs (by omega) (by (repeat' (first | (with_reducible assumption) | (with_reducible refine Scan.drewN ?_ _) | (with_reducible refine Scan.drew ?_))))).mono ?_; rintro e w' ⟨rfl, n2, rfl⟩
    go_wp2_with fail
    refine (while_digit bx s b _ hs hb (by (repeat' (first | (with_reducible assumption) | (with_reducible refine Scan.drewN ?_ _) | (with_reducible refine Scan.drew ?_))))).mono ?_
    rintro e w1 ⟨c, hbc, hc, hdc, rfl, hS1, hF1⟩
    have hF1 := But.undrew hF1
    have HDC := Lib.hid hdc
    clear hdc
    have hF2 : Fr bx w w1 := hF.trans hF1
    clear hF1
    have fin : ∀ w', Scan w' bx s c → Fr bx w w' → ((Lx.digits (sfx s b)).length = (sfx s b).length ∨ ((Lx.hd (sfx s b)).toNat = 48 ∧ 1 < (sfx s b).length - (Lx.digits (sfx s b)).length)) →
        NumPost bx s a w (.returned (.int .i64 0)) w' := fun w' h1 h2 h3 => ⟨c, by omega, hc, h1, h2, .inr ⟨by rw [HN.out, if_pos h3], rfl⟩⟩
    have hlen1 : (Lx.digits (sfx s b)).length = s.size - c := by
      have h1 := congrArg List.length HDC.out
      rw [sfx_len] at h1
      exact h1.symm
    have hlen2 := sfx_len s b
    have FIN := Lib.hid fin; have HL1 := Lib.hid hlen1; have HL2 := Lib.hid hlen2
    clear fin hlen1 hlen2
    by_cases hcb : c = b
    · have e1 : ((c : Int) - (b : Int) == 0) = true := by rw [beq_iff_eq]; omega
      have HCB := Lib.hid hcb
      clear hcb
      go_wp2_with fail
      go_ret
      exact FIN.out _ hS1 hF2 (.inl (by rw [HL1.out, HL2.out, HCB.out]))
    · have e1 : ((c : Int) - (b : Int) == 0) = false := by rw [beq_eq_false_iff_ne]; omega
      have HCB := Lib.hid hcb
      clear hcb
      by_cases h48 : (bt s b).toNat = 48 ∧ 1 < c - b
      · have e2 := eqT (n := (bt s b).toNat) (k := 48) (by omega)
        have e3 : decide (1 < (c : Int) - (b : Int)) = true := by simp; omega
        have H48 := Lib.hid h48
        clear h48
        go_wp2_with fail
        go_ret
        exact FIN.out _ hS1 hF2 (.inr ⟨by rw [hd_sfx]; exact H48.out.1, by rw [HL1.out, HL2.out]; have := H48.out.2; omega⟩)
      · have hcase : ((((bt s b).toNat : Int) == 48) = false) ∨ ((((bt s b).toNat : Int) == 48) = true ∧ decide (1 < (c : Int) - (b : Int)) = false) := by
          by_cases h1 : (bt s b).toNat = 48
          · exact .inr ⟨eqT (by omega), by simp; omega⟩
          · exact .inl (eqF (by omega))
        have HN2 : Hid (Lx.number (sfx s a) = Lx.numFrac (sfx s c)) := by
          show _ = _
          rw [HN.out, if_neg, HDC.out]
          · rfl
          · rw [HL1.out, HL2.out, hd_sfx]
            have := HCB.out
            omega
        have hac : a ≤ c := by omega
        clear HN FIN HL1 HL2 h48 HDC HCB hbc hab hb
        rcases hcase with e2 | ⟨e2, e3⟩
        all_goals
          go_wp2_with fail; refine (peek0_any bx s c _ hs (by omega) (by (repeat' (first | (with_reducible assumption) | (with_reducible refine Scan.drewN ?_ _) | (with_reducible refine Scan.drew ?_))))).mono ?_; rintro e w' ⟨rfl, n3, rfl⟩
          clear e1
          try clear e2
          try clear e3
          go_upto_if 34 with (fail)
          go_cut [3] (fun s3 wx => ∃ (k : Nat) (d : Nat), s3 = .int .i64 k ∧ (k = 2 ∨ k = 3) ∧ a ≤ d ∧ d ≤ s.size ∧ Lx.number (sfx s a) = Lx.numExp (k, sfx s d) ∧ Scan wx bx s d ∧ Fr bx w wx)
          case first =>
            have c0 := hS1.c0; have c1 := hS1.c1; have f1 := hS1.f1
            by_cases h46 : (bt s c).toNat = 46
            · have e1 := eqT (n := (bt s c).toNat) (k := 46) (by omega)
              have H46 := Lib.hid h46
              clear h46
              have hlt : c < s.size := by
                rcases Nat.lt_or_ge c s.size with h' | h'
                · exact h'
                · have := H46.out; rw [bt_end _ _ h'] at this; exact absurd this (by decide)
              go_wp2_with fail
              refine (while_digit bx s (c + 1) _ hs hlt ((hS1.drewN _).put (c + 1))).mono ?_
              rintro e w2 ⟨d, hcd, hd, hdd, rfl, hS2, hF3⟩
              have hF4 : Fr bx w w2 := But.trans (by (repeat' (first | (with_reducible assumption) | (with_reducible exact But.refl _ _) | (with_reducible refine But.drewN ?_ _) | (with_reducible refine But.drew ?_) | (with_reducible refine Fr.set ?_ _ _) | (with_reducible refine But.alloc ?_ _)))) hF3
              have HFR : Hid (Lx.numFrac (sfx s c) = if d = c + 1 then none else Lx.numExp (3, sfx s d)) := by
                show _ = _
                have hl := congrArg List.length hdd
                rw [sfx_len] at hl
                unfold Lx.numFrac
                rw [hd_sfx, if_pos H46.out, sfx_drop, Lx.digits, ← hdd, sfx_len, sfx_len]
                by_cases hdc : d = c + 1
                · rw [if_pos (by omega), if_pos hdc]
                · rw [if_neg (by omega), if_neg hdc]
              clear hdd c0 c1 f1 hF3 e1
              by_cases hdc : d = c + 1
              · have e1 : ((d : Int) - ((c : Int) + 1) == 0) = true := by rw [beq_iff_eq]; omega
                have HDC := Lib.hid hdc
                clear hdc
                go_wp2_with fail
                go_ret
                exact ⟨d, by omega, hd, hS2, hF4, .inr ⟨by rw [HN2.out, HFR.out, if_pos HDC.out], rfl⟩⟩
              · have e1 : ((d : Int) - ((c : Int) + 1) == 0) = false := by rw [beq_eq_false_iff_ne]; omega
                have HDC := Lib.hid hdc
                clear hdc
                go_wp2_with fail
                go_meet
                exact ⟨3, d, rfl, .inr rfl, by omega, hd, by rw [HN2.out, HFR.out, if_neg HDC.out], hS2, hF4⟩
            · have e1 := eqF (n := (bt s c).toNat) (k := 46) (by omega)
              have H46 := Lib.hid h46
              clear h46
              go_wp2_with fail
              go_meet
              exact ⟨2, c, rfl, .inl rfl, by omega, hc, by rw [HN2.out, Lx.numFrac, hd_sfx, if_neg H46.out], by (repeat' (first | (with_reducible assumption) | (with_reducible refine Scan.drewN ?_ _) | (with_reducible refine Scan.drew ?_))), by (repeat' (first | (with_reducible assumption) | (with_reducible exact But.refl _ _) | (with_reducible refine But.drewN ?_ _) | (with_reducible refine But.drew ?_) | (with_reducible refine Fr.set ?_ _ _) | (with_reducible refine But.alloc ?_ _)))⟩
          case rest =>
            obtain ⟨k, d, rfl, hk, had, hd, hnum, hS2, hF3⟩ := hcut
            have HN3 := Lib.hid hnum
            have HK := Lib.hid hk
            clear hnum hk HN2 hc hac hS1 hF2 hF1 h hF hS
            go_wp2_with fail; refine (peek0_any bx s d _ hs (by omega) (by (repeat' (first | (with_reducible assumption) | (with_reducible refine Scan.drewN ?_ _) | (with_reducible refine Scan.drew ?_))))).mono ?_; rintro e w' ⟨rfl, n4, rfl⟩
            have h32 := or32 (bt s d)
            go_upto_if 48 with (fail)
            go_cut [3] (fun s3 wx => ∃ (k : Nat) (d : Nat), s3 = .int .i64 k ∧ (k = 2 ∨ k = 3) ∧ a ≤ d ∧ d ≤ s.size ∧ Lx.number (sfx s a) = Lx.numEnd (k, sfx s d) ∧ Scan wx bx s d ∧ Fr bx w wx)
            case first =>
              have c0 := hS2.c0; have c1 := hS2.c1; have f1 := hS2.f1
              by_cases h101 : (bt s d).toNat ||| 32 = 101
              · have e1 : ((((bt s d).toNat ||| 32 : Nat) : Int) == 101) = true := eqT (by omega)
                have hlt : d < s.size := by
                  rcases Nat.lt_or_ge d s.size with h' | h'
                  · exact h'
                  · rw [bt_end _ _ h'] at h101; exact absurd h101 (by decide)
                have H101 := Lib.hid h101
                clear h101
                go_wp2_with fail
                refine (peek0_any bx s (d + 1) _ hs hlt ((hS2.drewN _).put (d + 1))).mono ?_
                rintro e w3 ⟨rfl, n5, hw3⟩
                have hS3 : Scan w3 bx s (d + 1) := by rw [hw3]; exact Scan.drewN ((hS2.drewN _).put (d + 1)) _
                have hF4 : Fr bx w w3 := by rw [hw3]; (repeat' (first | (with_reducible assumption) | (with_reducible exact But.refl _ _) | (with_reducible refine But.drewN ?_ _) | (with_reducible refine But.drew ?_) | (with_reducible refine Fr.set ?_ _ _) | (with_reducible refine But.alloc ?_ _)))
                clear hw3 c0 c1 f1 e1 h32
                have c0 := hS3.c0; have c1 := hS3.c1; have f1 := hS3.f1
                have hsg : ((((bt s (d + 1)).toNat : Int) == 43) = true ∧ ((bt s (d + 1)).toNat = 43 ∨ (bt s (d + 1)).toNat = 45)) ∨
                    ((((bt s (d + 1)).toNat : Int) == 43) = false ∧ (((bt s (d + 1)).toNat : Int) == 45) = true ∧ ((bt s (d + 1)).toNat = 43 ∨ (bt s (d + 1)).toNat = 45)) ∨
                    ((((bt s (d + 1)).toNat : Int) == 43) = false ∧ (((bt s (d + 1)).toNat : Int) == 45) = false ∧ ¬ ((bt s (d + 1)).toNat = 43 ∨ (bt s (d + 1)).toNat = 45)) := by
                  by_cases h1 : (bt s (d + 1)).toNat = 43
                  · exact .inl ⟨eqT (by omega), .inl h1⟩
                  · by_cases h2 : (bt s (d + 1)).toNat = 45
                    · exact .inr (.inl ⟨eqF (by omega), eqT (by omega), .inr h2⟩)
                    · exact .inr (.inr ⟨eqF (by omega), eqF (by omega), by omega⟩)
                have HX : Hid (Lx.numExp (k, sfx s d) = (let l2 := if (bt s (d + 1)).toNat = 43 ∨ (bt s (d + 1)).toNat = 45 then (sfx s (d + 1)).drop 1 else sfx s (d + 1); if (Lx.digits l2).length = l2.length then none else Lx.numEnd (3, Lx.digits l2))) := by
                  show _ = _
                  unfold Lx.numExp
                  rw [if_pos (by rw [hd_sfx, UInt8.toNat_or]; exact H101.out), sfx_drop]
                  simp only [hd_sfx]
                have HX2 : ∀ g f, sfx s g = (if (bt s (d + 1)).toNat = 43 ∨ (bt s (d + 1)).toNat = 45 then (sfx s (d + 1)).drop 1 else sfx s (d + 1)) → g ≤ f → f ≤ s.size → sfx s f = (sfx s g).dropWhile Lx.isDigit →
                    Lx.number (sfx s a) = if f = g then none else Lx.numEnd (3, sfx s f) := fun g f hg hgf hf hd' => by
                  rw [HN3.out, HX.out]
                  simp only [← hg]
                  have hl := congrArg List.length hd'
                  rw [sfx_len] at hl
                  unfold Lx.digits
                  rw [← hd', sfx_len, sfx_len]
                  by_cases hfg : f = g
                  · rw [if_pos (by omega), if_pos hfg]
                  · rw [if_neg (by omega), if_neg hfg]
                have HY := Lib.hid HX2
                clear HX HX2 HN3
                have hd1 : d + 1 ≤ s.size := hlt
                rcases hsg with ⟨e1, e3⟩ | ⟨e1, e2, e3⟩ | ⟨e1, e2, e3⟩
                all_goals
                  have E3 := Lib.hid e3
                  clear e3
                  go_wp2_with fail
                  first
                  | (have hlt2 : d + 1 < s.size := by
                       rcases Nat.lt_or_ge (d + 1) s.size with h' | h'
                       · exact h'
                       · have := E3.out; rw [bt_end _ _ h'] at this; exact absurd this (by decide)
                     refine (while_digit bx s (d + 1 + 1) _ hs hlt2 (hS3.put (d + 1 + 1))).mono ?_
                     rintro e w4 ⟨f, hgf, hf, hdf, rfl, hS4, hF5⟩
                     have hF6 : Fr bx w w4 := But.trans (by (repeat' (first | (with_reducible assumption) | (with_reducible exact But.refl _ _) | (with_reducible refine But.drewN ?_ _) | (with_reducible refine But.drew ?_) | (with_reducible refine Fr.set ?_ _ _) | (with_reducible refine But.alloc ?_ _)))) hF5
                     have HZ := Lib.hid (HY.out (d + 1 + 1) f (by rw [if_pos E3.out, sfx_drop]) hgf hf hdf)
                     clear hdf hF5 c0 c1 f1 e1
                     by_cases hfg : f = d + 1 + 1
                     · have e4 : ((f : Int) - ((d : Int) + 1 + 1) == 0) = true := by rw [beq_iff_eq]; omega
                       have HFG := Lib.hid hfg
                       clear hfg
                       go_wp2_with fail
                       go_ret
                       exact ⟨f, by omega, hf, hS4, hF6, .inr ⟨by rw [HZ.out, if_pos HFG.out], rfl⟩⟩
                     · have e4 : ((f : Int) - ((d : Int) + 1 + 1) == 0) = false := by rw [beq_eq_false_iff_ne]; omega
                       have HFG := Lib.hid hfg
                       clear hfg
                       go_wp2_with fail
                       go_meet
                       exact ⟨3, f, rfl, .inr rfl, by omega, hf, by rw [HZ.out, if_neg HFG.out], hS4, hF6⟩)
                  | (refine (while_digit bx s (d + 1) _ hs hd1 hS3).mono ?_
                     rintro e w4 ⟨f, hgf, hf, hdf, rfl, hS4, hF5⟩
                     have hF6 : Fr bx w w4 := But.trans hF4 hF5
                     have HZ := Lib.hid (HY.out (d + 1) f (by rw [if_neg E3.out]) hgf hf hdf)
                     clear hdf hF5 c0 c1 f1 e1
                     by_cases hfg : f = d + 1
                     · have e4 : ((f : Int) - ((d : Int) + 1) == 0) = true := by rw [beq_iff_eq]; omega
                       have HFG := Lib.hid hfg
                       clear hfg
                       go_wp2_with fail
                       go_ret
                       exact ⟨f, by omega, hf, hS4, hF6, .inr ⟨by rw [HZ.out, if_pos HFG.out], rfl⟩⟩
                     · have e4 : ((f : Int) - ((d : Int) + 1) == 0) = false := by rw [beq_eq_false_iff_ne]; omega
                       have HFG := Lib.hid hfg
                       clear hfg
                       go_wp2_with fail
                       go_meet
                       exact ⟨3, f, rfl, .inr rfl, by omega, hf, by rw [HZ.out, if_neg HFG.out], hS4, hF6⟩)
              · have e1 : ((((bt s d).toNat ||| 32 : Nat) : Int) == 101) = false := eqF (by omega)
                have H101 := Lib.hid h101
                clear h101
                go_wp2_with fail
                go_meet
                exact ⟨k, d, rfl, HK.out, had, hd, by rw [HN3.out, Lx.numExp, if_neg (by rw [hd_sfx, UInt8.toNat_or]; exact H101.out)], by (repeat' (first | (with_reducible assumption) | (with_reducible refine Scan.drewN ?_ _) | (with_reducible refine Scan.drew ?_))), by (repeat' (first | (with_reducible assumption) | (with_reducible exact But.refl _ _) | (with_reducible refine But.drewN ?_ _) | (with_reducible refine But.drew ?_) | (with_reducible refine Fr.set ?_ _ _) | (with_reducible refine But.alloc ?_ _)))⟩
            case rest =>
              clear hS2 hF3 HN3 HK h32
              obtain ⟨k, d, rfl, hk, had, hd, hnum, hS2, hF3⟩ := hcut
              have HN3 := Lib.hid hnum
              have HK := Lib.hid hk
              clear hnum hk
              go_wp2_with fail; refine (peek0_any bx s d _ hs (by omega) (by (repeat' (first | (with_reducible assumption) | (with_reducible refine Scan.drewN ?_ _) | (with_reducible refine Scan.drew ?_))))).mono ?_; rintro e w' ⟨rfl, n5, rfl⟩
              by_cases h46 : (bt s d).toNat = 46
              · have e1 := eqT (n := (bt s d).toNat) (k := 46) (by omega)
                have H46 := Lib.hid h46
                clear h46
                go_wp2_with fail
                go_ret
                exact ⟨d, had, hd, by (repeat' (first | (with_reducible assumption) | (with_reducible refine Scan.drewN ?_ _) | (with_reducible refine Scan.drew ?_))), by (repeat' (first | (with_reducible assumption) | (with_reducible exact But.refl _ _) | (with_reducible refine But.drewN ?_ _) | (with_reducible refine But.drew ?_) | (with_reducible refine Fr.set ?_ _ _) | (with_reducible refine But.alloc ?_ _))), .inr ⟨by rw [HN3.out, Lx.numEnd, hd_sfx, if_pos (.inl H46.out)], rfl⟩⟩
              · have e1 := eqF (n := (bt s d).toNat) (k := 46) (by omega)
                have H46 := Lib.hid h46
                clear h46
                cases hlet : Lx.isLetter (bt s d)
                · have HLE := Lib.hid hlet
                  clear hlet
                  cases hdig : Lx.isDigit (bt s d)
                  · have HDI := Lib.hid hdig
                    clear hdig
                    go_wp2_with (first | (go_at_call 59; refine (letter_any _ _).mono ?_; rintro e w' ⟨rfl, rfl⟩; rw [HLE.out]) | (go_at_call 62; refine (digit_any _ _).mono ?_; rintro e w' ⟨rfl, rfl⟩; rw [HDI.out]))
                    go_ret
                    refine ⟨d, had, hd, by (repeat' (first | (with_reducible assumption) | (with_reducible refine Scan.drewN ?_ _) | (with_reducible refine Scan.drew ?_))), by (repeat' (first | (with_reducible assumption) | (with_reducible exact But.refl _ _) | (with_reducible refine But.drewN ?_ _) | (with_reducible refine But.drew ?_) | (with_reducible refine Fr.set ?_ _ _) | (with_reducible refine But.alloc ?_ _))), .inl ⟨k, ?_, HK.out, rfl⟩⟩
                    rw [HN3.out, Lx.numEnd, hd_sfx, HLE.out, HDI.out, if_neg (by have := H46.out; simp [this])]
                  · have HDI := Lib.hid hdig
                    clear hdig
                    go_wp2_with (first | (go_at_call 59; refine (letter_any _ _).mono ?_; rintro e w' ⟨rfl, rfl⟩; rw [HLE.out]) | (go_at_call 62; refine (digit_any _ _).mono ?_; rintro e w' ⟨rfl, rfl⟩; rw [HDI.out]))
                    go_ret
                    exact ⟨d, had, hd, by (repeat' (first | (with_reducible assumption) | (with_reducible refine Scan.drewN ?_ _) | (with_reducible refine Scan.drew ?_))), by (repeat' (first | (with_reducible assumption) | (with_reducible exact But.refl _ _) | (with_reducible refine But.drewN ?_ _) | (with_reducible refine But.drew ?_) | (with_reducible refine Fr.set ?_ _ _) | (with_reducible refine But.alloc ?_ _))), .inr ⟨by rw [HN3.out, Lx.numEnd, hd_sfx, if_pos (.inr (.inr HDI.out))], rfl⟩⟩
                · have HLE := Lib.hid hlet
                  clear hlet
                  go_wp2_with (first | (go_at_call 59; refine (letter_any _ _).mono ?_; rintro e w' ⟨rfl, rfl⟩; rw [HLE.out]) | (go_at_call 62; refine (digit_any _ _).mono ?_; rintro e w' ⟨rfl, rfl⟩))
                  go_ret
                  exact ⟨d, had, hd, by (repeat' (first | (with_reducible assumption) | (with_reducible refine Scan.drewN ?_ _) | (with_reducible refine Scan.drew ?_))), by (repeat' (first | (with_reducible assumption) | (with_reducible exact But.refl _ _) | (with_reducible refine But.drewN ?_ _) | (with_reducible refine But.drew ?_) | (with_reducible refine Fr.set ?_ _ _) | (with_reducible refine But.alloc ?_ _))), .inr ⟨by rw [HN3.out, Lx.numEnd, hd_sfx, if_pos (.inr (.inl HLE.out))], rfl⟩⟩
end Go.Proofs.YtabcaljnpahgpaaDoor
namespace Go.Proofs.YtabcaljnpahgpaaDoor
set_option linter.unusedSimpArgs false
set_option linter.unusedVariables false
open Go Go.RowKit

def hexDigits : List UInt8 := [48, 49, 50, 51, 52, 53, 54, 55, 56, 57, 97, 98, 99, 100, 101, 102]
def hexGo (c : UInt8) : Option Nat :=
  if Lib.indexByte hexDigits (c ||| 32) < 0 ∨ c.toNat < 48 ∨ (57 < c.toNat ∧ c.toNat < 65) then none else some (Lib.indexByte hexDigits (c ||| 32)).toNat
theorem hexGo_fin : ∀ n : Fin 256, hexGo (UInt8.ofNat n.val) = Lx.hexv (UInt8.ofNat n.val) ∧ Lib.indexByte hexDigits (UInt8.ofNat n.val ||| 32) < 16 ∧ -1 ≤ Lib.indexByte hexDigits (UInt8.ofNat n.val ||| 32) := by decide +kernel
theorem hexGo_eq (c : UInt8) : hexGo c = Lx.hexv c ∧ Lib.indexByte hexDigits (c ||| 32) < 16 ∧ -1 ≤ Lib.indexByte hexDigits (c ||| 32) := by
  have := hexGo_fin ⟨c.toNat, UInt8.toNat_lt c⟩
  simpa using this

theorem hexIdx (c : UInt8) (w : World) :
    Calls Tryd.prog 66 #[.string ⟨#[48, 49, 50, 51, 52, 53, 54, 55, 56, 57, 97, 98, 99, 100, 101, 102]⟩, .int .u8 ((c.toNat ||| 32 : Nat) : Int)] w fun e w' => e = .returned (.int .i64 (Lib.indexByte hexDigits (c ||| 32))) ∧ w' = w := by
  refine (Tryd.strings_IndexByte _ _ _).mono ?_
  rintro e w' ⟨rfl, rfl⟩
  refine ⟨?_, rfl⟩
  have h1 : (((c.toNat ||| 32 : Nat) : Int)).toNat.toUInt8 = c ||| 32 := by
    rw [Int.toNat_natCast, show c.toNat ||| 32 = (c ||| 32).toNat from (UInt8.toNat_or c 32).symm]
    simp
  rw [h1]
  rfl

def hexAns (o : Option Nat) : Int := match o with | some v => v | none => -1
def HexPost (s : ByteArray) (w : World) (e : Ending) (w' : World) : Prop := e = .returned (.int .i32 (hexAns (Lx.hex s.data.toList))) ∧ w' = w

theorem hexs_none {s : ByteArray} {k r : Nat} (hk : k < 4) (hks : k < s.size) (h : Lx.hexv (bt s k) = none) : Lx.hexs (4 - k) r (sfx s k) = none := by
  rw [sfx_cons s k hks, show 4 - k = (3 - k) + 1 by omega, Lx.hexs, h]
theorem hexs_some {s : ByteArray} {k r v : Nat} (hk : k < 4) (hks : k < s.size) (h : Lx.hexv (bt s k) = some v) : Lx.hexs (4 - k) r (sfx s k) = Lx.hexs (4 - (k + 1)) (r * 16 + v) (sfx s (k + 1)) := by
  rw [sfx_cons s k hks, show 4 - k = (3 - k) + 1 by omega, Lx.hexs, h]
  rw [show 4 - (k + 1) = 3 - k by omega]
theorem hexs_short : ∀ (n r : Nat) (l : List UInt8), l.length < n → Lx.hexs n r l = none
  | 0, _, _, h => by omega
  | n + 1, r, [], _ => rfl
  | n + 1, r, c :: l, h => by
    unfold Lx.hexs
    split
    · rfl
    · exact hexs_short n _ l (by simpa using h)

set_option maxHeartbeats 4000000 in
set_option maxRecDepth 100000 in
theorem hex_any (s : ByteArray) (w : World) (hs : s.size ≤ 4096) : Calls Tryd.prog 79 #[.string s] w (HexPost s w) := by
  by_cases h4 : s.size < 4
  · have h4' : (s.size : Int) < 4 := by omega
    go_enter Tryd.func79, Tryd.ntmps79
    go_wp2
    go_ret
    have : Lx.hex s.data.toList = none := hexs_short 4 0 _ (by simpa using h4)
    exact ⟨by rw [this]; rfl, rfl⟩
  · have h4' : (4 : Int) ≤ s.size := by omega
    have hm0 : Lx.hexs (4 - 0) 0 (sfx s 0) = Lx.hex s.data.toList := by rw [sfx_all]; rfl
    have HM0 := Lib.hid hm0
    clear hm0
    go_enter Tryd.func79, Tryd.ntmps79
    go_wp2
    go_loop [3, 9] (fun s3 s9 => ∃ (k r : Nat), k ≤ 4 ∧ r < 16 ^ k ∧ s3 = .int .i32 r ∧ s9 = .int .i64 k ∧ Lx.hexs (4 - k) r (sfx s k) = Lx.hex s.data.toList) (fun _ s9 => (4 - intOf s9).toNat)
    case atStart => exact ⟨0, 0, by omega, by decide, rfl, rfl, HM0.out⟩
    case round =>
      obtain ⟨k, r, hk, hr, rfl, rfl, hm⟩ := hrel
      have HM := Lib.hid hm
      have HR := Lib.hid hr
      clear hm hr
      by_cases hk4 : k < 4
      · have hks : (k : Int) < s.size := by omega
        have hr16 : r < 4096 := by
          have h1 := HR.out
          have h2 : 16 ^ k ≤ 16 ^ 3 := Nat.pow_le_pow_right (by omega) (by omega)
          omega
        obtain ⟨g1, g2, g3⟩ := hexGo_eq (bt s k)
        have h32 := or32 (bt s k)
        have hI := hexIdx (bt s k)
        unfold hexGo at g1
        generalize Lib.indexByte hexDigits (bt s k ||| 32) = kk at g1 g2 g3 hI
        have HG := Lib.hid g1
        have HI := Lib.hid hI
        clear g1 hI
        have hcase : (decide (kk < 0) = true ∧ Lx.hexv (bt s k) = none) ∨ (decide (kk < 0) = false ∧ decide (((bt s k).toNat : Int) < 48) = true ∧ Lx.hexv (bt s k) = none) ∨
            (decide (kk < 0) = false ∧ decide (((bt s k).toNat : Int) < 48) = false ∧ decide (57 < ((bt s k).toNat : Int)) = true ∧ decide (((bt s k).toNat : Int) < 65) = true ∧ Lx.hexv (bt s k) = none) ∨
            (decide (kk < 0) = false ∧ decide (((bt s k).toNat : Int) < 48) = false ∧ decide (57 < ((bt s k).toNat : Int)) = true ∧ decide (((bt s k).toNat : Int) < 65) = false ∧ Lx.hexv (bt s k) = some kk.toNat ∧ 0 ≤ kk) ∨
            (decide (kk < 0) = false ∧ decide (((bt s k).toNat : Int) < 48) = false ∧ decide (57 < ((bt s k).toNat : Int)) = false ∧ Lx.hexv (bt s k) = some kk.toNat ∧ 0 ≤ kk) := by
          have hg := HG.out
          by_cases a1 : kk < 0
          · exact .inl ⟨by simpa using a1, by rw [← hg, if_pos (.inl a1)]⟩
          · by_cases a2 : (bt s k).toNat < 48
            · exact .inr (.inl ⟨by simpa using a1, by simp; omega, by rw [← hg, if_pos (.inr (.inl a2))]⟩)
            · by_cases a3 : 57 < (bt s k).toNat
              · by_cases a4 : (bt s k).toNat < 65
                · exact .inr (.inr (.inl ⟨by simpa using a1, by simp; omega, by simp; omega, by simp; omega, by rw [← hg, if_pos (.inr (.inr ⟨a3, a4⟩))]⟩))
                · exact .inr (.inr (.inr (.inl ⟨by simpa using a1, by simp; omega, by simp; omega, by simp; omega, by rw [← hg, if_neg (by omega)], by omega⟩)))
              · exact .inr (.inr (.inr (.inr ⟨by simpa using a1, by simp; omega, by simp; omega, by rw [← hg, if_neg (by omega)], by omega⟩)))
        rcases hcase with ⟨e1, e5⟩ | ⟨e1, e2, e5⟩ | ⟨e1, e2, e3, e4, e5⟩ | ⟨e1, e2, e3, e4, e5, e6⟩ | ⟨e1, e2, e3, e5, e6⟩
        all_goals
          have E5 := Lib.hid e5
          clear e5
          go_wp2_with (go_at_call 66; refine (HI.out _).mono ?_; rintro e w' ⟨rfl, hw'⟩; subst hw')
        · go_ret
          exact ⟨by rw [← HM.out, hexs_none hk4 (by omega) E5.out]; rfl, rfl⟩
        · go_ret
          exact ⟨by rw [← HM.out, hexs_none hk4 (by omega) E5.out]; rfl, rfl⟩
        · go_ret
          exact ⟨by rw [← HM.out, hexs_none hk4 (by omega) E5.out]; rfl, rfl⟩
        all_goals
          obtain ⟨v, rfl⟩ := Int.eq_ofNat_of_zero_le e6
          have hor : bits BinOp.or IntKind.i32 ((r : Int) * 16) (v : Int) = ((r * 16 + v : Nat) : Int) := by
            rw [bits_join .i32 31 (by decide) wraps_i32 4 _ _ (by omega) (by omega) (by omega) (by omega) (by omega) (by omega)]
            omega
          refine ⟨⟨k + 1, r * 16 + v, by omega, ?_, by rw [hor], by go_num, ?_⟩, by simp [intOf]; omega⟩
          · have h1 := HR.out
            rw [Nat.pow_succ]
            omega
          · rw [← HM.out]
            have := hexs_some (r := r) hk4 (by omega) E5.out
            rw [Int.toNat_natCast] at this
            exact this.symm
      · have hk4' : (4 : Int) ≤ k := by omega
        have hke : k = 4 := by omega
        go_wp2
        go_ret
        refine ⟨?_, rfl⟩
        rw [← HM.out, hke]
        rfl
end Go.Proofs.YtabcaljnpahgpaaDoor
namespace Go.Proofs.YtabcaljnpahgpaaDoor
set_option linter.unusedSimpArgs false
set_option linter.unusedVariables false
open Go Go.RowKit

abbrev IsB (b : Nat) (l : List UInt8) (w : World) : Prop := Lib.IsBuilderF 124 5 b b (Lib.byteCells l) w

theorem sbSize : (Tryd.prog.info? 124).map (·.size) = some 2 := by kernel_rfl
theorem sbLies : liesAt Tryd.prog Tryd.prog.depth 124 (2 / Tryd.prog.cellsOf 124) 0 124 1 = true := by kernel_rfl
theorem byteInfo : (Tryd.prog.info? 5).map (fun i => (i.zero, i.size, i.bytes)) = some (some (.int .u8 0), 1, 1) := by kernel_rfl

set_option maxHeartbeats 1000000 in
set_option maxRecDepth 100000 in
theorem copyCheck_used (b : Nat) (w : World) (h0 : w.cell? ⟨b, 0, none⟩ = some (.pointer (some ⟨b, 0, none⟩))) :
    Calls Tryd.prog 86 #[.pointer (some ⟨b, 0, none⟩)] w fun e w' => e = .returned (.tuple #[]) ∧ w' = w := by
  obtain ⟨j, hj, _⟩ := Option.map_eq_some_iff.1 sbSize
  go_enter Tryd.func86, Tryd.ntmps86
  go_wp2
  rw [Lib.run_neq_ptr_same w _ Tryd.underlying121 hj]
  go_wp2
  go_end0
  exact ⟨rfl, rfl⟩

set_option maxHeartbeats 1000000 in
set_option maxRecDepth 100000 in
theorem copyCheck_fresh (b : Nat) (w : World) (h0 : w.cell? ⟨b, 0, none⟩ = some (.pointer none)) (hsh : w.shape? b = some (124, 2)) (hfz : w.frozen? ⟨b, 0, none⟩ = false) :
    Calls Tryd.prog 86 #[.pointer (some ⟨b, 0, none⟩)] w fun e w' => e = .returned (.tuple #[]) ∧ w' = w.setCell ⟨b, 0, none⟩ (.pointer (some ⟨b, 0, none⟩)) := by
  obtain ⟨j, hj, hjs⟩ := Option.map_eq_some_iff.1 sbSize
  go_enter Tryd.func86, Tryd.ntmps86
  go_wp2
  rw [Lib.run_to_unsafe w ⟨b, 0, none⟩ Tryd.underlying121 Tryd.underlying147 hj (by rw [hjs]; decide) hsh (Nat.zero_lt_succ 1)]
  simp only [Result.andThen]
  rw [Oper.upon_value]
  go_wp2
  rw [run_callFunc_extern Tryd.func93 (by kernel_rfl) (by kernel_rfl) (by kernel_rfl) (e := Extern.AbiNoEscape.same) (by kernel_rfl)]
  rw [Lib.run_noEscape]
  simp only [Result.andThen]
  rw [Oper.upon_value]
  go_wp2
  rw [Lib.run_from_unsafe w ⟨b, 0, none⟩ Tryd.underlying147 Tryd.underlying121 hj hsh sbLies]
  simp only [Result.andThen]
  rw [Oper.upon_value]
  go_wp2
  go_end0
  exact ⟨rfl, rfl⟩

theorem copyCheck_k (B b : Nat) (bs : List Value) (w : World) (h : Lib.IsBuilderF 124 5 B b bs w) :
    Calls Tryd.prog 86 #[.pointer (some ⟨b, 0, none⟩)] w fun e w' => e = .returned (.tuple #[]) ∧ (Lib.BuilderAtF 124 5 B b (.pointer (some ⟨b, 0, none⟩)) bs w' ∧ Below B w w' ∧ Lib.OthersKept 5 (some b) w w') := by
  rcases h with h | h
  · refine (copyCheck_fresh b w h.cell0 h.shape h.frozen0).mono ?_
    rintro e w' ⟨rfl, rfl⟩
    exact ⟨rfl, h.used _, (Below.refl B w).setCell (p := ⟨b, 0, none⟩) h.1 _, (Lib.OthersKept.refl _ _ w).setCell ⟨b, 0, none⟩ rfl _⟩
  · refine (copyCheck_used b w h.cell0).mono ?_
    rintro e w' ⟨rfl, rfl⟩
    exact ⟨rfl, h, Below.refl B _, Lib.OthersKept.refl _ _ _⟩

set_option maxHeartbeats 2000000 in
set_option maxRecDepth 100000 in
theorem WriteByte_k (B b : Nat) (bs : List Value) (c : Int) (w : World) (h : Lib.IsBuilderF 124 5 B b bs w) (hlen : bs.length + 1 ≤ 140737488355328) (hBw : B ≤ w.heap.size) :
    Calls Tryd.prog 78 #[.pointer (some ⟨b, 0, none⟩), .int .u8 c] w fun e w' => e = .returned .nilIface ∧ (Lib.BuilderAtF 124 5 B b (.pointer (some ⟨b, 0, none⟩)) (bs ++ [.int .u8 c]) w' ∧ Below B w w' ∧ Lib.OthersKept 5 (some b) w w') := by
  obtain ⟨i0, hi, hz0, hz1, hz2⟩ := info_parts byteInfo
  go_enter Tryd.func78, Tryd.ntmps78
  go_wp2_with (go_at_call 86; refine (copyCheck_k B b bs _ h).mono ?_)
  rintro e w1 ⟨rfl, h1, hb1, hk1⟩
  obtain ⟨hB, v, hbk, hown, hne⟩ := h1
  have c0 : w1.cell? ⟨b, 0, none⟩ = some (.pointer (some ⟨b, 0, none⟩)) := by rw [Lib.cell_of_heap hbk]; rfl
  have c1 : w1.cell? ⟨b, 1, none⟩ = some v := by rw [Lib.cell_of_heap hbk]; rfl
  go_wp2_with (at_builtin; refine wpList_append_ownF _ rfl _ _ 122 rfl B 5 i0 (.int .u8 0) 1 1 Tryd.underlying122 hi hz0 hz1 hz2 rfl (by decide) _ _ _ rfl (hown.alloc _) ⟨w1.heap.size, 0, none⟩ 1 1 [.int .u8 c] rfl rfl ?c1 ?c2 ?c3 ?c4 ?c5 ?_)
  case c1 =>
    intro j u hj
    match j, hj with
    | 0, hj => simp at hj; subst hj; simp [Addr.add]
  case c2 => intro u hu; simp at hu; subst hu; rfl
  case c3 => unfold maxLen; omega
  case c4 => omega
  case c5 => have := hb1.size; simp; omega
  intro v' w2 hown' hgrow _
  have hlt : b < w1.heap.size := by
    rcases Nat.lt_or_ge b w1.heap.size with h' | h'
    · exact h'
    · simp [Array.getElem?_eq_none h'] at hbk
  have hb2 : w2.heap[b]? = some (.cells #[.pointer (some ⟨b, 0, none⟩), v] 124 (0, 0)) := by
    rw [hgrow.block b (by simp; omega) (fun e => hne e.symm), Lib.alloc_old w1 _ b hlt]
    exact hbk
  have d0 : w2.cell? ⟨b, 0, none⟩ = some (.pointer (some ⟨b, 0, none⟩)) := by rw [Lib.cell_of_heap hb2]; rfl
  have d1 : w2.cell? ⟨b, 1, none⟩ = some v := by rw [Lib.cell_of_heap hb2]; rfl
  have f1 : w2.frozen? ⟨b, 1, none⟩ = false := Lib.frozen_of_heap hb2 1
  obtain ⟨g, cap, rfl⟩ : ∃ g cap, v' = .slice (some ⟨g, 0, none⟩) (bs.length + 1) cap := by
    rcases hown'.2 with ⟨_, h0⟩ | ⟨g, cap, cur, fz, hv, _⟩
    · omega
    · exact ⟨g, cap, hv⟩
  go_wp2
  go_ret
  refine ⟨rfl, ?_, ?_, ((hk1.alloc _).grown hgrow (Lib.ownsRowF_kind (hown.alloc _))).setCell ⟨b, 1, none⟩ rfl _⟩
  · exact Lib.BuilderAtF.put (T := 124) (e := 5) hB hb2 (bs' := bs ++ [.int .u8 c]) (by simpa using hown') (by decide)
  · exact ((hb1.alloc (by have := hb1.size; omega) _).grown hgrow (by have := hb1.size; simp; omega) (fun k hk => (hown.lt k hk).1)).setCell (p := ⟨b, 1, none⟩) hB _

set_option maxHeartbeats 2000000 in
set_option maxRecDepth 100000 in
theorem WriteString_k (B b : Nat) (bs : List Value) (s : ByteArray) (w : World) (h : Lib.IsBuilderF 124 5 B b bs w) (hlen : bs.length + s.size ≤ 140737488355328) (hBw : B ≤ w.heap.size) :
    Calls Tryd.prog 76 #[.pointer (some ⟨b, 0, none⟩), .string s] w fun e w' => e = .returned (.tuple #[.int .i64 s.size, .nilIface]) ∧ (Lib.BuilderAtF 124 5 B b (.pointer (some ⟨b, 0, none⟩)) (bs ++ Lib.strCells s) w' ∧ Below B w w' ∧ Lib.OthersKept 5 (some b) w w') := by
  obtain ⟨i0, hi, hz0, hz1, hz2⟩ := info_parts byteInfo
  go_enter Tryd.func76, Tryd.ntmps76
  go_wp2_with (go_at_call 86; refine (copyCheck_k B b bs _ h).mono ?_)
  rintro e w1 ⟨rfl, h1, hb1, hk1⟩
  obtain ⟨hB, v, hbk, hown, hne⟩ := h1
  have c0 : w1.cell? ⟨b, 0, none⟩ = some (.pointer (some ⟨b, 0, none⟩)) := by rw [Lib.cell_of_heap hbk]; rfl
  have c1 : w1.cell? ⟨b, 1, none⟩ = some v := by rw [Lib.cell_of_heap hbk]; rfl
  go_wp2_with (at_builtin; refine Lib.wpList_append_own_stringF _ rfl _ _ 122 9 rfl B 5 i0 Tryd.underlying122 Tryd.underlying9 hi hz0 hz1 hz2 _ _ _ rfl hown s rfl ?c3 ?c4 ?c5 ?_)
  case c3 => unfold maxLen; omega
  case c4 => omega
  case c5 => have := hb1.size; omega
  intro v' w2 hown' hgrow _
  have hlt : b < w1.heap.size := by
    rcases Nat.lt_or_ge b w1.heap.size with h' | h'
    · exact h'
    · simp [Array.getElem?_eq_none h'] at hbk
  have hb2 : w2.heap[b]? = some (.cells #[.pointer (some ⟨b, 0, none⟩), v] 124 (0, 0)) := by
    rw [hgrow.block b hlt (fun e => hne e.symm)]
    exact hbk
  have d0 : w2.cell? ⟨b, 0, none⟩ = some (.pointer (some ⟨b, 0, none⟩)) := by rw [Lib.cell_of_heap hb2]; rfl
  have d1 : w2.cell? ⟨b, 1, none⟩ = some v := by rw [Lib.cell_of_heap hb2]; rfl
  have f1 : w2.frozen? ⟨b, 1, none⟩ = false := Lib.frozen_of_heap hb2 1
  obtain ⟨ao, n', cap, rfl⟩ : ∃ ao n' cap, v' = .slice ao n' cap := by
    rcases hown'.2 with ⟨hv, _⟩ | ⟨g, cap, cur, fz, hv, _⟩
    · exact ⟨_, _, _, hv⟩
    · exact ⟨_, _, _, hv⟩
  go_wp2
  go_ret2
  refine ⟨rfl, ?_, ?_, (hk1.grown hgrow (Lib.ownsRowF_kind hown)).setCell ⟨b, 1, none⟩ rfl _⟩
  · exact Lib.BuilderAtF.put (T := 124) (e := 5) hB hb2 (bs' := bs ++ Lib.strCells s) (by simpa [Lib.strCells_length] using hown') (by decide)
  · exact (hb1.grown hgrow (by have := hb1.size; omega) (fun k hk => (hown.lt k hk).1)).setCell (p := ⟨b, 1, none⟩) hB _

set_option maxHeartbeats 4000000 in
set_option maxRecDepth 100000 in
theorem WriteRune_k (B b : Nat) (bs : List Value) (r : Int) (hr0 : -2147483648 ≤ r) (hr1 : r ≤ 2147483647) (w : World) (h : Lib.IsBuilderF 124 5 B b bs w) (hlen : bs.length + 4 ≤ 140737488355328) (hBw : B ≤ w.heap.size) :
    Calls Tryd.prog 77 #[.pointer (some ⟨b, 0, none⟩), .int .i32 r] w fun e w' => e = .returned (.tuple #[.int .i64 (Lib.runeCells r).length, .nilIface]) ∧ (Lib.BuilderAtF 124 5 B b (.pointer (some ⟨b, 0, none⟩)) (bs ++ Lib.runeCells r) w' ∧ Below B w w' ∧ Lib.OthersKept 5 (some b) w w') := by
  have hk4 := Lib.runeCells_le r
  go_enter Tryd.func77, Tryd.ntmps77
  go_wp2_with (go_at_call 86; refine (copyCheck_k B b bs _ h).mono ?_)
  rintro e w1 ⟨rfl, h1, hb1, hk1⟩
  obtain ⟨hB, v, hbk, hown, hne⟩ := h1
  obtain ⟨ao, cap, rfl⟩ : ∃ ao cap, v = .slice ao bs.length cap := by
    rcases hown.2 with ⟨hv, h0⟩ | ⟨g, cap, cur, fz, hv, _⟩
    · exact ⟨none, 0, by rw [hv, h0]⟩
    · exact ⟨_, _, hv⟩
  have c0 : w1.cell? ⟨b, 0, none⟩ = some (.pointer (some ⟨b, 0, none⟩)) := by rw [Lib.cell_of_heap hbk]; rfl
  have c1 : w1.cell? ⟨b, 1, none⟩ = some (.slice ao bs.length cap) := by rw [Lib.cell_of_heap hbk]; rfl
  go_wp2_with (go_at_call 87; refine (Tryd.utf8_AppendRune_row B _ bs.length bs r hr0 hr1 _ hown hlen (by have := hb1.size; omega)).mono ?_)
  rintro e w2 ⟨v', rfl, hown', o, hgrow⟩
  have hlt : b < w1.heap.size := by
    rcases Nat.lt_or_ge b w1.heap.size with h' | h'
    · exact h'
    · simp [Array.getElem?_eq_none h'] at hbk
  have hb2 : w2.heap[b]? = some (.cells #[.pointer (some ⟨b, 0, none⟩), .slice ao bs.length cap] 124 (0, 0)) := by
    rw [hgrow.block b (by simp; omega) (fun e => hne e.symm), Lib.alloc_old w1 _ b hlt]
    exact hbk
  have d0 : w2.cell? ⟨b, 0, none⟩ = some (.pointer (some ⟨b, 0, none⟩)) := by rw [Lib.cell_of_heap hb2]; rfl
  have d1 : w2.cell? ⟨b, 1, none⟩ = some (.slice ao bs.length cap) := by rw [Lib.cell_of_heap hb2]; rfl
  have f1 : w2.frozen? ⟨b, 1, none⟩ = false := Lib.frozen_of_heap hb2 1
  obtain ⟨g, cap', rfl⟩ : ∃ g cap', v' = .slice (some ⟨g, 0, none⟩) (bs.length + (Lib.runeCells r).length) cap' := by
    rcases hown'.2 with ⟨_, h0⟩ | ⟨g, cap', cur, fz, hv, _⟩
    · omega
    · exact ⟨g, cap', hv⟩
  go_wp2
  go_ret2
  refine ⟨?_, ?_, ?_, ((hk1.alloc _).grown hgrow (Lib.ownsRowF_kind (hown.alloc _))).setCell ⟨b, 1, none⟩ rfl _⟩
  · have e : ((bs.length : Int) + ((Lib.runeCells r).length : Int) - (bs.length : Int)) = ((Lib.runeCells r).length : Int) := by omega
    simp [e]
  · exact Lib.BuilderAtF.put (T := 124) (e := 5) hB hb2 (bs' := bs ++ Lib.runeCells r) (by simpa using hown') (by decide)
  · exact ((hb1.alloc (by have := hb1.size; omega) _).grown hgrow (by have := hb1.size; simp; omega) (fun k hk => (hown.lt k hk).1)).setCell (p := ⟨b, 1, none⟩) hB _

end Go.Proofs.YtabcaljnpahgpaaDoor
namespace Go.Proofs.YtabcaljnpahgpaaDoor
set_option linter.unusedSimpArgs false
set_option linter.unusedVariables false
open Go Go.RowKit

theorem heap_lt {w : World} {k : Nat} {o : Obj} (h : w.heap[k]? = some o) : k < w.heap.size := by
  rcases Nat.lt_or_ge k w.heap.size with h' | h'
  · exact h'
  · simp [Array.getElem?_eq_none h'] at h

/-- A builder stays one where its own blocks stand. -/
theorem isB_keep {T e : TypeId} {B b : Nat} {bs : List Value} {w w' : World} (h : Lib.IsBuilderF T e B b bs w) (hk : ∀ k, B ≤ k → k < w.heap.size → w'.heap[k]? = w.heap[k]?) : Lib.IsBuilderF T e B b bs w' := by
  have one : ∀ p, Lib.BuilderAtF T e B b p bs w → Lib.BuilderAtF T e B b p bs w' := by
    rintro p ⟨hB, v, hb, ⟨hl, ho⟩, hne⟩
    refine ⟨hB, v, by rw [hk b hB (heap_lt hb)]; exact hb, ⟨hl, ?_⟩, hne⟩
    rcases ho with ho | ⟨g, cap, cur, fz, h1, h2, h3, h4⟩
    · exact .inl ho
    · exact .inr ⟨g, cap, cur, fz, h1, h2, by rw [hk g h2 (heap_lt h3)]; exact h3, h4⟩
  exact h.imp (one _) (one _)

structure St (w0 : World) (bx bo : Nat) (s : ByteArray) (b : Nat) (out : List UInt8) (w : World) : Prop where
  scan : Scan w bx s b
  bld : IsB bo out w
  fr : Fr bx w0 w
  env : Env w
  lo : bx < bo
  hi : bo = w0.heap.size
  three : 3 ≤ bx

theorem St.le {w0 : World} {bx bo : Nat} {s : ByteArray} {b : Nat} {out : List UInt8} {w : World} (h : St w0 bx bo s b out w) : bo ≤ w.heap.size := by
  have := h.fr.size; rw [h.hi]; exact this
theorem St.drewN {w0 : World} {bx bo : Nat} {s : ByteArray} {b : Nat} {out : List UInt8} {w : World} (h : St w0 bx bo s b out w) (n : Nat) : St w0 bx bo s b out (w.drewN n) :=
  ⟨h.scan.drewN n, isB_keep h.bld (fun _ _ _ => rfl), h.fr.drewN n, h.env.drewN n, h.lo, h.hi, h.three⟩
theorem St.put {w0 : World} {bx bo : Nat} {s : ByteArray} {b : Nat} {out : List UInt8} {w : World} (h : St w0 bx bo s b out w) (n : Nat) : St w0 bx bo s n out (w.setCell ⟨bx, 1, none⟩ (.int .i64 n)) :=
  ⟨h.scan.put n, isB_keep h.bld (fun k hk _ => by have := h.lo; exact Below.heap_setCell _ _ _ _ (fun e => by simp at e; omega)), h.fr.set 1 _, h.env.fr (Fr.set (But.refl _ _) 1 _) h.three, h.lo, h.hi, h.three⟩
theorem St.below {w0 : World} {bx bo : Nat} {s : ByteArray} {b : Nat} {out : List UInt8} {w w' : World} (h : St w0 bx bo s b out w) (hb : Below w.heap.size w w') : St w0 bx bo s b out w' :=
  ⟨h.scan.below hb, isB_keep h.bld (fun k _ hk => hb.block k hk), h.fr.trans (But.of_below hb), h.env.below hb, h.lo, h.hi, h.three⟩
theorem St.wrote {w0 : World} {bx bo : Nat} {s : ByteArray} {b : Nat} {out out' : List UInt8} {w w' : World} (h : St w0 bx bo s b out w) (hB : IsB bo out' w') (hb : Below bo w w') : St w0 bx bo s b out' w' := by
  have hf : Fr bx w0 w' := ⟨hb.os.trans h.fr.os, hb.tape.trans h.fr.tape, hb.output.trans h.fr.output, Nat.le_trans h.fr.size hb.size,
    fun k hk hx => (hb.block k (by rw [h.hi]; exact hk)).trans (h.fr.block k hk hx)⟩
  have hs : Scan w' bx s b := by have := h.scan; unfold Scan at *; rw [hb.block bx h.lo]; exact this
  have he : Env w' := by
    have e := h.env
    have l1 := h.lo; have l2 := h.three
    obtain ⟨⟨h1, h2⟩, m, h3⟩ := e
    exact ⟨⟨fun c hc => by rw [hb.cell (by simp; omega)]; exact h1 c hc, fun i hi => ⟨by rw [hb.cell (by simp; omega)]; exact (h2 i hi).1, by rw [hb.cell (by simp; omega)]; exact (h2 i hi).2⟩⟩, m, by rw [hb.cell (by simp; omega)]; exact h3⟩
  exact ⟨hs, hB, hf, he, h.lo, h.hi, h.three⟩

theorem St.start {w0 w : World} {bx : Nat} {s : ByteArray} {b : Nat} (hS : Scan w bx s b) (hF : Fr bx w0 w) (hE : Env w) (hsz : w.heap.size = w0.heap.size) (h3 : 3 ≤ bx) :
    St w0 bx w.heap.size s b [] (w.alloc (.cells #[.pointer none, .slice none 0 0] 124)) := by
  have hlt := hS.lt
  refine ⟨hS.below ((Below.refl _ _).alloc (Nat.le_refl _) _), .inl ⟨Nat.le_refl _, .slice none 0 0, ?_, ⟨rfl, .inl ⟨rfl, rfl⟩⟩, by simp [Value.ownBlock]⟩, hF.alloc _, hE.below ((Below.refl _ _).alloc (Nat.le_refl _) _), hlt, hsz, h3⟩
  show (w.heap.push _)[w.heap.size]? = _
  simp

/-- The writers, in one word. -/
theorem St.rune {w0 : World} {bx bo : Nat} {s : ByteArray} {b : Nat} {out : List UInt8} {w : World} (h : St w0 bx bo s b out w) (hl : out.length ≤ 5000) (r : Nat) (hr : r < 55296 ∨ (57343 < r ∧ r ≤ 1114111)) :
    Calls Tryd.prog 77 #[.pointer (some ⟨bo, 0, none⟩), .int .i32 r] w fun e w' => (∃ n : Int, e = .returned (.tuple #[.int .i64 n, .nilIface])) ∧ St w0 bx bo s b (out ++ Lx.enc r) w' := by
  refine (WriteRune_k bo bo _ r (by omega) (by omega) w h.bld (by rw [Lib.byteCells_length]; omega) h.le).mono ?_
  rintro e w' ⟨rfl, h1, h2, _⟩
  refine ⟨⟨_, rfl⟩, h.wrote (.inr ?_) h2⟩
  rw [← Lx.enc_lib r hr, Lib.byteCells_append, Lib.byteCells_encodeRune]
  exact h1
theorem St.byte {w0 : World} {bx bo : Nat} {s : ByteArray} {b : Nat} {out : List UInt8} {w : World} (h : St w0 bx bo s b out w) (hl : out.length ≤ 5000) (c : UInt8) :
    Calls Tryd.prog 78 #[.pointer (some ⟨bo, 0, none⟩), .int .u8 c.toNat] w fun e w' => e = .returned .nilIface ∧ St w0 bx bo s b (out ++ [c]) w' := by
  refine (WriteByte_k bo bo _ c.toNat w h.bld (by rw [Lib.byteCells_length]; omega) h.le).mono ?_
  rintro e w' ⟨rfl, h1, h2, _⟩
  refine ⟨rfl, h.wrote (.inr ?_) h2⟩
  rw [Lib.byteCells_append]
  exact h1
theorem St.str {w0 : World} {bx bo : Nat} {s : ByteArray} {b : Nat} {out : List UInt8} {w : World} (h : St w0 bx bo s b out w) (hl : out.length ≤ 5000) (l : List UInt8) (hl2 : l.length ≤ 5000) :
    Calls Tryd.prog 76 #[.pointer (some ⟨bo, 0, none⟩), .string ⟨l.toArray⟩] w fun e w' => (∃ n : Int, e = .returned (.tuple #[.int .i64 n, .nilIface])) ∧ St w0 bx bo s b (out ++ l) w' := by
  refine (WriteString_k bo bo _ ⟨l.toArray⟩ w h.bld (by rw [Lib.byteCells_length]; show _ + l.length ≤ _; omega) h.le).mono ?_
  rintro e w' ⟨rfl, h1, h2, _⟩
  refine ⟨⟨_, rfl⟩, h.wrote (.inr ?_) h2⟩
  rw [Lib.byteCells_append]
  exact h1
theorem St.string {w0 : World} {bx bo : Nat} {s : ByteArray} {b : Nat} {out : List UInt8} {w : World} (h : St w0 bx bo s b out w) :
    Calls Tryd.prog 75 #[.pointer (some ⟨bo, 0, none⟩)] w fun e w' => e = .returned (.string ⟨out.toArray⟩) ∧ St w0 bx bo s b out w' := by
  refine (Tryd.Builder_String_any_k bo bo out w h.bld h.le).mono ?_
  rintro e w' ⟨rfl, h1, h2, _⟩
  exact ⟨rfl, h.wrote h1 h2⟩

end Go.Proofs.YtabcaljnpahgpaaDoor
namespace Go.Proofs.YtabcaljnpahgpaaDoor
set_option linter.unusedSimpArgs false
set_option linter.unusedVariables false
open Go Go.RowKit

theorem hd_sfx' (s : ByteArray) (n : Nat) : Lx.hd (sfx s n) = bt s n := by
  have := sfx_getD s n 0
  unfold Lx.hd
  cases h : sfx s n with
  | nil => rw [h] at this; simpa using this
  | cons c t => rw [h] at this; simpa using this

theorem escIdx (c : UInt8) (w : World) :
    Calls Tryd.prog 66 #[.string ⟨#[34, 92, 47, 98, 102, 110, 114, 116, 117]⟩, .int .u8 c.toNat] w fun e w' => e = .returned (.int .i64 (Lib.indexByte Lx.escs c)) ∧ w' = w := by
  refine (Tryd.strings_IndexByte _ _ _).mono ?_
  rintro e w' ⟨rfl, rfl⟩
  refine ⟨?_, rfl⟩
  have h1 : ((c.toNat : Int)).toNat.toUInt8 = c := by simp
  rw [h1]
  rfl

/-- What a method that reads a string leaves. -/
def TxtPost (o : Option (List UInt8 × List UInt8)) (bx : Nat) (s : ByteArray) (a : Nat) (w : World) (e : Ending) (w' : World) : Prop :=
  ∃ b, a < b ∧ b ≤ s.size ∧ Scan w' bx s b ∧ Fr bx w w' ∧ Env w' ∧
    ((∃ m, o = some (m, sfx s b) ∧ m.length ≤ b ∧ e = .returned (.tuple #[.string ⟨m.toArray⟩, .bool true])) ∨ (o = none ∧ e = .returned (.tuple #[.string ⟨#[]⟩, .bool false])))

set_option maxHeartbeats 8000000 in
set_option maxRecDepth 100000 in
theorem text_any (bx : Nat) (s : ByteArray) (a : Nat) (w : World) (hs : s.size ≤ 4096) (hat : a < s.size) (h : Scan w bx s a) (hE : Env w) (h3 : 3 ≤ bx) :
    Calls Tryd.prog 65 #[.pointer (some ⟨bx, 0, none⟩)] w (TxtPost (Lx.text [] (sfx s (a + 1))) bx s a w) := by
  have hS0 : St w bx w.heap.size s (a + 1) [] ((w.setCell ⟨bx, 1, none⟩ (.int .i64 ((a + 1 : Nat) : Int))).alloc (.cells #[.pointer none, .slice none 0 0] 124)) := by
    have := St.start (w0 := w) (h.put (a + 1)) (Fr.set (But.refl _ _) 1 _) (hE.fr (Fr.set (But.refl _ _) 1 _) h3) (by simp [World.setCell]) h3
    simpa [World.setCell] using this
  have H0 := Lib.hid hS0
  have c0 := h.c0; have c1 := h.c1; have f1 := h.f1
  clear hS0 h hE
  go_enter Tryd.func65, Tryd.ntmps65
  go_wp2
  clear c0 c1 f1
  go_loopg [] (s.size - (a + 1)) (fun k wr => ∃ b out, k = s.size - b ∧ a < b ∧ b ≤ s.size ∧ out.length ≤ b ∧ Lx.text out (sfx s b) = Lx.text [] (sfx s (a + 1)) ∧ St w bx w.heap.size s b out wr)
  case atStart => exact ⟨a + 1, [], rfl, by omega, hat, by simp, rfl, H0.out⟩
  case round =>
    obtain ⟨b, out, hk, hab, hb, hol, hd, hS⟩ := hrel
    have c0 := hS.scan.c0; have c1 := hS.scan.c1; have f1 := hS.scan.f1
    have HD := Lib.hid hd; have HK := Lib.hid hk
    clear hd hk H0
    by_cases hlt : b < s.size
    · have hi0 : (0 : Int) ≤ (b : Int) := Int.natCast_nonneg _
      have hi1 : (b : Int) < s.size := by omega
      have HC := Lib.hid (sfx_cons s b hlt)
      have hn4 := Lx.rune_le4 (sfx s b)
      have hnl := Lx.rune_len (sfx s b)
      have hrm := Lx.rune_max (sfx s b)
      rw [sfx_len] at hnl
      rcases Lx.ctl_cases (Lx.rune (sfx s b)).1 (Lx.rune (sfx s b)).2 with ⟨q1, q4⟩ | ⟨q1, q2, q3, q4⟩ | ⟨q1, q2, q3, q4⟩ | ⟨q1, q2, q4⟩
      · have Q4 := Lib.hid q4
        clear q4
        go_wp2
        go_quiet (fail)
        go_wp2_with fail
        refine (rune_any bx s b _ hs hb (hS.scan.drewN _) (hS.env.drewN _)).mono ?_
        rintro e w1 ⟨rfl, hb1⟩
        have hS1 := (hS.drewN _).below hb1
        clear hb1 c0 c1 f1
        have c0 := hS1.scan.c0; have c1 := hS1.scan.c1; have f1 := hS1.scan.f1
        go_wp2_with fail
        go_ret2
        exact ⟨b, by omega, hb, hS1.scan, hS1.fr, hS1.env, .inr ⟨by rw [← HD.out, HC.out, Lx.text_bad (by rw [← HC.out]; exact Q4.out)], rfl⟩⟩
      · have Q4 := Lib.hid q4
        clear q4
        go_wp2
        go_quiet (fail)
        go_wp2_with fail
        refine (rune_any bx s b _ hs hb (hS.scan.drewN _) (hS.env.drewN _)).mono ?_
        rintro e w1 ⟨rfl, hb1⟩
        have hS1 := (hS.drewN _).below hb1
        clear hb1 c0 c1 f1
        have c0 := hS1.scan.c0; have c1 := hS1.scan.c1; have f1 := hS1.scan.f1
        go_wp2_with fail
        go_ret2
        exact ⟨b, by omega, hb, hS1.scan, hS1.fr, hS1.env, .inr ⟨by rw [← HD.out, HC.out, Lx.text_bad (by rw [← HC.out]; exact Q4.out)], rfl⟩⟩
      all_goals
        have hn1 : (Lx.rune (sfx s b)).2 ≠ 0 := fun h => q4 (.inl h)
        have Q4 : Hid (¬ Lx.ctl (bt s b :: sfx s (b + 1))) := by rw [← HC.out]; exact q4
        obtain ⟨hen1, hen2⟩ := Lx.rune_enc (sfx s b) hn1
        have HEN := Lib.hid hen2
        have HN1 := Lib.hid hen1
        clear q4 hen2 hen1
        by_cases h34 : (Lx.rune (sfx s b)).1 = 34
        · have e1 := eqT (n := (Lx.rune (sfx s b)).1) (k := 34) (by omega)
          have H34 := Lib.hid h34
          clear h34
          go_wp2
          go_quiet (fail)
          go_wp2_with fail
          refine (rune_any bx s b _ hs hb (hS.scan.drewN _) (hS.env.drewN _)).mono ?_
          rintro e w1 ⟨rfl, hb1⟩
          have hS1 := (hS.drewN _).below hb1
          clear hb1 c0 c1 f1
          have c0 := hS1.scan.c0; have c1 := hS1.scan.c1; have f1 := hS1.scan.f1
          go_wp2_with fail
          refine (((hS1.put (b + 1)).string)).mono ?_
          rintro e w2 ⟨rfl, hS2⟩
          go_wp2_with fail
          go_ret2
          refine ⟨b + 1, by omega, hlt, hS2.scan, hS2.fr, hS2.env, .inl ⟨out, ?_, by omega, rfl⟩⟩
          rw [← HD.out, HC.out, Lx.text_quote Q4.out (by rw [← HC.out]; exact H34.out)]
        · have e1 := eqF (n := (Lx.rune (sfx s b)).1) (k := 34) (by omega)
          have H34 := Lib.hid h34
          clear h34
          by_cases h92 : (Lx.rune (sfx s b)).1 = 92
          · have e2 := neF (n := (Lx.rune (sfx s b)).1) (k := 92) (by omega)
            have H92 := Lib.hid h92
            clear h92
            have hI := escIdx (bt s (b + 1))
            have hec := Lx.esc_cases (bt s (b + 1))
            generalize Lib.indexByte Lx.escs (bt s (b + 1)) = kk at hI hec
            have HI := Lib.hid hI
            clear hI
            rcases hec with ⟨g1, g2, g3⟩ | ⟨g1, g4, g2, g3⟩ | ⟨g1, g2, g3⟩
            · have G2 := Lib.hid g2; have G3 := Lib.hid g3
              have e3 : decide (kk < 0) = true := by simpa using g1
              clear g2 g3
              go_wp2
              go_quiet (fail)
              go_wp2_with fail
              refine (rune_any bx s b _ hs hb (hS.scan.drewN _) (hS.env.drewN _)).mono ?_
              rintro e w1 ⟨rfl, hb1⟩
              have hS1 := (hS.drewN _).below hb1
              clear hb1 c0 c1 f1
              have c0 := hS1.scan.c0; have c1 := hS1.scan.c1; have f1 := hS1.scan.f1
              go_wp2_with fail
              refine (peek1_any bx s b _ hs hb hS1.scan).mono ?_
              rintro e w2 ⟨rfl, n2, rfl⟩
              go_wp2_with fail
              refine (HI.out _).mono ?_
              rintro e w2 ⟨rfl, hw2⟩
              subst hw2
              go_wp2_with fail
              go_ret2
              exact ⟨b, by omega, hb, hS1.scan.drewN _, hS1.fr.drewN _, hS1.env.drewN _, .inr ⟨by rw [← HD.out, HC.out, Lx.text_noesc Q4.out (by rw [← HC.out]; exact H92.out) (by rw [hd_sfx']; exact G2.out) (by rw [hd_sfx']; exact G3.out)], rfl⟩⟩
            · have G2 := Lib.hid g2; have G3 := Lib.hid g3
              have e3 : decide (kk < 0) = false := by simp; omega
              have e4 : decide (kk < 8) = true := by simp; omega
              have e5 := eqF (n := (bt s (b + 1)).toNat) (k := 0) (by omega)
              have hb1 : b + 1 < s.size := by
                rcases Nat.lt_or_ge (b + 1) s.size with h' | h'
                · exact h'
                · rw [bt_end _ _ h'] at g3; exact absurd rfl g3
              clear g2 g3
              go_wp2
              go_quiet (fail)
              go_wp2_with fail
              refine (rune_any bx s b _ hs hb (hS.scan.drewN _) (hS.env.drewN _)).mono ?_
              rintro e w1 ⟨rfl, hb1⟩
              have hS1 := (hS.drewN _).below hb1
              clear hb1 c0 c1 f1
              have c0 := hS1.scan.c0; have c1 := hS1.scan.c1; have f1 := hS1.scan.f1
              go_wp2_with fail
              refine (peek1_any bx s b _ hs hb hS1.scan).mono ?_
              rintro e w2 ⟨rfl, n2, rfl⟩
              go_wp2_with fail
              refine (HI.out _).mono ?_
              rintro e w2 ⟨rfl, hw2⟩
              subst hw2
              go_wp2_with fail
              refine (peek1_any bx s b _ hs hb (hS1.scan.drewN _)).mono ?_
              rintro e w2 ⟨rfl, n3, hw3⟩
              have hS3 : St w bx w.heap.size s b out w2 := by rw [hw3]; exact (hS1.drewN _).drewN _
              clear hw3 c0 c1 f1 hS1
              have c0 := hS3.scan.c0; have c1 := hS3.scan.c1; have f1 := hS3.scan.f1
              go_wp2_with fail
              refine (hS3.byte (by omega) (bt ⟨#[34, 92, 47, 8, 12, 10, 13, 9]⟩ kk.toNat)).mono ?_
              rintro e w4 ⟨rfl, hS4⟩
              clear c0 c1 f1
              have c0 := hS4.scan.c0; have c1 := hS4.scan.c1; have f1 := hS4.scan.f1
              go_wp2
              go_roundg (s.size - (b + 2))
              case measure => rw [HK.out]; omega
              case rel =>
                refine ⟨b + 2, out ++ [bt ⟨#[34, 92, 47, 8, 12, 10, 13, 9]⟩ kk.toNat], rfl, by omega, by omega, by simp; omega, ?_, hS4.put _⟩
                rw [← HD.out, HC.out, Lx.text_esc Q4.out (by rw [← HC.out]; exact H92.out) (by rw [hd_sfx']; exact G2.out), sfx_drop]
                rfl
            · have G2 := Lib.hid g2; have G3 := Lib.hid g3
              have e3 : decide (kk < 0) = false := by simp; omega
              have e4 : decide (kk < 8) = false := by simp; omega
              have e5 := eqF (n := (bt s (b + 1)).toNat) (k := 0) (by omega)
              have hb1 : b + 1 < s.size := by
                rcases Nat.lt_or_ge (b + 1) s.size with h' | h'
                · exact h'
                · rw [bt_end _ _ h'] at g3; exact absurd g3 (by decide)
              have hi2 : (0 : Int) ≤ (b : Int) + 2 := by omega
              have hi3 : (b : Int) + 2 ≤ s.size := by omega
              have hxs := extract_sfx s (b + 2)
              have hxm := hex_any ⟨(sfx s (b + 2)).toArray⟩
              have hsl : (ByteArray.mk (sfx s (b + 2)).toArray).size ≤ 4096 := by
                show (sfx s (b + 2)).length ≤ 4096
                rw [sfx_len]; omega
              have hda : (ByteArray.mk (sfx s (b + 2)).toArray).data.toList = sfx s (b + 2) := rfl
              have HXM : Hid (∀ w', Calls Tryd.prog 79 #[.string ⟨(sfx s (b + 2)).toArray⟩] w' fun e w'' => e = .returned (.int .i32 (hexAns (Lx.hex (sfx s (b + 2))))) ∧ w'' = w') := fun w' => hxm w' hsl
              have HP := Lib.hid hd_sfx'
              clear g2 g3 hxm hsl hda
              have hhex : (hexAns (Lx.hex (sfx s (b + 2))) = -1 ∧ Lx.hex (sfx s (b + 2)) = none) ∨ ∃ v : Nat, v < 65536 ∧ b + 6 ≤ s.size ∧ hexAns (Lx.hex (sfx s (b + 2))) = (v : Int) ∧ Lx.hex (sfx s (b + 2)) = some v := by
                cases hh : Lx.hex (sfx s (b + 2)) with
                | none => exact .inl ⟨rfl, rfl⟩
                | some v =>
                  have h1 := Lx.hexs_len 4 0 _ _ hh
                  rw [sfx_len] at h1
                  exact .inr ⟨v, Lx.hex_lt hh, by omega, rfl, rfl⟩
              generalize hexAns (Lx.hex (sfx s (b + 2))) = hv at HXM hhex
              rcases hhex with ⟨rfl, hx⟩ | ⟨v, hv1, hv2, rfl, hx⟩
              · have HX := Lib.hid hx
                clear hx
                go_wp2
                go_quiet (fail)
                go_wp2_with fail
                refine (rune_any bx s b _ hs hb (hS.scan.drewN _) (hS.env.drewN _)).mono ?_
                rintro e w1 ⟨rfl, hb1⟩
                have hS1 := (hS.drewN _).below hb1
                clear hb1 c0 c1 f1
                have c0 := hS1.scan.c0; have c1 := hS1.scan.c1; have f1 := hS1.scan.f1
                go_wp2_with fail
                refine (peek1_any bx s b _ hs hb hS1.scan).mono ?_
                rintro e w2 ⟨rfl, n2, rfl⟩
                go_wp2_with fail
                refine (HI.out _).mono ?_
                rintro e w2 ⟨rfl, hw2⟩
                subst hw2
                go_wp2_with fail
                refine (peek1_any bx s b _ hs hb (hS1.scan.drewN _)).mono ?_
                rintro e w2 ⟨rfl, n3, hw3⟩
                have hS3 : St w bx w.heap.size s b out w2 := by rw [hw3]; exact (hS1.drewN _).drewN _
                clear hw3 c0 c1 f1 hS1
                have c0 := hS3.scan.c0; have c1 := hS3.scan.c1; have f1 := hS3.scan.f1
                go_wp2
                go_quiet ((exact Calls.quiet_of_same (HXM.out _)))
                go_wp2
                go_ret2
                exact ⟨b, by omega, hb, hS3.scan.drewN _, hS3.fr.drewN _, hS3.env.drewN _, .inr ⟨by rw [← HD.out, HC.out, Lx.text_nohex Q4.out (by rw [← HC.out]; exact H92.out) (by rw [hd_sfx']; exact G2.out) (by rw [hd_sfx']; exact G3.out) (by rw [sfx_drop]; exact HX.out)], rfl⟩⟩
              · have HX := Lib.hid hx
                clear hx
                have hv3 : decide ((v : Int) < 0) = false := by simp
                by_cases hsur : 55296 ≤ v ∧ v < 57344
                · have s1 : decide (55296 ≤ (v : Int)) = true := by simp; omega
                  have s2 : decide ((v : Int) < 57344) = true := by simp; omega
                  have HSU := Lib.hid hsur
                  clear hsur
                  go_wp2
                  go_quiet (fail)
                  go_wp2_with fail
                  refine (rune_any bx s b _ hs hb (hS.scan.drewN _) (hS.env.drewN _)).mono ?_
                  rintro e w1 ⟨rfl, hb1⟩
                  have hS1 := (hS.drewN _).below hb1
                  clear hb1 c0 c1 f1
                  have c0 := hS1.scan.c0; have c1 := hS1.scan.c1; have f1 := hS1.scan.f1
                  go_wp2_with fail
                  refine (peek1_any bx s b _ hs hb hS1.scan).mono ?_
                  rintro e w2 ⟨rfl, n2, rfl⟩
                  go_wp2_with fail
                  refine (HI.out _).mono ?_
                  rintro e w2 ⟨rfl, hw2⟩
                  subst hw2
                  go_wp2_with fail
                  refine (peek1_any bx s b _ hs hb (hS1.scan.drewN _)).mono ?_
                  rintro e w2 ⟨rfl, n3, hw3⟩
                  have hS3 : St w bx w.heap.size s b out w2 := by rw [hw3]; exact (hS1.drewN _).drewN _
                  clear hw3 c0 c1 f1 hS1
                  have c0 := hS3.scan.c0; have c1 := hS3.scan.c1; have f1 := hS3.scan.f1
                  go_wp2
                  go_quiet ((exact Calls.quiet_of_same (HXM.out _)))
                  go_wp2
                  go_ret2
                  exact ⟨b, by omega, hb, hS3.scan.drewN _, hS3.fr.drewN _, hS3.env.drewN _, .inr ⟨by rw [← HD.out, HC.out, Lx.text_sur Q4.out (by rw [← HC.out]; exact H92.out) (by rw [hd_sfx']; exact G2.out) (by rw [hd_sfx']; exact G3.out) (by rw [sfx_drop]; exact HX.out) HSU.out], rfl⟩⟩
                · have hs12 : decide (55296 ≤ (v : Int)) = false ∨ (decide (55296 ≤ (v : Int)) = true ∧ decide ((v : Int) < 57344) = false) := by
                    by_cases h' : 55296 ≤ v
                    · exact .inr ⟨by simp; omega, by simp; omega⟩
                    · exact .inl (by simp; omega)
                  have HSU := Lib.hid hsur
                  clear hsur
                  rcases hs12 with s1 | ⟨s1, s2⟩
                  all_goals
                    go_wp2
                    go_quiet (fail)
                    go_wp2_with fail
                    refine (rune_any bx s b _ hs hb (hS.scan.drewN _) (hS.env.drewN _)).mono ?_
                    rintro e w1 ⟨rfl, hb1⟩
                    have hS1 := (hS.drewN _).below hb1
                    clear hb1 c0 c1 f1
                    have c0 := hS1.scan.c0; have c1 := hS1.scan.c1; have f1 := hS1.scan.f1
                    go_wp2_with fail
                    refine (peek1_any bx s b _ hs hb hS1.scan).mono ?_
                    rintro e w2 ⟨rfl, n2, rfl⟩
                    go_wp2_with fail
                    refine (HI.out _).mono ?_
                    rintro e w2 ⟨rfl, hw2⟩
                    subst hw2
                    go_wp2_with fail
                    refine (peek1_any bx s b _ hs hb (hS1.scan.drewN _)).mono ?_
                    rintro e w2 ⟨rfl, n3, hw3⟩
                    have hS3 : St w bx w.heap.size s b out w2 := by rw [hw3]; exact (hS1.drewN _).drewN _
                    clear hw3 c0 c1 f1 hS1
                    have c0 := hS3.scan.c0; have c1 := hS3.scan.c1; have f1 := hS3.scan.f1
                    go_wp2
                    go_quiet ((exact Calls.quiet_of_same (HXM.out _)))
                    go_wp2_with fail
                    refine ((hS3.drewN _).rune (by omega) v (by have := HSU.out; omega)).mono ?_
                    rintro e w5 ⟨⟨n5, rfl⟩, hS5⟩
                    clear c0 c1 f1
                    have c0 := hS5.scan.c0; have c1 := hS5.scan.c1; have f1 := hS5.scan.f1
                    go_wp2
                    go_roundg (s.size - (b + 6))
                    case measure => rw [HK.out]; omega
                    case rel =>
                      have hel := Lx.enc_len v
                      refine ⟨b + 6, out ++ Lx.enc v, rfl, by omega, by omega, by simp; omega, ?_, hS5.put _⟩
                      rw [← HD.out, HC.out, Lx.text_uni Q4.out (by rw [← HC.out]; exact H92.out) (by rw [hd_sfx']; exact G2.out) (by rw [hd_sfx']; exact G3.out) (by rw [sfx_drop]; exact HX.out) HSU.out, sfx_drop]
          · have e2 := neT (n := (Lx.rune (sfx s b)).1) (k := 92) (by omega)
            have H92 := Lib.hid h92
            clear h92
            go_wp2
            go_quiet (fail)
            go_wp2_with fail
            refine (rune_any bx s b _ hs hb (hS.scan.drewN _) (hS.env.drewN _)).mono ?_
            rintro e w1 ⟨rfl, hb1⟩
            have hS1 := (hS.drewN _).below hb1
            clear hb1 c0 c1 f1
            have c0 := hS1.scan.c0; have c1 := hS1.scan.c1; have f1 := hS1.scan.f1
            go_wp2_with fail
            refine (hS1.rune (by omega) _ HN1.out).mono ?_
            rintro e w2 ⟨⟨n2, rfl⟩, hS2⟩
            clear c0 c1 f1
            have c0 := hS2.scan.c0; have c1 := hS2.scan.c1; have f1 := hS2.scan.f1
            go_wp2
            go_roundg (s.size - (b + (Lx.rune (sfx s b)).2))
            case measure => rw [HK.out]; omega
            case rel =>
              have hel := Lx.rune_le4 (sfx s b)
              refine ⟨b + (Lx.rune (sfx s b)).2, out ++ Lx.enc (Lx.rune (sfx s b)).1, rfl, by omega, by omega, ?_, ?_, hS2.put _⟩
              · rw [HEN.out, List.length_append, List.length_take]; omega
              · have := Lx.text_plain (out := out) Q4.out (by rw [← HC.out]; exact H34.out) (by rw [← HC.out]; exact H92.out)
                rw [← HC.out] at this
                rw [← HD.out, this, HEN.out, sfx_drop]
    · have hi1 : (s.size : Int) ≤ b := by omega
      go_wp2
      go_quiet (fail)
      go_wp2
      go_ret2
      exact ⟨b, by omega, hb, hS.scan.drewN _, hS.fr.drewN _, hS.env.drewN _, .inr ⟨by rw [← HD.out, sfx_end s b (by omega), Lx.text_nil], rfl⟩⟩
end Go.Proofs.YtabcaljnpahgpaaDoor
namespace Go.Proofs.YtabcaljnpahgpaaDoor
set_option linter.unusedSimpArgs false
set_option linter.unusedVariables false
open Go Go.RowKit

theorem asciiInfo : (Tryd.prog.info? 154).map (fun i => (i.zero, i.size)) = some (some (.agg (Array.replicate 256 (.bool false))), 256) := by kernel_rfl

theorem trimSp (l : ByteArray) (w : World) :
    Calls Tryd.prog 91 #[.string l, .string ⟨#[32, 9]⟩] w fun e w' => e = .returned (.string ⟨(l.data.toList.dropWhile Lx.isSp).toArray⟩) ∧ Below w.heap.size w w' :=
  Any.strings_TrimLeft_laid Tryd.lays161 asciiInfo l ⟨#[32, 9]⟩ w (by decide) (by
    intro j b h
    match j with
    | 0 => simp at h; subst h; decide
    | 1 => simp at h; subst h; decide
    | j + 2 => simp at h)

set_option maxHeartbeats 400000 in
theorem indent_any (l : ByteArray) (w : World) (hl : l.size ≤ 100000) :
    Calls Tryd.prog 84 #[.string l] w fun e w' => e = .returned (.int .i64 (Lx.ind l.data.toList)) ∧ Below w.heap.size w w' := by
  have h1 := Lx.dropWhile_le Lx.isSp l.data.toList
  have h2 : l.data.toList.length = l.size := by simp
  go_enter Tryd.func84, Tryd.ntmps84
  go_wp2_with fail
  refine (trimSp _ _).mono ?_
  rintro e w1 ⟨rfl, hb⟩
  have hsz : (ByteArray.mk (List.dropWhile Lx.isSp l.data.toList).toArray).size = (List.dropWhile Lx.isSp l.data.toList).length := rfl
  go_wp2
  go_ret
  refine ⟨ret_int ?_, hb⟩
  unfold Lx.ind
  rw [h2]
  show (l.size : Int) - ((List.dropWhile Lx.isSp l.data.toList).length : Int) = _
  omega
end Go.Proofs.YtabcaljnpahgpaaDoor
namespace Go.Proofs.YtabcaljnpahgpaaDoor
set_option linter.unusedSimpArgs false
set_option linter.unusedVariables false
open Go Go.RowKit

/-- A block of strings. -/
def Row (w : World) (g : Nat) (ls : List (List UInt8)) : Prop := w.heap[g]? = some (.cells (ls.map fun x => Value.string ⟨x.toArray⟩).toArray 9 (0, 0))
theorem Row.lt {w : World} {g : Nat} {ls : List (List UInt8)} (h : Row w g ls) : g < w.heap.size := by
  rcases Nat.lt_or_ge g w.heap.size with h' | h'
  · exact h'
  · unfold Row at h; simp [Array.getElem?_eq_none h'] at h
theorem Row.cell {w : World} {g i : Nat} {ls : List (List UInt8)} {x : List UInt8} (h : Row w g ls) (hi : ls[i]? = some x) : w.cell? ⟨g, i, none⟩ = some (.string ⟨x.toArray⟩) := by
  unfold Row at h; simp [World.cell?, h, hi]
theorem Row.frozen {w : World} {g : Nat} {ls : List (List UInt8)} (h : Row w g ls) (i : Nat) : w.frozen? ⟨g, i, none⟩ = false := by
  unfold Row at h; simp [World.frozen?, h]
theorem Row.below {w w' : World} {g : Nat} {ls : List (List UInt8)} (h : Row w g ls) (hb : Below w.heap.size w w') : Row w' g ls := by
  have hl := h.lt; unfold Row at *; rw [hb.block g hl]; exact h
theorem Row.set {w : World} {g : Nat} {ls : List (List UInt8)} (h : Row w g ls) (i : Nat) (y : List UInt8) : Row (w.setCell ⟨g, i, none⟩ (.string ⟨y.toArray⟩)) g (ls.set i y) := by
  unfold Row at *
  simp [World.setCell, Array.getElem?_modify, h, List.map_set]

theorem Row.drewN {w : World} {g : Nat} {ls : List (List UInt8)} (h : Row w g ls) (n : Nat) : Row (w.drewN n) g ls := h
theorem extract_list (x : List UInt8) (a : Nat) : (ByteArray.mk x.toArray).extract a x.length = ⟨(x.drop a).toArray⟩ := extract_sfx ⟨x.toArray⟩ a
theorem drop_min (x : List UInt8) (c : Int) (h : 0 ≤ c) : x.drop (min c (x.length : Int)).toNat = x.drop c.toNat := by
  by_cases h1 : c ≤ x.length
  · rw [Int.min_eq_left h1]
  · rw [Int.min_eq_right (by omega), List.drop_of_length_le (by omega), List.drop_of_length_le (by omega)]

theorem splitNl (raw : List UInt8) (w : World) (hE : Env w) (hr : (Lx.nl raw).length ≤ 100000) :
    Calls Tryd.prog 82 #[.string ⟨(Lx.nl raw).toArray⟩, .string ⟨#[10]⟩] w fun e w' => e = .returned (.slice (some ⟨w.heap.size, 0, none⟩) (Lx.lines raw).length (Lx.lines raw).length) ∧ Row w' w.heap.size (Lx.lines raw) ∧ Below w.heap.size w w' := by
  obtain ⟨_, m, hm⟩ := hE
  refine (Tryd.strings_Split _ _ m w (by show (Lx.nl raw).length < _; omega) hm (by decide)).mono ?_
  rintro e w' ⟨rfl, rfl⟩
  rw [Lx.lines_len]
  refine ⟨rfl, ?_, (Below.refl _ _).alloc (Nat.le_refl _) _⟩
  unfold Row
  show (w.heap.push _)[w.heap.size]? = _
  simp [Lx.lines, Lx.linesB, Function.comp_def]

theorem replAll (s old : List UInt8) (w : World) (hE : Env w) (h1 : 1 ≤ old.length) (hr : s.length ≤ 100000) :
    Calls Tryd.prog 83 #[.string ⟨s.toArray⟩, .string ⟨old.toArray⟩, .string ⟨#[10]⟩] w fun e w' => e = .returned (.string ⟨(Lib.replaceAll s old [10]).toArray⟩) ∧ Below w.heap.size w w' := by
  obtain ⟨_, m, hm⟩ := hE
  have hc := Lib.count_le s old
  refine (Tryd.strings_ReplaceAll ⟨s.toArray⟩ ⟨old.toArray⟩ ⟨#[10]⟩ m w (by show s.length < _; omega) hm h1 ?_).mono ?_
  · show s.length + Lib.count s old * 1 ≤ _
    omega
  · rintro e w' ⟨rfl, hb⟩
    exact ⟨rfl, hb⟩

theorem indent_list (x : List UInt8) (w : World) (hl : x.length ≤ 100000) :
    Calls Tryd.prog 84 #[.string ⟨x.toArray⟩] w fun e w' => e = .returned (.int .i64 (Lx.ind x)) ∧ Below w.heap.size w w' := indent_any ⟨x.toArray⟩ w hl

theorem foldl_take_succ {α β : Type} (f : α → β → α) (a : α) (l : List β) (i : Nat) (x : β) (h : l[i]? = some x) : (l.take (i + 1)).foldl f a = f ((l.take i).foldl f a) x := by
  rw [List.take_add_one, h, List.foldl_append]; rfl

theorem List.getElem?_take_of_some {α : Type} {l : List α} {m i : Nat} {y : α} (h : (l.take m)[i]? = some y) : l[i]? = some y := by
  rw [List.getElem?_take] at h
  split at h
  · exact h
  · cases h

theorem joinNl (g o n cap : Nat) (xs : List (List UInt8)) (w : World) (hc : ∀ (i : Nat) y, xs[i]? = some y → w.cell? ⟨g, o + i, none⟩ = some (.string ⟨y.toArray⟩)) (hg : g < w.heap.size)
    (hn : xs.length = n) (hcap : n ≤ cap) (hl : ∀ y ∈ xs, y.length ≤ 100000) (hn2 : n ≤ 100000) :
    Calls Tryd.prog 85 #[.slice (some ⟨g, o, none⟩) n cap, .string ⟨#[10]⟩] w fun e w' => e = .returned (.string ⟨(Lib.join xs [10]).toArray⟩) ∧ Below w.heap.size w w' := by
  have hmap : (xs.map fun x => (ByteArray.mk x.toArray)).map (·.data.toList) = xs := by simp [Function.comp_def]
  have hlen := Lx.join_le xs 100000 hl
  have := Tryd.strings_Join g o cap (xs.map fun x => ByteArray.mk x.toArray) ⟨#[10]⟩ w (by
      intro j x h
      rw [List.getElem?_map] at h
      cases hx : xs[j]? with
      | none => rw [hx] at h; simp at h
      | some y =>
        rw [hx] at h
        simp only [Option.map_some, Option.some.injEq] at h
        subst h
        exact hc j y hx) hg (by rw [List.length_map]; omega) (by rw [List.length_map]; omega) (by
      rw [hmap]
      have h1 : xs.length * 100001 ≤ 100000 * 100001 := Nat.mul_le_mul_right _ (by omega)
      show (Lib.join xs [10]).length ≤ _
      omega)
  rw [hmap, List.length_map, hn] at this
  exact this

def DedPost (raw : List UInt8) (w : World) (e : Ending) (w' : World) : Prop := e = .returned (.string ⟨(Lx.dedent raw).toArray⟩) ∧ Below w.heap.size w w'

set_option maxHeartbeats 8000000 in
set_option maxRecDepth 100000 in
theorem dedent_any (raw : List UInt8) (w : World) (hE : Env w) (hr : raw.length ≤ 5000) : Calls Tryd.prog 74 #[.string ⟨raw.toArray⟩] w (DedPost raw w) := by
  have hl1 := Lx.replaceAll_len raw [13, 10] [10] rfl
  have hnl := Lx.nl_len raw
  go_enter Tryd.func74, Tryd.ntmps74
  go_wp2_with fail
  refine (replAll raw [13, 10] w hE (by decide) (by omega)).mono ?_
  rintro e w1 ⟨rfl, hb1⟩
  go_wp2_with fail
  refine (replAll _ [13] w1 (hE.below hb1) (by decide) (by omega)).mono ?_
  rintro e w2 ⟨rfl, hb2⟩
  have hb12 := hb1.trans (hb2.mono hb1.size)
  have hE2 := hE.below hb12
  go_wp2_with fail
  refine (splitNl raw w2 hE2 (by omega)).mono ?_
  rintro e w3 ⟨rfl, hR, hb3⟩
  have hll := Lx.lines_le raw
  have hli := Lx.line_le raw
  have hl0 := Lx.lines_len raw
  have hB : Below w.heap.size w w3 := hb12.trans (hb3.mono hb12.size)
  have hg : w.heap.size ≤ w2.heap.size := hb12.size
  have HF : Hid (Lx.dedent raw = Lib.join (Lx.trimEnd ((Lx.strip (Lx.common (Lx.lines raw).tail) (Lx.lines raw)).dropWhile Lx.allSp)) [10]) := rfl
  generalize hls : Lx.lines raw = ls at *
  have h1 : 1 ≤ ls.length := by omega
  have HLI := Lib.hid hli
  clear hli hl0 hls hb1 hb2 hb12 hb3 hnl hl1 hE hE2
  generalize w2.heap.size = g at *
  go_upto_region 3 with (fail)
  go_cut [3, 14, 15, 16] (fun s3 s14 s15 s16 wx => wx = w3 ∧ ∃ o1, s3 = .slice (some ⟨g, 0, none⟩) ls.length ls.length ∧ s14 = .slice (some ⟨g, o1, none⟩) (ls.length - 1) (ls.length - 1) ∧ (2 ≤ ls.length → o1 = 1) ∧ s15 = .int .i64 ((ls.length - 1 : Nat) : Int) ∧ s16 = .int .i64 0)
  case first =>
    by_cases hn1 : ls.length = 1
    · rw [hn1]
      go_wp2
      go_meet
      exact ⟨rfl, 0, by rw [hn1], by rw [hn1], by omega, by rw [hn1]; rfl, rfl⟩
    · have hn2 : 2 ≤ ls.length := by omega
      have HN1 := Lib.hid hn1
      clear hn1
      go_wp2
      go_meet
      exact ⟨rfl, 1, rfl, rfl, fun _ => rfl, rfl, rfl⟩
  case rest =>
    obtain ⟨rfl, o1, rfl, rfl, ho1, rfl, rfl⟩ := hcut
    have HO1 := Lib.hid ho1
    clear ho1
    go_wp2_with fail
    go_loopg [4, 16] (ls.length - 1) (fun k s4 s16 wr => ∃ i : Nat, k = ls.length - 1 - i ∧ i ≤ ls.length - 1 ∧ s16 = .int .i64 i ∧ s4 = .int .i64 ((ls.tail.take i).foldl Lx.comStep (-1)) ∧ Below wc.heap.size wc wr)
    case atStart => exact ⟨0, by omega, by omega, rfl, rfl, Below.refl _ _⟩
    case round =>
      obtain ⟨i, hk, hi, rfl, rfl, hb⟩ := hrel
      have HK := Lib.hid hk
      clear hk
      by_cases hlt : i < ls.length - 1
      · have ho := HO1.out (by omega)
        subst ho
        obtain ⟨x, hx⟩ : ∃ x, ls[1 + i]? = some x := ⟨ls[1 + i]'(by omega), List.getElem?_eq_getElem _⟩
        have hxl := HLI.out x (List.mem_of_getElem? hx)
        have hx1 : (ls.tail)[i]? = some x := by rw [List.getElem?_tail, Nat.add_comm]; exact hx
        have HF := Lib.hid (foldl_take_succ Lx.comStep (-1) ls.tail i x hx1)
        have hcell : wr.cell? ⟨g, 1 + i, none⟩ = some (.string ⟨x.toArray⟩) := (hR.below hb).cell hx
        have hcg := Lx.common_ge (ls.tail.take i) (-1) (by omega)
        have hcg2 : -1 ≤ List.foldl Lx.comStep (-1) (List.take i ls.tail) ∧ List.foldl Lx.comStep (-1) (List.take i ls.tail) ≤ 1000000000 := by
          rcases hcg with h' | ⟨y, hy, h'⟩
          · omega
          · have := HLI.out y (List.mem_of_mem_tail (List.mem_of_mem_take hy))
            omega
        obtain ⟨hc1, hc2⟩ := hcg2
        clear hcg hx hx1
        generalize List.foldl Lx.comStep (-1) (List.take i ls.tail) = c at *
        have hil := Lx.ind_le x
        have hi0 : (0 : Int) ≤ (i : Int) := Int.natCast_nonneg _
        have hi1 : (i : Int) < ((ls.length - 1 : Nat) : Int) := by omega
        have hsz : (ByteArray.mk x.toArray).size = x.length := rfl
        have hcase : (decide (Lx.ind x < x.length) = false ∧ Lx.comStep c x = c) ∨
            (decide (Lx.ind x < x.length) = true ∧ decide (c < 0) = true ∧ Lx.comStep c x = Lx.ind x) ∨
            (decide (Lx.ind x < x.length) = true ∧ decide (c < 0) = false ∧ decide ((Lx.ind x : Int) < c) = true ∧ Lx.comStep c x = Lx.ind x) ∨
            (decide (Lx.ind x < x.length) = true ∧ decide (c < 0) = false ∧ decide ((Lx.ind x : Int) < c) = false ∧ Lx.comStep c x = c) := by
          unfold Lx.comStep
          by_cases a1 : Lx.ind x < x.length
          · by_cases a2 : c < 0
            · exact .inr (.inl ⟨by simpa using a1, by simpa using a2, by rw [if_pos ⟨by omega, .inl a2⟩]⟩)
            · by_cases a3 : (Lx.ind x : Int) < c
              · exact .inr (.inr (.inl ⟨by simpa using a1, by simpa using a2, by simpa using a3, by rw [if_pos ⟨by omega, .inr a3⟩]⟩))
              · exact .inr (.inr (.inr ⟨by simpa using a1, by simpa using a2, by simpa using a3, by rw [if_neg (by omega)]⟩))
          · exact .inl ⟨by simpa using a1, by rw [if_neg (by omega)]⟩
        rcases hcase with ⟨e1, e4⟩ | ⟨e1, e2, e4⟩ | ⟨e1, e2, e3, e4⟩ | ⟨e1, e2, e3, e4⟩
        all_goals
          have E4 := Lib.hid e4
          clear e4
          go_wp2_with fail
          refine (indent_list x wr (by omega)).mono ?_
          rintro e w5 ⟨rfl, hb5⟩
          have hb6 := hb.trans (hb5.mono hb.size)
          go_wp2
          go_roundg (ls.length - 1 - (i + 1))
          case measure => rw [HK.out]; omega
          case rel => exact ⟨i + 1, rfl, by omega, by go_num, by rw [HF.out, E4.out], hb6⟩
      · have hie : i = ls.length - 1 := by omega
        have hi1 : ((ls.length - 1 : Nat) : Int) ≤ (i : Int) := by omega
        have hct : List.take i ls.tail = ls.tail := List.take_of_length_le (by rw [List.length_tail]; omega)
        rw [hct]
        have hcg := Lx.common_ge ls.tail (-1) (by omega)
        have hcg2 : -1 ≤ Lx.common ls.tail ∧ Lx.common ls.tail ≤ 1000000000 := by
          rcases hcg with h' | ⟨y, hy, h'⟩
          · unfold Lx.common; omega
          · have := HLI.out y (List.mem_of_mem_tail hy)
            omega
        change Code.wp _ _ _ { tmps := _, defers := _ } _
        have HCM : Hid (Lx.common ls.tail = List.foldl Lx.comStep (-1) ls.tail) := rfl
        rw [← HCM.out]
        have hR2 := hR.below hb
        have hB2 : Below w.heap.size w wr := hB.trans (hb.mono hB.size)
        obtain ⟨hc1, hc2⟩ := hcg2
        generalize Lx.common ls.tail = c at *
        clear hcg hct HCM hR hb hB hie hi HK
        go_wp2_with fail
        go_loopg [39] ls.length (fun k s39 wq => ∃ j : Nat, k = ls.length - j ∧ j ≤ ls.length ∧ s39 = .int .i64 j ∧ Row wq g ((Lx.strip c ls).take j ++ ls.drop j) ∧ Below w.heap.size w wq)
        case atStart => exact ⟨0, by omega, by omega, rfl, by simpa using hR2, hB2⟩
        case round =>
          obtain ⟨j, hk, hj, rfl, hRq, hBq⟩ := hrel
          have HK := Lib.hid hk
          clear hk hR2 hB2
          by_cases hlt : j < ls.length
          · obtain ⟨x, hx⟩ : ∃ x, ls[j]? = some x := ⟨ls[j], List.getElem?_eq_getElem _⟩
            have hxl := HLI.out x (List.mem_of_getElem? hx)
            have htl : ((Lx.strip c ls).take j).length = j := by rw [List.length_take, Lx.strip_len]; omega
            have hcur : ((Lx.strip c ls).take j ++ ls.drop j)[j]? = some x := by
              rw [List.getElem?_append_right (by omega), htl, List.getElem?_drop, Nat.sub_self, Nat.add_zero]; exact hx
            have hnext : ((Lx.strip c ls).take j ++ ls.drop j).set j (Lx.stripAt c j x) = (Lx.strip c ls).take (j + 1) ++ ls.drop (j + 1) := by
              rw [List.set_append_right _ _ (by omega), htl, Nat.sub_self, List.drop_eq_getElem_cons hlt, List.set_cons_zero, List.take_add_one, Lx.strip_get, hx]
              simp
            have hcell := hRq.cell hcur
            have hfz := hRq.frozen j
            have HNX := Lib.hid hnext
            have hj0 : (0 : Int) ≤ (j : Int) := Int.natCast_nonneg _
            have hj1 : (j : Int) < (ls.length : Int) := by omega
            have hsz : (ByteArray.mk x.toArray).size = x.length := rfl
            by_cases hdo : 0 < j ∧ 0 < c
            · have HST : Hid (Lx.stripAt c j x = x.drop c.toNat) := by unfold Lx.stripAt; rw [if_pos hdo]; rfl
              obtain ⟨hd1, hd2⟩ := hdo
              have hd1' : (0 : Int) < (j : Int) := by omega
              clear hx htl hcur hnext
              go_wp2_with fail
              refine wp_region_cuts [15] (by kernel_rfl) (by kernel_rfl) ?_; simp only [wpMix, List.take_succ_cons, List.take_zero, List.drop_succ_cons, List.drop_zero, Nat.sub_zero, Nat.reduceSub, Nat.reduceAdd]
              repeat (go_big_quiet_step (fail))
              refine wpQuiet_nil ?_; rintro _ ⟨nq, rfl⟩
              go_wp2
              repeat (go_big_quiet_step (fail))
              refine wpQuiet_nil ?_; rintro _ ⟨nq, rfl⟩
              go_wp2
              go_roundg (ls.length - (j + 1))
              case measure => rw [HK.out]; omega
              case rel =>
                refine ⟨j + 1, rfl, by omega, by go_num, ?_, ?_⟩
                · have h1 : ∀ n m : Nat, Row (((wr.drewN n).setCell ⟨g, j, none⟩ (.string ((ByteArray.mk x.toArray).extract (min c (x.length : Int)).toNat x.length))).drewN m) g ((Lx.strip c ls).take (j + 1) ++ ls.drop (j + 1)) := fun n m => by
                    rw [extract_list, drop_min x c (by omega), ← HNX.out, HST.out]
                    exact ((hRq.drewN n).set j _).drewN m
                  exact h1 _ _
                · exact Below.drewN (Below.setCell (Below.drewN hBq _) hg _) _
            · have HST : Hid (Lx.stripAt c j x = x) := by unfold Lx.stripAt; rw [if_neg hdo]; rfl
              have hcase : j = 0 ∨ ((0 : Int) < (j : Int) ∧ c ≤ 0) := by omega
              have HR : Hid (Row wr g ((Lx.strip c ls).take (j + 1) ++ ls.drop (j + 1))) := by
                rw [← HNX.out, HST.out]
                have : ((Lx.strip c ls).take j ++ ls.drop j).set j x = (Lx.strip c ls).take j ++ ls.drop j := by
                  apply List.ext_getElem?
                  intro m
                  rw [List.getElem?_set]
                  split
                  · rename_i h'
                    subst h'
                    split
                    · exact hcur.symm
                    · rename_i h''
                      rw [List.getElem?_eq_none (by omega)]
                  · rfl
                rw [this]
                exact hRq
              clear hx htl hcur hnext hdo
              rcases hcase with rfl | ⟨e1, e2⟩
              · go_wp2
                go_roundg (ls.length - 1)
                case measure => rw [HK.out]; omega
                case rel => exact ⟨1, rfl, by omega, rfl, HR.out, hBq⟩
              · go_wp2
                go_roundg (ls.length - (j + 1))
                case measure => rw [HK.out]; omega
                case rel => exact ⟨j + 1, rfl, by omega, by go_num, HR.out, hBq⟩
          · have hje : j = ls.length := by omega
            have hj1 : (ls.length : Int) ≤ (j : Int) := by omega
            have hjd : decide (j < ls.length) = false := by simp; omega
            have hR3 : Row wr g (Lx.strip c ls) := by
              rw [hje, List.take_of_length_le (by rw [Lx.strip_len]; omega), List.drop_of_length_le (by omega), List.append_nil] at hRq
              exact hRq
            have hl3 := Lx.strip_len c ls
            have hli3 : ∀ y, y ∈ Lx.strip c ls → y.length ≤ 4 * raw.length + 3 := by
              intro y hy
              obtain ⟨m, hm⟩ := List.getElem?_of_mem hy
              rw [Lx.strip_get] at hm
              cases hlm : ls[m]? with
              | none => rw [hlm] at hm; simp at hm
              | some z =>
                rw [hlm] at hm
                simp only [Option.map_some, Option.some.injEq] at hm
                subst hm
                have h1 := Lx.stripAt_le c m z
                have h2 := HLI.out z (List.mem_of_getElem? hlm)
                omega
            have HL3 := Lib.hid hli3
            clear hli3 hRq hje HK hlt
            generalize Lx.strip c ls = ms at *
            go_wp2_with fail
            go_loopg [3] ls.length (fun k s3 wq => ∃ j o : Nat, k = ls.length - j ∧ j ≤ ls.length ∧ s3 = .slice (some ⟨g, o, none⟩) (ls.length - j) (ls.length - j) ∧ (j < ls.length → o = j) ∧ (ms.drop j).dropWhile Lx.allSp = ms.dropWhile Lx.allSp ∧ Below wr.heap.size wr wq)
            case atStart => exact ⟨0, 0, by omega, by omega, rfl, fun _ => rfl, rfl, Below.refl _ _⟩
            case round =>
              obtain ⟨j, o, hk, hj, rfl, ho, hdw, hb⟩ := hrel
              obtain ⟨wq, rfl⟩ : ∃ wq : World, wq = wr := ⟨_, rfl⟩
              have HK := Lib.hid hk
              have HO := Lib.hid ho
              have HDW := Lib.hid hdw
              clear hk ho hdw
              by_cases hlt : j < ls.length
              · have hoj := HO.out hlt
                subst hoj
                obtain ⟨x, hx⟩ : ∃ x, ms[o]? = some x := ⟨ms[o]'(by omega), List.getElem?_eq_getElem _⟩
                have hxl := HL3.out x (List.mem_of_getElem? hx)
                have hcell := (hR3.below hb).cell hx
                have hcl : ∀ y : Later wq, y.1.cell? ⟨g, o, none⟩ = some (.string ⟨x.toArray⟩) := fun y => Later.cell hcell y
                have hsz : (ByteArray.mk x.toArray).size = x.length := rfl
                have hdc : ms.drop o = x :: ms.drop (o + 1) := by
                  rw [List.drop_eq_getElem_cons (by omega)]
                  have := (List.getElem?_eq_some_iff.1 hx).2
                  rw [this]
                have HDC := Lib.hid hdc
                have hp0 : (0 : Int) < ((ls.length - o : Nat) : Int) := by omega
                have hp1 : 0 < ls.length - o := by omega
                clear hx hdc
                cases hsp : Lx.allSp x
                · have e1 : (Lx.ind x == x.length) = false := hsp
                  have e2 : ((Lx.ind x : Int) == (x.length : Int)) = false := eqF (by simp at e1; omega)
                  have HSP := Lib.hid hsp
                  clear hsp
                  go_wp2_with fail
                  refine wp_region_later (by kernel_rfl) (by kernel_rfl) ?_
                  repeat (go_big_quiet_step (((exact Later.call (v := .int .i64 (Lx.ind x)) (indent_list x _ (by omega))))))
                  refine wpQuiet_nil ?_; rintro w5 ⟨⟨_, hb5⟩, rfl⟩
                  have hks : ms.dropWhile Lx.allSp = ms.drop o := by
                    rw [← HDW.out, HDC.out, List.dropWhile_cons, HSP.out]
                    simp
                  obtain ⟨ks, HFK, hkl, hcs⟩ : ∃ ks, Hid (Lx.dedent raw = Lib.join (Lx.trimEnd ks) [10]) ∧ ks.length = ls.length - o ∧ (∀ (i : Nat) y, ks[i]? = some y → ms[o + i]? = some y) :=
                    ⟨ms.drop o, by rw [← hks]; exact HF, by rw [List.length_drop]; omega, fun i y h => by rw [List.getElem?_drop] at h; exact h⟩
                  have hbw := hb.trans (hb5.mono hb.size)
                  clear hks HDC HDW hcell hcl hp0 hp1 HSP e1 e2
                  have HCS := Lib.hid hcs
                  clear hcs HF
                  go_wp2_with fail
                  go_loopg [3] (ls.length - o) (fun k s3 wq => ∃ m : Nat, k = m ∧ m ≤ (ls.length - o) ∧ s3 = .slice (some ⟨g, o, none⟩) m (ls.length - o) ∧ Lx.trimEnd (ks.take m) = Lx.trimEnd ks ∧ Below wr.heap.size wr wq)
                  case atStart => exact ⟨_, rfl, Nat.le_refl _, rfl, by rw [List.take_of_length_le (by omega)], (by first | exact hbw | exact Below.drewN hbw _)⟩
                  case round =>
                    obtain ⟨m, hk, hm, rfl, htr, hb⟩ := hrel
                    have hR4 := hR3.below hb
                    have hB4 := hBq.trans (hb.mono hBq.size)
                    have HK4 := Lib.hid hk
                    have HTR := Lib.hid htr
                    clear hk htr hbw
                    by_cases hm0 : 0 < m
                    · obtain ⟨x, hx⟩ : ∃ x, ks[m - 1]? = some x := ⟨ks[m - 1]'(by omega), List.getElem?_eq_getElem _⟩
                      have hxl := HL3.out x (List.mem_of_getElem? (HCS.out _ _ hx))
                      have hcell := hR4.cell (HCS.out _ _ hx)
                      have hcl : ∀ y : Later wr, y.1.cell? ⟨g, o + (m - 1), none⟩ = some (.string ⟨x.toArray⟩) := fun y => Later.cell hcell y
                      have hsz : (ByteArray.mk x.toArray).size = x.length := rfl
                      have htk : ks.take m = ks.take (m - 1) ++ [x] := by
                        have := List.take_add_one (l := ks) (i := m - 1)
                        rw [show m - 1 + 1 = m by omega, hx] at this
                        exact this
                      have HTK := Lib.hid htk
                      have hq0 : (0 : Int) < (m : Int) := by omega
                      have hq1 : (0 : Int) ≤ (m : Int) - 1 := by omega
                      have hq2 : (m : Int) - 1 < (m : Int) := by omega
                      clear hx htk
                      cases hsp : Lx.allSp x
                      · have e1 : (Lx.ind x == x.length) = false := hsp
                        have e2 : ((Lx.ind x : Int) == (x.length : Int)) = false := eqF (by simp at e1; omega)
                        have HSP := Lib.hid hsp
                        clear hsp
                        have HEND : Hid (Lx.dedent raw = Lib.join (ks.take m) [10]) := by
                          rw [HFK.out, ← HTR.out, HTK.out, Lx.trimEnd_snoc, HSP.out]
                          rfl
                        go_wp2_with fail
                        refine wp_region_later (by kernel_rfl) (by kernel_rfl) ?_
                        repeat (go_big_quiet_step (((exact Later.call (v := .int .i64 (Lx.ind x)) (indent_list x _ (by omega))))))
                        refine wpQuiet_nil ?_; rintro w6 ⟨⟨_, hb6⟩, rfl⟩
                        have hR6 := hR4.below hb6
                        have hB6 := hB4.trans (hb6.mono hB4.size)
                        have HJ := Lib.hid (joinNl g o m (ls.length - o) (ks.take m) w6 (fun i y h => hR6.cell (HCS.out i y (List.getElem?_take_of_some h))) hR6.lt (by rw [List.length_take]; omega) hm (fun y hy => by
                          obtain ⟨i, hi⟩ := List.getElem?_of_mem (List.mem_of_mem_take hy)
                          have := HL3.out y (List.mem_of_getElem? (HCS.out _ _ hi))
                          omega) (by omega))
                        clear hcell hcl e1 e2
                        go_wp2_with fail
                        refine HJ.out.mono ?_
                        rintro e w7 ⟨rfl, hb7⟩
                        go_wp2
                        go_ret
                        exact ⟨by rw [HEND.out]; rfl, hB6.trans (hb7.mono hB6.size)⟩
                      · have e1 : (Lx.ind x == x.length) = true := hsp
                        have e2 : ((Lx.ind x : Int) == (x.length : Int)) = true := eqT (by simp at e1; omega)
                        have HSP := Lib.hid hsp
                        clear hsp
                        go_wp2_with fail
                        refine wp_region_later (by kernel_rfl) (by kernel_rfl) ?_
                        repeat (go_big_quiet_step (((exact Later.call (v := .int .i64 (Lx.ind x)) (indent_list x _ (by omega))))))
                        refine wpQuiet_nil ?_; rintro w6 ⟨⟨_, hb6⟩, rfl⟩
                        go_wp2
                        go_roundg (m - 1)
                        case measure => rw [HK4.out]; omega
                        case rel =>
                          refine ⟨m - 1, rfl, by omega, rfl, ?_, hb.trans (hb6.mono hb.size)⟩
                          rw [← HTR.out, HTK.out, Lx.trimEnd_snoc, HSP.out]
                          rfl
                    · have hm1 : m = 0 := by omega
                      subst hm1
                      have HEND : Hid (Lx.dedent raw = Lib.join [] [10]) := by
                        rw [HFK.out, ← HTR.out]
                        rfl
                      have hn0 : ¬ (0 : Int) < ((0 : Nat) : Int) := by omega
                      have HJ : Hid (∀ n : Nat, Calls Tryd.prog 85 #[.slice (some ⟨g, o, none⟩) 0 (ls.length - o), .string ⟨#[10]⟩] (wr.drewN n) fun e w' => e = .returned (.string ⟨(Lib.join [] [10]).toArray⟩) ∧ Below (wr.drewN n).heap.size (wr.drewN n) w') :=
                        fun n => joinNl g o 0 (ls.length - o) [] (wr.drewN n) (fun i y h => by simp at h) (hR4.drewN n).lt rfl hm (fun y hy => by simp at hy) (by omega)
                      clear hn0
                      go_wp2_with fail
                      go_quiet (fail)
                      go_wp2_with fail
                      refine (HJ.out _).mono ?_
                      rintro e w7 ⟨rfl, hb7⟩
                      go_wp2
                      go_ret
                      exact ⟨by rw [HEND.out]; rfl, hB4.trans ((Below.undrew hb7).mono hB4.size)⟩
                · have e1 : (Lx.ind x == x.length) = true := hsp
                  have e2 : ((Lx.ind x : Int) == (x.length : Int)) = true := eqT (by simp at e1; omega)
                  have HSP := Lib.hid hsp
                  clear hsp
                  have hdn : (ms.drop (o + 1)).dropWhile Lx.allSp = ms.dropWhile Lx.allSp := by
                    rw [← HDW.out, HDC.out, List.dropWhile_cons, HSP.out]
                    simp
                  have HDN := Lib.hid hdn
                  clear hdn
                  by_cases hlast : ls.length - o = 1
                  · go_wp2_with fail
                    refine wp_region_later (by kernel_rfl) (by kernel_rfl) ?_
                    repeat (go_big_quiet_step (((exact Later.call (v := .int .i64 (Lx.ind x)) (indent_list x _ (by omega))))))
                    refine wpQuiet_nil ?_; rintro w5 ⟨⟨_, hb5⟩, rfl⟩
                    go_wp2
                    go_roundg (ls.length - (o + 1))
                    case measure => rw [HK.out]; omega
                    case rel => exact ⟨o + 1, o, rfl, by omega, by rw [show ls.length - (o + 1) = 0 by omega], by omega, HDN.out, hb.trans (hb5.mono hb.size)⟩
                  · have hl2 : 1 < ls.length - o := by omega
                    have HLA := Lib.hid hlast
                    clear hlast
                    go_wp2_with fail
                    refine wp_region_later (by kernel_rfl) (by kernel_rfl) ?_
                    repeat (go_big_quiet_step (((exact Later.call (v := .int .i64 (Lx.ind x)) (indent_list x _ (by omega))))))
                    refine wpQuiet_nil ?_; rintro w5 ⟨⟨_, hb5⟩, rfl⟩
                    go_wp2
                    go_roundg (ls.length - (o + 1))
                    case measure => rw [HK.out]; omega
                    case rel => exact ⟨o + 1, o + 1, rfl, by omega, by rw [Nat.sub_sub], fun _ => rfl, HDN.out, hb.trans (hb5.mono hb.size)⟩
              · have hjn : j = ls.length := by omega
                have hks : ms.dropWhile Lx.allSp = [] := by
                  rw [← HDW.out, List.drop_of_length_le (by omega)]
                  rfl
                obtain ⟨ks, HFK, hkl, hcs⟩ : ∃ ks, Hid (Lx.dedent raw = Lib.join (Lx.trimEnd ks) [10]) ∧ ks.length = 0 ∧ (∀ (i : Nat) y, ks[i]? = some y → ms[o + i]? = some y) :=
                    ⟨[], by rw [← hks]; exact HF, rfl, fun i y h => by simp at h⟩
                have hj0 : ls.length - j = 0 := by omega
                have hj1 : ¬ (0 : Int) < ((ls.length - j : Nat) : Int) := by omega
                have hj2 : ls.length ≤ j := by omega
                have hbw := hb
                clear hjn hj0 hks
                go_wp2_with fail
                go_quiet (fail)
                have HCS := Lib.hid hcs
                clear hcs HF
                go_wp2_with fail
                go_loopg [3] 0 (fun k s3 wq => ∃ m : Nat, k = m ∧ m ≤ 0 ∧ s3 = .slice (some ⟨g, o, none⟩) m 0 ∧ Lx.trimEnd (ks.take m) = Lx.trimEnd ks ∧ Below wr.heap.size wr wq)
                case atStart => exact ⟨_, rfl, Nat.le_refl _, rfl, by rw [List.take_of_length_le (by omega)], (by first | exact hbw | exact Below.drewN hbw _)⟩
                case round =>
                  obtain ⟨m, hk, hm, rfl, htr, hb⟩ := hrel
                  have hR4 := hR3.below hb
                  have hB4 := hBq.trans (hb.mono hBq.size)
                  have HK4 := Lib.hid hk
                  have HTR := Lib.hid htr
                  clear hk htr hbw
                  by_cases hm0 : 0 < m
                  · obtain ⟨x, hx⟩ : ∃ x, ks[m - 1]? = some x := ⟨ks[m - 1]'(by omega), List.getElem?_eq_getElem _⟩
                    have hxl := HL3.out x (List.mem_of_getElem? (HCS.out _ _ hx))
                    have hcell := hR4.cell (HCS.out _ _ hx)
                    have hcl : ∀ y : Later wr, y.1.cell? ⟨g, o + (m - 1), none⟩ = some (.string ⟨x.toArray⟩) := fun y => Later.cell hcell y
                    have hsz : (ByteArray.mk x.toArray).size = x.length := rfl
                    have htk : ks.take m = ks.take (m - 1) ++ [x] := by
                      have := List.take_add_one (l := ks) (i := m - 1)
                      rw [show m - 1 + 1 = m by omega, hx] at this
                      exact this
                    have HTK := Lib.hid htk
                    have hq0 : (0 : Int) < (m : Int) := by omega
                    have hq1 : (0 : Int) ≤ (m : Int) - 1 := by omega
                    have hq2 : (m : Int) - 1 < (m : Int) := by omega
                    clear hx htk
                    cases hsp : Lx.allSp x
                    · have e1 : (Lx.ind x == x.length) = false := hsp
                      have e2 : ((Lx.ind x : Int) == (x.length : Int)) = false := eqF (by simp at e1; omega)
                      have HSP := Lib.hid hsp
                      clear hsp
                      have HEND : Hid (Lx.dedent raw = Lib.join (ks.take m) [10]) := by
                        rw [HFK.out, ← HTR.out, HTK.out, Lx.trimEnd_snoc, HSP.out]
                        rfl
                      go_wp2_with fail
                      refine wp_region_later (by kernel_rfl) (by kernel_rfl) ?_
                      repeat (go_big_quiet_step (((exact Later.call (v := .int .i64 (Lx.ind x)) (indent_list x _ (by omega))))))
                      refine wpQuiet_nil ?_; rintro w6 ⟨⟨_, hb6⟩, rfl⟩
                      have hR6 := hR4.below hb6
                      have hB6 := hB4.trans (hb6.mono hB4.size)
                      have HJ := Lib.hid (joinNl g o m 0 (ks.take m) w6 (fun i y h => hR6.cell (HCS.out i y (List.getElem?_take_of_some h))) hR6.lt (by rw [List.length_take]; omega) hm (fun y hy => by
                        obtain ⟨i, hi⟩ := List.getElem?_of_mem (List.mem_of_mem_take hy)
                        have := HL3.out y (List.mem_of_getElem? (HCS.out _ _ hi))
                        omega) (by omega))
                      clear hcell hcl e1 e2
                      go_wp2_with fail
                      refine HJ.out.mono ?_
                      rintro e w7 ⟨rfl, hb7⟩
                      go_wp2
                      go_ret
                      exact ⟨by rw [HEND.out]; rfl, hB6.trans (hb7.mono hB6.size)⟩
                    · have e1 : (Lx.ind x == x.length) = true := hsp
                      have e2 : ((Lx.ind x : Int) == (x.length : Int)) = true := eqT (by simp at e1; omega)
                      have HSP := Lib.hid hsp
                      clear hsp
                      go_wp2_with fail
                      refine wp_region_later (by kernel_rfl) (by kernel_rfl) ?_
                      repeat (go_big_quiet_step (((exact Later.call (v := .int .i64 (Lx.ind x)) (indent_list x _ (by omega))))))
                      refine wpQuiet_nil ?_; rintro w6 ⟨⟨_, hb6⟩, rfl⟩
                      go_wp2
                      go_roundg (m - 1)
                      case measure => rw [HK4.out]; omega
                      case rel =>
                        refine ⟨m - 1, rfl, by omega, rfl, ?_, hb.trans (hb6.mono hb.size)⟩
                        rw [← HTR.out, HTK.out, Lx.trimEnd_snoc, HSP.out]
                        rfl
                  · have hm1 : m = 0 := by omega
                    subst hm1
                    have HEND : Hid (Lx.dedent raw = Lib.join [] [10]) := by
                      rw [HFK.out, ← HTR.out]
                      rfl
                    have hn0 : ¬ (0 : Int) < ((0 : Nat) : Int) := by omega
                    have HJ : Hid (∀ n : Nat, Calls Tryd.prog 85 #[.slice (some ⟨g, o, none⟩) 0 0, .string ⟨#[10]⟩] (wr.drewN n) fun e w' => e = .returned (.string ⟨(Lib.join [] [10]).toArray⟩) ∧ Below (wr.drewN n).heap.size (wr.drewN n) w') :=
                      fun n => joinNl g o 0 0 [] (wr.drewN n) (fun i y h => by simp at h) (hR4.drewN n).lt rfl hm (fun y hy => by simp at hy) (by omega)
                    clear hn0
                    go_wp2_with fail
                    go_quiet (fail)
                    go_wp2_with fail
                    refine (HJ.out _).mono ?_
                    rintro e w7 ⟨rfl, hb7⟩
                    go_wp2
                    go_ret
                    exact ⟨by rw [HEND.out]; rfl, hB4.trans ((Below.undrew hb7).mono hB4.size)⟩
end Go.Proofs.YtabcaljnpahgpaaDoor
namespace Go.Proofs.YtabcaljnpahgpaaDoor
set_option linter.unusedSimpArgs false
set_option linter.unusedVariables false
open Go Go.RowKit

/-- The test 'n == 0 || r < 32 && r != 9 && r != 10 && r != 13', in the walk's own words. -/
theorem ctlB_cases (r n : Nat) :
    ((((n : Int) == 0) = true) ∧ (n = 0 ∨ (r < 32 ∧ r ≠ 9 ∧ r ≠ 10 ∧ r ≠ 13))) ∨
    ((((n : Int) == 0) = false) ∧ decide ((r : Int) < 32) = true ∧ ((r : Int) != 9) = true ∧ ((r : Int) != 10) = true ∧ ((r : Int) != 13) = true ∧ (n = 0 ∨ (r < 32 ∧ r ≠ 9 ∧ r ≠ 10 ∧ r ≠ 13))) ∨
    ((((n : Int) == 0) = false) ∧ decide ((r : Int) < 32) = true ∧ ((r : Int) != 9) = true ∧ ((r : Int) != 10) = true ∧ ((r : Int) != 13) = false ∧ ¬ (n = 0 ∨ (r < 32 ∧ r ≠ 9 ∧ r ≠ 10 ∧ r ≠ 13))) ∨
    ((((n : Int) == 0) = false) ∧ decide ((r : Int) < 32) = true ∧ ((r : Int) != 9) = true ∧ ((r : Int) != 10) = false ∧ ¬ (n = 0 ∨ (r < 32 ∧ r ≠ 9 ∧ r ≠ 10 ∧ r ≠ 13))) ∨
    ((((n : Int) == 0) = false) ∧ decide ((r : Int) < 32) = true ∧ ((r : Int) != 9) = false ∧ ¬ (n = 0 ∨ (r < 32 ∧ r ≠ 9 ∧ r ≠ 10 ∧ r ≠ 13))) ∨
    ((((n : Int) == 0) = false) ∧ decide ((r : Int) < 32) = false ∧ ¬ (n = 0 ∨ (r < 32 ∧ r ≠ 9 ∧ r ≠ 10 ∧ r ≠ 13))) := by
  by_cases h0 : n = 0
  · exact .inl ⟨by simp [h0], .inl h0⟩
  · have e0 : ((n : Int) == 0) = false := by simp [h0]
    by_cases h1 : r < 32
    · have e1 : decide ((r : Int) < 32) = true := by simp; omega
      by_cases h2 : r = 9
      · exact .inr (.inr (.inr (.inr (.inl ⟨e0, e1, by simp [h2], by omega⟩))))
      · by_cases h3 : r = 10
        · exact .inr (.inr (.inr (.inl ⟨e0, e1, by simp; omega, by simp [h3], by omega⟩)))
        · by_cases h4 : r = 13
          · exact .inr (.inr (.inl ⟨e0, e1, by simp; omega, by simp; omega, by simp [h4], by omega⟩))
          · exact .inr (.inl ⟨e0, e1, by simp; omega, by simp; omega, by simp; omega, by omega⟩)
    · exact .inr (.inr (.inr (.inr (.inr ⟨e0, by simp; omega, by omega⟩))))

theorem quotes3_prefix (l : List UInt8) : Lx.quotes3 l = Lib.hasPrefix l [34, 34, 34] := by
  match l with
  | [] => rfl
  | [a] => simp [Lx.quotes3, Lib.hasPrefix, List.isPrefixOf]
  | [a, b] => simp [Lx.quotes3, Lib.hasPrefix, List.isPrefixOf]
  | a :: b :: c :: t =>
    have e : Lib.hasPrefix (a :: b :: c :: t) [34, 34, 34] = ((34 == a) && ((34 == b) && ((34 == c) && true))) := rfl
    have e2 : Lx.quotes3 (a :: b :: c :: t) = decide ([a, b, c] = [34, 34, 34]) := rfl
    rw [e, e2]
    by_cases h1 : a = 34
    · by_cases h2 : b = 34
      · by_cases h3 : c = 34
        · subst h1 h2 h3; decide
        · simp [h1, h2, h3, Ne.symm h3]
      · simp [h1, h2, Ne.symm h2]
    · simp [h1, Ne.symm h1]
theorem bquotes_prefix (c : UInt8) (t : List UInt8) : Lib.hasPrefix (c :: t) [92, 34, 34, 34] = (decide (c.toNat = 92) && Lx.quotes3 t) := by
  have e : Lib.hasPrefix (c :: t) [92, 34, 34, 34] = ((92 == c) && Lib.hasPrefix t [34, 34, 34]) := rfl
  rw [e, quotes3_prefix]
  congr 1
  by_cases h : c = 92
  · subst h; rfl
  · have h2 : c.toNat ≠ 92 := fun e => h (UInt8.toNat_inj.1 (by rw [e]; rfl))
    simp [Ne.symm h, h2]
theorem quotes3_len {l : List UInt8} (h : Lx.quotes3 l = true) : 3 ≤ l.length := by
  unfold Lx.quotes3 at h
  have h1 := congrArg List.length (of_decide_eq_true h)
  rw [List.length_take] at h1
  simp at h1; omega

/-- HasPrefix at what stands from a place on. -/
theorem prefix_sfx (s : ByteArray) (b : Nat) (p : List UInt8) (w : World) :
    Calls Tryd.prog 56 #[.string ⟨(sfx s b).toArray⟩, .string ⟨p.toArray⟩] w fun e w' => e = .returned (.bool (Lib.hasPrefix (sfx s b) p)) ∧ w' = w := Tryd.strings_HasPrefix _ _ _

def blockOut (o : Option (List UInt8 × List UInt8)) : Option (List UInt8 × List UInt8) := o.map fun p => (Lx.dedent p.1, p.2)

/-- What 'block' leaves. -/
def BlkPost (o : Option (List UInt8 × List UInt8)) (bx : Nat) (s : ByteArray) (a : Nat) (w : World) (e : Ending) (w' : World) : Prop :=
  ∃ b, a < b ∧ b ≤ s.size ∧ Scan w' bx s b ∧ Fr bx w w' ∧ Env w' ∧
    ((∃ m, o = some (m, sfx s b) ∧ m.length ≤ b ∧ e = .returned (.tuple #[.string ⟨(Lx.dedent m).toArray⟩, .bool true])) ∨ (o = none ∧ e = .returned (.tuple #[.string ⟨#[]⟩, .bool false])))

set_option maxHeartbeats 8000000 in
set_option maxRecDepth 100000 in
theorem block_any (bx : Nat) (s : ByteArray) (a : Nat) (w : World) (hs : s.size ≤ 4096) (hat : a + 3 ≤ s.size) (h : Scan w bx s a) (hE : Env w) (h3 : 3 ≤ bx) :
    Calls Tryd.prog 64 #[.pointer (some ⟨bx, 0, none⟩)] w (BlkPost (Lx.block [] (sfx s (a + 3))) bx s a w) := by
  have hS0 : St w bx w.heap.size s (a + 3) [] ((w.setCell ⟨bx, 1, none⟩ (.int .i64 ((a + 3 : Nat) : Int))).alloc (.cells #[.pointer none, .slice none 0 0] 124)) := by
    have := St.start (w0 := w) (h.put (a + 3)) (Fr.set (But.refl _ _) 1 _) (hE.fr (Fr.set (But.refl _ _) 1 _) h3) (by simp [World.setCell]) h3
    simpa [World.setCell] using this
  have H0 := Lib.hid hS0
  have c0 := h.c0; have c1 := h.c1; have f1 := h.f1
  clear hS0 h hE
  go_enter Tryd.func64, Tryd.ntmps64
  go_wp2
  clear c0 c1 f1
  go_loopg [] (s.size - (a + 3)) (fun k wr => ∃ b out, k = s.size - b ∧ a < b ∧ b ≤ s.size ∧ out.length ≤ b ∧ Lx.block out (sfx s b) = Lx.block [] (sfx s (a + 3)) ∧ St w bx w.heap.size s b out wr)
  case atStart => exact ⟨a + 3, [], rfl, by omega, hat, by simp, rfl, H0.out⟩
  case round =>
    obtain ⟨b, out, hk, hab, hb, hol, hd, hS⟩ := hrel
    have c0 := hS.scan.c0; have c1 := hS.scan.c1; have f1 := hS.scan.f1
    have HD := Lib.hid hd; have HK := Lib.hid hk
    clear hd hk H0
    by_cases hlt : b < s.size
    · have hi0 : (0 : Int) ≤ (b : Int) := Int.natCast_nonneg _
      have hi1 : (b : Int) < s.size := by omega
      have HC := Lib.hid (sfx_cons s b hlt)
      have hn4 := Lx.rune_le4 (sfx s b)
      have hnl := Lx.rune_len (sfx s b)
      have hrm := Lx.rune_max (sfx s b)
      have hxs := extract_sfx s b
      rw [sfx_len] at hnl
      cases hq : Lx.quotes3 (sfx s b)
      · have HQ : Hid (Lx.quotes3 (bt s b :: sfx s (b + 1)) = false) := by rw [← HC.out]; exact hq
        have HP : Hid (Lib.hasPrefix (sfx s b) [34, 34, 34] = false) := by rw [← quotes3_prefix]; exact hq
        clear hq
        have hpe : Lib.hasPrefix (sfx s b) [92, 34, 34, 34] = (decide ((bt s b).toNat = 92) && Lx.quotes3 (sfx s (b + 1))) := by rw [HC.out, bquotes_prefix]
        by_cases hesc : (bt s b).toNat = 92 ∧ Lx.quotes3 (sfx s (b + 1)) = true
        · have HP2 : Hid (Lib.hasPrefix (sfx s b) [92, 34, 34, 34] = true) := by show _ = _; rw [hpe, hesc.2]; simp [hesc.1]
          have hq3 := quotes3_len hesc.2
          rw [sfx_len] at hq3
          have HES := Lib.hid hesc
          clear hesc hpe
          go_wp2
          go_quiet (fail)
          go_wp2
          go_quiet (fail)
          go_wp2_with fail
          refine (rune_any bx s b _ hs hb (hS.scan.drewN _) (hS.env.drewN _)).mono ?_
          rintro e w1 ⟨rfl, hb1⟩
          have hS2 := (hS.drewN _).below hb1
          clear hb1 c0 c1 f1
          have c0 := hS2.scan.c0; have c1 := hS2.scan.c1; have f1 := hS2.scan.f1
          go_wp2_with fail
          refine (prefix_sfx s b [34, 34, 34] _).mono ?_
          rintro e w2 ⟨rfl, hw2⟩
          subst hw2
          rw [HP.out]
          go_wp2_with fail
          refine (prefix_sfx s b [92, 34, 34, 34] _).mono ?_
          rintro e w2 ⟨rfl, hw2⟩
          subst hw2
          rw [HP2.out]
          go_wp2_with fail
          refine (hS2.str (by omega) [34, 34, 34] (by simp)).mono ?_
          rintro e w3 ⟨⟨n3, rfl⟩, hS3⟩
          clear c0 c1 f1
          have c0 := hS3.scan.c0; have c1 := hS3.scan.c1; have f1 := hS3.scan.f1
          go_wp2
          go_roundg (s.size - (b + 4))
          case measure => rw [HK.out]; omega
          case rel =>
            refine ⟨b + 4, out ++ [34, 34, 34], rfl, by omega, by omega, by simp; omega, ?_, hS3.put _⟩
            rw [← HD.out, HC.out, Lx.block_esc HQ.out HES.out, sfx_drop]
        · have HP2 : Hid (Lib.hasPrefix (sfx s b) [92, 34, 34, 34] = false) := by
            show _ = _
            rw [hpe]
            by_cases h1 : (bt s b).toNat = 92
            · have h2 : Lx.quotes3 (sfx s (b + 1)) = false := by
                cases hh : Lx.quotes3 (sfx s (b + 1))
                · rfl
                · exact absurd ⟨h1, hh⟩ hesc
              rw [h2]; simp
            · simp [h1]
          have HES := Lib.hid hesc
          clear hesc hpe
          rcases ctlB_cases (Lx.rune (sfx s b)).1 (Lx.rune (sfx s b)).2 with ⟨q1, q4⟩ | ⟨q1, q2, q3, q5, q6, q4⟩ | ⟨q1, q2, q3, q5, q6, q4⟩ | ⟨q1, q2, q3, q5, q4⟩ | ⟨q1, q2, q3, q4⟩ | ⟨q1, q2, q4⟩
          all_goals
            have Q4 := Lib.hid q4
            clear q4
            go_wp2
            go_quiet (fail)
            go_wp2
            go_quiet (fail)
            go_wp2_with fail
            refine (rune_any bx s b _ hs hb (hS.scan.drewN _) (hS.env.drewN _)).mono ?_
            rintro e w1 ⟨rfl, hb1⟩
            have hS2 := (hS.drewN _).below hb1
            clear hb1 c0 c1 f1
            have c0 := hS2.scan.c0; have c1 := hS2.scan.c1; have f1 := hS2.scan.f1
            go_wp2_with fail
            refine (prefix_sfx s b [34, 34, 34] _).mono ?_
            rintro e w2 ⟨rfl, hw2⟩
            subst hw2
            rw [HP.out]
            go_wp2_with fail
            refine (prefix_sfx s b [92, 34, 34, 34] _).mono ?_
            rintro e w2 ⟨rfl, hw2⟩
            subst hw2
            rw [HP2.out]
            go_wp2_with fail
            first
            | (go_ret2
               exact ⟨b, by omega, hb, hS2.scan, hS2.fr, hS2.env, .inr ⟨by rw [← HD.out, HC.out, Lx.block_bad HQ.out HES.out (by rw [← HC.out]; exact Q4.out)], rfl⟩⟩)
            | (have hn1 : (Lx.rune (sfx s b)).2 ≠ 0 := fun h => Q4.out (.inl h)
               obtain ⟨hen1, hen2⟩ := Lx.rune_enc (sfx s b) hn1
               have HEN := Lib.hid hen2
               clear hen2
               refine (hS2.rune (by omega) _ hen1).mono ?_
               rintro e w3 ⟨⟨n3, rfl⟩, hS3⟩
               clear c0 c1 f1 hen1
               have c0 := hS3.scan.c0; have c1 := hS3.scan.c1; have f1 := hS3.scan.f1
               go_wp2
               go_roundg (s.size - (b + (Lx.rune (sfx s b)).2))
               case measure => rw [HK.out]; omega
               case rel =>
                 refine ⟨b + (Lx.rune (sfx s b)).2, out ++ Lx.enc (Lx.rune (sfx s b)).1, rfl, by omega, by omega, ?_, ?_, hS3.put _⟩
                 · rw [HEN.out, List.length_append, List.length_take]; omega
                 · have := Lx.block_go (out := out) HQ.out HES.out (by rw [← HC.out]; exact Q4.out)
                   rw [← HC.out] at this
                   rw [← HD.out, this, HEN.out, sfx_drop])
      · have hq3 := quotes3_len hq
        rw [sfx_len] at hq3
        have HQ := Lib.hid hq
        have HP : Hid (Lib.hasPrefix (sfx s b) [34, 34, 34] = true) := by rw [← quotes3_prefix]; exact hq
        clear hq
        go_wp2
        go_quiet (fail)
        go_wp2
        go_quiet (fail)
        go_wp2_with fail
        refine (rune_any bx s b _ hs hb (hS.scan.drewN _) (hS.env.drewN _)).mono ?_
        rintro e w1 ⟨rfl, hb1⟩
        have hS2 := (hS.drewN _).below hb1
        clear hb1 c0 c1 f1
        have c0 := hS2.scan.c0; have c1 := hS2.scan.c1; have f1 := hS2.scan.f1
        go_wp2_with fail
        refine (prefix_sfx s b [34, 34, 34] _).mono ?_
        rintro e w2 ⟨rfl, hw2⟩
        subst hw2
        rw [HP.out]
        go_wp2_with fail
        refine (hS2.put (b + 3)).string.mono ?_
        rintro e w3 ⟨rfl, hS3⟩
        go_wp2_with fail
        refine (dedent_any out w3 hS3.env (by omega)).mono ?_
        rintro e w4 ⟨rfl, hb4⟩
        have hS4 := hS3.below hb4
        go_wp2_with fail
        go_ret2
        refine ⟨b + 3, by omega, by omega, hS4.scan, hS4.fr, hS4.env, .inl ⟨out, ?_, by omega, rfl⟩⟩
        rw [← HD.out, HC.out, Lx.block_end (by rw [← HC.out]; exact HQ.out), ← HC.out, sfx_drop]
    · have hi1 : (s.size : Int) ≤ b := by omega
      go_wp2
      go_quiet (fail)
      go_wp2
      go_ret2
      exact ⟨b, by omega, hb, hS.scan.drewN _, hS.fr.drewN _, hS.env.drewN _, .inr ⟨by rw [← HD.out, sfx_end s b (by omega), Lx.block_nil], rfl⟩⟩
end Go.Proofs.YtabcaljnpahgpaaDoor
