/-
  The lexer's 'text', walked.
-/
import Derived.Test.YtonblegbnkfhbaaDoorLxst
import Derived.Test.YtonblegbnkfhbaaDoorLxw5
import Derived.Outline
import Derived.Deep.LoopGhost
namespace Go.Proofs.YtonblegbnkfhbaaDoor
set_option linter.unusedSimpArgs false
set_option linter.unusedVariables false
open Go Go.RowKit

theorem hd_sfx' (s : ByteArray) (n : Nat) : Lx.hd (sfx s n) = bt s n := by
  have := sfx_getD s n 0
  unfold Lx.hd
  cases h : sfx s n with
  | nil => rw [h] at this; simpa using this
  | cons c t => rw [h] at this; simpa using this

theorem escIdx (c : UInt8) (w : World) :
    Calls Tryd.prog 24 #[.string ⟨#[34, 92, 47, 98, 102, 110, 114, 116, 117]⟩, .int .u8 c.toNat] w fun e w' => e = .returned (.int .i64 (Lib.indexByte Lx.escs c)) ∧ w' = w := by
  refine (Tryd.strings_IndexByte _ _ _).mono ?_
  rintro e w' ⟨rfl, rfl⟩
  refine ⟨?_, rfl⟩
  have h1 : ((c.toNat : Int)).toNat.toUInt8 = c := by simp
  rw [h1]
  rfl

/-- What a method that reads a string leaves. -/
def TxtPost (o : Option (List UInt8 × List UInt8)) (bx : Nat) (s : ByteArray) (a : Nat) (w : World) (e : Ending) (w' : World) : Prop :=
  ∃ b, a < b ∧ b ≤ s.size ∧ Scan w' bx s b ∧ Fr bx w w' ∧ Env w' ∧
    ((∃ m, o = some (m, sfx s b) ∧ m.length ≤ b ∧ e = .returned (.tuple #[.string ⟨m.toArray⟩, .bool true])) ∨ (o = none ∧ e = .returned (.tuple #[.string ⟨#[]⟩, .bool false])))

set_option maxHeartbeats 8000000 in
set_option maxRecDepth 100000 in
theorem text_any (bx : Nat) (s : ByteArray) (a : Nat) (w : World) (hs : s.size ≤ 4096) (hat : a < s.size) (h : Scan w bx s a) (hE : Env w) (h3 : 3 ≤ bx) :
    Calls Tryd.prog 35 #[.pointer (some ⟨bx, 0, none⟩)] w (TxtPost (Lx.text [] (sfx s (a + 1))) bx s a w) := by
  have hS0 : St w bx w.heap.size s (a + 1) [] ((w.setCell ⟨bx, 1, none⟩ (.int .i64 ((a + 1 : Nat) : Int))).alloc (.cells #[.pointer none, .slice none 0 0] 49)) := by
    have := St.start (w0 := w) (h.put (a + 1)) (Fr.set (But.refl _ _) 1 _) (hE.fr (Fr.set (But.refl _ _) 1 _) h3) (by simp [World.setCell]) h3
    simpa [World.setCell] using this
  have H0 := Lib.hid hS0
  have c0 := h.c0; have c1 := h.c1; have f1 := h.f1
  clear hS0 h hE
  go_enter Tryd.func35, Tryd.ntmps35
  go_wp2
  clear c0 c1 f1
  go_loopg [] (s.size - (a + 1)) (fun k wr => ∃ b out, k = s.size - b ∧ a < b ∧ b ≤ s.size ∧ out.length ≤ b ∧ Lx.text out (sfx s b) = Lx.text [] (sfx s (a + 1)) ∧ St w bx w.heap.size s b out wr)
  case atStart => exact ⟨a + 1, [], rfl, by omega, hat, by simp, rfl, H0.out⟩
  case round =>
    obtain ⟨b, out, hk, hab, hb, hol, hd, hS⟩ := hrel
    have c0 := hS.scan.c0; have c1 := hS.scan.c1; have f1 := hS.scan.f1
    have HD := Lib.hid hd; have HK := Lib.hid hk
    clear hd hk H0
    by_cases hlt : b < s.size
    · have hi0 : (0 : Int) ≤ (b : Int) := Int.natCast_nonneg _
      have hi1 : (b : Int) < s.size := by omega
      have HC := Lib.hid (sfx_cons s b hlt)
      have hn4 := Lx.rune_le4 (sfx s b)
      have hnl := Lx.rune_len (sfx s b)
      have hrm := Lx.rune_max (sfx s b)
      rw [sfx_len] at hnl
      rcases Lx.ctl_cases (Lx.rune (sfx s b)).1 (Lx.rune (sfx s b)).2 with ⟨q1, q4⟩ | ⟨q1, q2, q3, q4⟩ | ⟨q1, q2, q3, q4⟩ | ⟨q1, q2, q4⟩
      · have Q4 := Lib.hid q4
        clear q4
        go_wp2
        go_quiet (fail)
        go_wp2_with fail
        refine (rune_any bx s b _ hs hb (hS.scan.drewN _) (hS.env.drewN _)).mono ?_
        rintro e w1 ⟨rfl, hb1⟩
        have hS1 := (hS.drewN _).below hb1
        clear hb1 c0 c1 f1
        have c0 := hS1.scan.c0; have c1 := hS1.scan.c1; have f1 := hS1.scan.f1
        go_wp2_with fail
        go_ret2
        exact ⟨b, by omega, hb, hS1.scan, hS1.fr, hS1.env, .inr ⟨by rw [← HD.out, HC.out, Lx.text_bad (by rw [← HC.out]; exact Q4.out)], rfl⟩⟩
      · have Q4 := Lib.hid q4
        clear q4
        go_wp2
        go_quiet (fail)
        go_wp2_with fail
        refine (rune_any bx s b _ hs hb (hS.scan.drewN _) (hS.env.drewN _)).mono ?_
        rintro e w1 ⟨rfl, hb1⟩
        have hS1 := (hS.drewN _).below hb1
        clear hb1 c0 c1 f1
        have c0 := hS1.scan.c0; have c1 := hS1.scan.c1; have f1 := hS1.scan.f1
        go_wp2_with fail
        go_ret2
        exact ⟨b, by omega, hb, hS1.scan, hS1.fr, hS1.env, .inr ⟨by rw [← HD.out, HC.out, Lx.text_bad (by rw [← HC.out]; exact Q4.out)], rfl⟩⟩
      all_goals
        have hn1 : (Lx.rune (sfx s b)).2 ≠ 0 := fun h => q4 (.inl h)
        have Q4 : Hid (¬ Lx.ctl (bt s b :: sfx s (b + 1))) := by rw [← HC.out]; exact q4
        obtain ⟨hen1, hen2⟩ := Lx.rune_enc (sfx s b) hn1
        have HEN := Lib.hid hen2
        have HN1 := Lib.hid hen1
        clear q4 hen2 hen1
        by_cases h34 : (Lx.rune (sfx s b)).1 = 34
        · have e1 := eqT (n := (Lx.rune (sfx s b)).1) (k := 34) (by omega)
          have H34 := Lib.hid h34
          clear h34
          go_wp2
          go_quiet (fail)
          go_wp2_with fail
          refine (rune_any bx s b _ hs hb (hS.scan.drewN _) (hS.env.drewN _)).mono ?_
          rintro e w1 ⟨rfl, hb1⟩
          have hS1 := (hS.drewN _).below hb1
          clear hb1 c0 c1 f1
          have c0 := hS1.scan.c0; have c1 := hS1.scan.c1; have f1 := hS1.scan.f1
          go_wp2_with fail
          refine (((hS1.put (b + 1)).string)).mono ?_
          rintro e w2 ⟨rfl, hS2⟩
          go_wp2_with fail
          go_ret2
          refine ⟨b + 1, by omega, hlt, hS2.scan, hS2.fr, hS2.env, .inl ⟨out, ?_, by omega, rfl⟩⟩
          rw [← HD.out, HC.out, Lx.text_quote Q4.out (by rw [← HC.out]; exact H34.out)]
        · have e1 := eqF (n := (Lx.rune (sfx s b)).1) (k := 34) (by omega)
          have H34 := Lib.hid h34
          clear h34
          by_cases h92 : (Lx.rune (sfx s b)).1 = 92
          · have e2 := neF (n := (Lx.rune (sfx s b)).1) (k := 92) (by omega)
            have H92 := Lib.hid h92
            clear h92
            have hI := escIdx (bt s (b + 1))
            have hec := Lx.esc_cases (bt s (b + 1))
            generalize Lib.indexByte Lx.escs (bt s (b + 1)) = kk at hI hec
            have HI := Lib.hid hI
            clear hI
            rcases hec with ⟨g1, g2, g3⟩ | ⟨g1, g4, g2, g3⟩ | ⟨g1, g2, g3⟩
            · have G2 := Lib.hid g2; have G3 := Lib.hid g3
              have e3 : decide (kk < 0) = true := by simpa using g1
              clear g2 g3
              go_wp2
              go_quiet (fail)
              go_wp2_with fail
              refine (rune_any bx s b _ hs hb (hS.scan.drewN _) (hS.env.drewN _)).mono ?_
              rintro e w1 ⟨rfl, hb1⟩
              have hS1 := (hS.drewN _).below hb1
              clear hb1 c0 c1 f1
              have c0 := hS1.scan.c0; have c1 := hS1.scan.c1; have f1 := hS1.scan.f1
              go_wp2_with fail
              refine (peek1_any bx s b _ hs hb hS1.scan).mono ?_
              rintro e w2 ⟨rfl, n2, rfl⟩
              go_wp2_with fail
              refine (HI.out _).mono ?_
              rintro e w2 ⟨rfl, hw2⟩
              subst hw2
              go_wp2_with fail
              go_ret2
              exact ⟨b, by omega, hb, hS1.scan.drewN _, hS1.fr.drewN _, hS1.env.drewN _, .inr ⟨by rw [← HD.out, HC.out, Lx.text_noesc Q4.out (by rw [← HC.out]; exact H92.out) (by rw [hd_sfx']; exact G2.out) (by rw [hd_sfx']; exact G3.out)], rfl⟩⟩
            · have G2 := Lib.hid g2; have G3 := Lib.hid g3
              have e3 : decide (kk < 0) = false := by simp; omega
              have e4 : decide (kk < 8) = true := by simp; omega
              have e5 := eqF (n := (bt s (b + 1)).toNat) (k := 0) (by omega)
              have hb1 : b + 1 < s.size := by
                rcases Nat.lt_or_ge (b + 1) s.size with h' | h'
                · exact h'
                · rw [bt_end _ _ h'] at g3; exact absurd rfl g3
              clear g2 g3
              go_wp2
              go_quiet (fail)
              go_wp2_with fail
              refine (rune_any bx s b _ hs hb (hS.scan.drewN _) (hS.env.drewN _)).mono ?_
              rintro e w1 ⟨rfl, hb1⟩
              have hS1 := (hS.drewN _).below hb1
              clear hb1 c0 c1 f1
              have c0 := hS1.scan.c0; have c1 := hS1.scan.c1; have f1 := hS1.scan.f1
              go_wp2_with fail
              refine (peek1_any bx s b _ hs hb hS1.scan).mono ?_
              rintro e w2 ⟨rfl, n2, rfl⟩
              go_wp2_with fail
              refine (HI.out _).mono ?_
              rintro e w2 ⟨rfl, hw2⟩
              subst hw2
              go_wp2_with fail
              refine (peek1_any bx s b _ hs hb (hS1.scan.drewN _)).mono ?_
              rintro e w2 ⟨rfl, n3, hw3⟩
              have hS3 : St w bx w.heap.size s b out w2 := by rw [hw3]; exact (hS1.drewN _).drewN _
              clear hw3 c0 c1 f1 hS1
              have c0 := hS3.scan.c0; have c1 := hS3.scan.c1; have f1 := hS3.scan.f1
              go_wp2_with fail
              refine (hS3.byte (by omega) (bt ⟨#[34, 92, 47, 8, 12, 10, 13, 9]⟩ kk.toNat)).mono ?_
              rintro e w4 ⟨rfl, hS4⟩
              clear c0 c1 f1
              have c0 := hS4.scan.c0; have c1 := hS4.scan.c1; have f1 := hS4.scan.f1
              go_wp2
              go_roundg (s.size - (b + 2))
              case measure => rw [HK.out]; omega
              case rel =>
                refine ⟨b + 2, out ++ [bt ⟨#[34, 92, 47, 8, 12, 10, 13, 9]⟩ kk.toNat], rfl, by omega, by omega, by simp; omega, ?_, hS4.put _⟩
                rw [← HD.out, HC.out, Lx.text_esc Q4.out (by rw [← HC.out]; exact H92.out) (by rw [hd_sfx']; exact G2.out), sfx_drop]
                rfl
            · have G2 := Lib.hid g2; have G3 := Lib.hid g3
              have e3 : decide (kk < 0) = false := by simp; omega
              have e4 : decide (kk < 8) = false := by simp; omega
              have e5 := eqF (n := (bt s (b + 1)).toNat) (k := 0) (by omega)
              have hb1 : b + 1 < s.size := by
                rcases Nat.lt_or_ge (b + 1) s.size with h' | h'
                · exact h'
                · rw [bt_end _ _ h'] at g3; exact absurd g3 (by decide)
              have hi2 : (0 : Int) ≤ (b : Int) + 2 := by omega
              have hi3 : (b : Int) + 2 ≤ s.size := by omega
              have hxs := extract_sfx s (b + 2)
              have hxm := hex_any ⟨(sfx s (b + 2)).toArray⟩
              have hsl : (ByteArray.mk (sfx s (b + 2)).toArray).size ≤ 4096 := by
                show (sfx s (b + 2)).length ≤ 4096
                rw [sfx_len]; omega
              have hda : (ByteArray.mk (sfx s (b + 2)).toArray).data.toList = sfx s (b + 2) := rfl
              have HXM : Hid (∀ w', Calls Tryd.prog 44 #[.string ⟨(sfx s (b + 2)).toArray⟩] w' fun e w'' => e = .returned (.int .i32 (hexAns (Lx.hex (sfx s (b + 2))))) ∧ w'' = w') := fun w' => hxm w' hsl
              have HP := Lib.hid hd_sfx'
              clear g2 g3 hxm hsl hda
              have hhex : (hexAns (Lx.hex (sfx s (b + 2))) = -1 ∧ Lx.hex (sfx s (b + 2)) = none) ∨ ∃ v : Nat, v < 65536 ∧ b + 6 ≤ s.size ∧ hexAns (Lx.hex (sfx s (b + 2))) = (v : Int) ∧ Lx.hex (sfx s (b + 2)) = some v := by
                cases hh : Lx.hex (sfx s (b + 2)) with
                | none => exact .inl ⟨rfl, rfl⟩
                | some v =>
                  have h1 := Lx.hexs_len 4 0 _ _ hh
                  rw [sfx_len] at h1
                  exact .inr ⟨v, Lx.hex_lt hh, by omega, rfl, rfl⟩
              generalize hexAns (Lx.hex (sfx s (b + 2))) = hv at HXM hhex
              rcases hhex with ⟨rfl, hx⟩ | ⟨v, hv1, hv2, rfl, hx⟩
              · have HX := Lib.hid hx
                clear hx
                go_wp2
                go_quiet (fail)
                go_wp2_with fail
                refine (rune_any bx s b _ hs hb (hS.scan.drewN _) (hS.env.drewN _)).mono ?_
                rintro e w1 ⟨rfl, hb1⟩
                have hS1 := (hS.drewN _).below hb1
                clear hb1 c0 c1 f1
                have c0 := hS1.scan.c0; have c1 := hS1.scan.c1; have f1 := hS1.scan.f1
                go_wp2_with fail
                refine (peek1_any bx s b _ hs hb hS1.scan).mono ?_
                rintro e w2 ⟨rfl, n2, rfl⟩
                go_wp2_with fail
                refine (HI.out _).mono ?_
                rintro e w2 ⟨rfl, hw2⟩
                subst hw2
                go_wp2_with fail
                refine (peek1_any bx s b _ hs hb (hS1.scan.drewN _)).mono ?_
                rintro e w2 ⟨rfl, n3, hw3⟩
                have hS3 : St w bx w.heap.size s b out w2 := by rw [hw3]; exact (hS1.drewN _).drewN _
                clear hw3 c0 c1 f1 hS1
                have c0 := hS3.scan.c0; have c1 := hS3.scan.c1; have f1 := hS3.scan.f1
                go_wp2
                go_quiet ((exact Calls.quiet_of_same (HXM.out _)))
                go_wp2
                go_ret2
                exact ⟨b, by omega, hb, hS3.scan.drewN _, hS3.fr.drewN _, hS3.env.drewN _, .inr ⟨by rw [← HD.out, HC.out, Lx.text_nohex Q4.out (by rw [← HC.out]; exact H92.out) (by rw [hd_sfx']; exact G2.out) (by rw [hd_sfx']; exact G3.out) (by rw [sfx_drop]; exact HX.out)], rfl⟩⟩
              · have HX := Lib.hid hx
                clear hx
                have hv3 : decide ((v : Int) < 0) = false := by simp
                by_cases hsur : 55296 ≤ v ∧ v < 57344
                · have s1 : decide (55296 ≤ (v : Int)) = true := by simp; omega
                  have s2 : decide ((v : Int) < 57344) = true := by simp; omega
                  have HSU := Lib.hid hsur
                  clear hsur
                  go_wp2
                  go_quiet (fail)
                  go_wp2_with fail
                  refine (rune_any bx s b _ hs hb (hS.scan.drewN _) (hS.env.drewN _)).mono ?_
                  rintro e w1 ⟨rfl, hb1⟩
                  have hS1 := (hS.drewN _).below hb1
                  clear hb1 c0 c1 f1
                  have c0 := hS1.scan.c0; have c1 := hS1.scan.c1; have f1 := hS1.scan.f1
                  go_wp2_with fail
                  refine (peek1_any bx s b _ hs hb hS1.scan).mono ?_
                  rintro e w2 ⟨rfl, n2, rfl⟩
                  go_wp2_with fail
                  refine (HI.out _).mono ?_
                  rintro e w2 ⟨rfl, hw2⟩
                  subst hw2
                  go_wp2_with fail
                  refine (peek1_any bx s b _ hs hb (hS1.scan.drewN _)).mono ?_
                  rintro e w2 ⟨rfl, n3, hw3⟩
                  have hS3 : St w bx w.heap.size s b out w2 := by rw [hw3]; exact (hS1.drewN _).drewN _
                  clear hw3 c0 c1 f1 hS1
                  have c0 := hS3.scan.c0; have c1 := hS3.scan.c1; have f1 := hS3.scan.f1
                  go_wp2
                  go_quiet ((exact Calls.quiet_of_same (HXM.out _)))
                  go_wp2
                  go_ret2
                  exact ⟨b, by omega, hb, hS3.scan.drewN _, hS3.fr.drewN _, hS3.env.drewN _, .inr ⟨by rw [← HD.out, HC.out, Lx.text_sur Q4.out (by rw [← HC.out]; exact H92.out) (by rw [hd_sfx']; exact G2.out) (by rw [hd_sfx']; exact G3.out) (by rw [sfx_drop]; exact HX.out) HSU.out], rfl⟩⟩
                · have hs12 : decide (55296 ≤ (v : Int)) = false ∨ (decide (55296 ≤ (v : Int)) = true ∧ decide ((v : Int) < 57344) = false) := by
                    by_cases h' : 55296 ≤ v
                    · exact .inr ⟨by simp; omega, by simp; omega⟩
                    · exact .inl (by simp; omega)
                  have HSU := Lib.hid hsur
                  clear hsur
                  rcases hs12 with s1 | ⟨s1, s2⟩
                  all_goals
                    go_wp2
                    go_quiet (fail)
                    go_wp2_with fail
                    refine (rune_any bx s b _ hs hb (hS.scan.drewN _) (hS.env.drewN _)).mono ?_
                    rintro e w1 ⟨rfl, hb1⟩
                    have hS1 := (hS.drewN _).below hb1
                    clear hb1 c0 c1 f1
                    have c0 := hS1.scan.c0; have c1 := hS1.scan.c1; have f1 := hS1.scan.f1
                    go_wp2_with fail
                    refine (peek1_any bx s b _ hs hb hS1.scan).mono ?_
                    rintro e w2 ⟨rfl, n2, rfl⟩
                    go_wp2_with fail
                    refine (HI.out _).mono ?_
                    rintro e w2 ⟨rfl, hw2⟩
                    subst hw2
                    go_wp2_with fail
                    refine (peek1_any bx s b _ hs hb (hS1.scan.drewN _)).mono ?_
                    rintro e w2 ⟨rfl, n3, hw3⟩
                    have hS3 : St w bx w.heap.size s b out w2 := by rw [hw3]; exact (hS1.drewN _).drewN _
                    clear hw3 c0 c1 f1 hS1
                    have c0 := hS3.scan.c0; have c1 := hS3.scan.c1; have f1 := hS3.scan.f1
                    go_wp2
                    go_quiet ((exact Calls.quiet_of_same (HXM.out _)))
                    go_wp2_with fail
                    refine ((hS3.drewN _).rune (by omega) v (by have := HSU.out; omega)).mono ?_
                    rintro e w5 ⟨⟨n5, rfl⟩, hS5⟩
                    clear c0 c1 f1
                    have c0 := hS5.scan.c0; have c1 := hS5.scan.c1; have f1 := hS5.scan.f1
                    go_wp2
                    go_roundg (s.size - (b + 6))
                    case measure => rw [HK.out]; omega
                    case rel =>
                      have hel := Lx.enc_len v
                      refine ⟨b + 6, out ++ Lx.enc v, rfl, by omega, by omega, by simp; omega, ?_, hS5.put _⟩
                      rw [← HD.out, HC.out, Lx.text_uni Q4.out (by rw [← HC.out]; exact H92.out) (by rw [hd_sfx']; exact G2.out) (by rw [hd_sfx']; exact G3.out) (by rw [sfx_drop]; exact HX.out) HSU.out, sfx_drop]
          · have e2 := neT (n := (Lx.rune (sfx s b)).1) (k := 92) (by omega)
            have H92 := Lib.hid h92
            clear h92
            go_wp2
            go_quiet (fail)
            go_wp2_with fail
            refine (rune_any bx s b _ hs hb (hS.scan.drewN _) (hS.env.drewN _)).mono ?_
            rintro e w1 ⟨rfl, hb1⟩
            have hS1 := (hS.drewN _).below hb1
            clear hb1 c0 c1 f1
            have c0 := hS1.scan.c0; have c1 := hS1.scan.c1; have f1 := hS1.scan.f1
            go_wp2_with fail
            refine (hS1.rune (by omega) _ HN1.out).mono ?_
            rintro e w2 ⟨⟨n2, rfl⟩, hS2⟩
            clear c0 c1 f1
            have c0 := hS2.scan.c0; have c1 := hS2.scan.c1; have f1 := hS2.scan.f1
            go_wp2
            go_roundg (s.size - (b + (Lx.rune (sfx s b)).2))
            case measure => rw [HK.out]; omega
            case rel =>
              have hel := Lx.rune_le4 (sfx s b)
              refine ⟨b + (Lx.rune (sfx s b)).2, out ++ Lx.enc (Lx.rune (sfx s b)).1, rfl, by omega, by omega, ?_, ?_, hS2.put _⟩
              · rw [HEN.out, List.length_append, List.length_take]; omega
              · have := Lx.text_plain (out := out) Q4.out (by rw [← HC.out]; exact H34.out) (by rw [← HC.out]; exact H92.out)
                rw [← HC.out] at this
                rw [← HD.out, this, HEN.out, sfx_drop]
    · have hi1 : (s.size : Int) ≤ b := by omega
      go_wp2
      go_quiet (fail)
      go_wp2
      go_ret2
      exact ⟨b, by omega, hb, hS.scan.drewN _, hS.fr.drewN _, hS.env.drewN _, .inr ⟨by rw [← HD.out, sfx_end s b (by omega), Lx.text_nil], rfl⟩⟩
end Go.Proofs.YtonblegbnkfhbaaDoor
