/-
  CoerceSorts, walked. What the listed variables give; a world for the witnesses (the coercers' laws).
-/
import Derived.Test.YtmgoebfcfgilfaaGreatDoorZs18
import Derived.Test.YtmgoebfcfgilfaaGreatDoorCards
import Derived.Test.YtmgoebfcfgilfaaGreatDoorTie
import Derived.Test.YtmgoebfcfgilfaaGreatDoorZs17
import Derived.Test.YtmgoebfcfgilfaaGreatDoorZs7
import Derived.Test.YtmgoebfcfgilfaaGreatDoorZs10
import Derived.WalkKit
import Derived.ProofKit
import Derived.OpenShut
import Derived.Deep.DeepHandedRow
import Derived.Lib.LaidTab
import Derived.Lib.LaidIn
import Derived.Lib.LaidU8
import Derived.Lib.LaidU8T
import Derived.Stop.LaidErr
import Derived.LaidLaws
import Derived.Carry
namespace Go.Proofs.YtmgoebfcfgilfaaGreatDoor
set_option linter.unusedSimpArgs false
set_option linter.unusedVariables false
open Go Go.RowKit
open Go.Maps Go.WideMaps

theorem pbCells_setAt : ∀ (d : List Cp.Pb) (i : Nat) (p : Cp.Pb) (x : Int), d[i]? = some p → pbCells (d.set i (p.1, x)) = (pbCells d).set (i * 2 + 1) (.int .i64 x)
  | [], i, p, x, h => by simp at h
  | y :: r, 0, p, x, h => by simp at h; subst h; rw [List.set_cons_zero, pbCells_cons, pbCells_cons]; rfl
  | y :: r, i + 1, p, x, h => by
    rw [List.set_cons_succ, pbCells_cons, pbCells_setAt r i p x (by simpa using h), pbCells_cons, show (i + 1) * 2 + 1 = i * 2 + 1 + 1 + 1 by omega]
    rfl
theorem RowP.setAt {w : World} {g cap : Nat} {d : List Cp.Pb} (h : RowP w g cap d) {i : Nat} {p : Cp.Pb} (hi : d[i]? = some p) (x : Int) :
    RowP (w.setCell ⟨g, i * 2 + 1, none⟩ (.int .i64 x)) g cap (d.set i (p.1, x)) := by
  obtain ⟨cur, h1, h2, h3⟩ := h.row
  have hl := (List.getElem?_eq_some_iff.1 hi).1
  refine ⟨⟨cur.setIfInBounds (i * 2 + 1) (.int .i64 x), ?_, by simp [h2], ?_⟩, by rw [List.length_set]; exact h.le⟩
  · simp [World.setCell, Array.getElem?_modify, h1]
  · rw [List.length_set, Array.toList_setIfInBounds, take_set _ _ _ _ (by omega), h3, pbCells_setAt d i p x hi]
theorem OwnP.empty (w : World) (base : Nat) (hb : base ≤ w.heap.size) : OwnP (w.alloc (.cells #[] 42)) base (.slice (some ⟨w.heap.size, 0, none⟩) 0 0) [] :=
  ⟨rfl, .inr ⟨w.heap.size, 0, #[], rfl, hb, heap_at_new w _, Nat.le_refl _, by unfold maxLen; omega, rfl, rfl⟩⟩
set_option maxHeartbeats 4000000 in
set_option maxRecDepth 100000 in
theorem coerceSorts_any (va vb : Value) (a b : List Cp.Pb) (w : World) (P : Nat → Prop) (ha : Pbs w P va a) (hb : Pbs w P vb b) (hna : NilCap va) (hnb : NilCap vb) (hE : Env w) (h3 : 3 ≤ w.heap.size) (hR : RangeVar w) :
    Calls Tryz.prog 5 #[va, vb] w fun e w' => e = .returned (.bool true) ∧ Below w.heap.size w w' := by
  obtain ⟨aa, ac, rfl⟩ := ha.form
  obtain ⟨ba, bc, rfl⟩ := hb.form
  have HA := Lib.hid ha
  have HB := Lib.hid hb
  have HNA := Lib.hid hna
  have HNB := Lib.hid hnb
  have HAW := Lib.hid (cawake_any w hE h3 hR)
  clear ha hb hna hnb hE hR
  by_cases hbig : 100 < a.length ∨ 100 < b.length
  · have HBIG := Lib.hid hbig
    rcases hbig with h | h
    · have t1 : decide ((a.length : Int) > 100) = true := decide_eq_true (by omega)
      have t2 : decide ((100 : Int) < (a.length : Int)) = true := decide_eq_true (by omega)
      go_enter Tryz.func5, Tryz.ntmps5
      go_wp2_with fail
      refine HAW.out.mono ?_
      rintro e w1 ⟨rfl, hb1, hE1, hR1⟩
      have HB1 := Lib.hid hb1
      have HAW1 := Lib.hid (cawake_any w1 hE1 (Nat.le_trans h3 hb1.size) hR1)
      clear hb1 hE1 hR1 HAW
      go_wp2_with fail
      refine HAW1.out.mono ?_
      rintro e w2 ⟨rfl, hb2, -, -⟩
      have HB2 := Lib.hid (HB1.out.trans (hb2.mono HB1.out.size))
      clear hb2
      go_wp2_with fail
      go_ret
      exact ⟨rfl, HB2.out⟩
    · have t3 : decide ((b.length : Int) > 100) = true := decide_eq_true (by omega)
      have t4 : decide ((100 : Int) < (b.length : Int)) = true := decide_eq_true (by omega)
      by_cases h1 : 100 < a.length
      · have t1 : decide ((a.length : Int) > 100) = true := decide_eq_true (by omega)
        have t2 : decide ((100 : Int) < (a.length : Int)) = true := decide_eq_true (by omega)
        go_enter Tryz.func5, Tryz.ntmps5
        go_wp2_with fail
        refine HAW.out.mono ?_
        rintro e w1 ⟨rfl, hb1, hE1, hR1⟩
        have HB1 := Lib.hid hb1
        have HAW1 := Lib.hid (cawake_any w1 hE1 (Nat.le_trans h3 hb1.size) hR1)
        clear hb1 hE1 hR1 HAW
        go_wp2_with fail
        refine HAW1.out.mono ?_
        rintro e w2 ⟨rfl, hb2, -, -⟩
        have HB2 := Lib.hid (HB1.out.trans (hb2.mono HB1.out.size))
        clear hb2
        go_wp2_with fail
        go_ret
        exact ⟨rfl, HB2.out⟩
      · have t1 : decide ((a.length : Int) > 100) = false := decide_eq_false (by omega)
        have t2 : decide ((100 : Int) < (a.length : Int)) = false := decide_eq_false (by omega)
        go_enter Tryz.func5, Tryz.ntmps5
        go_wp2_with fail
        refine HAW.out.mono ?_
        rintro e w1 ⟨rfl, hb1, hE1, hR1⟩
        have HB1 := Lib.hid hb1
        have HAW1 := Lib.hid (cawake_any w1 hE1 (Nat.le_trans h3 hb1.size) hR1)
        clear hb1 hE1 hR1 HAW
        go_wp2_with fail
        refine HAW1.out.mono ?_
        rintro e w2 ⟨rfl, hb2, -, -⟩
        have HB2 := Lib.hid (HB1.out.trans (hb2.mono HB1.out.size))
        clear hb2
        go_wp2_with fail
        go_ret
        exact ⟨rfl, HB2.out⟩
  have ha100 : a.length ≤ 100 := by omega
  have hb100 : b.length ≤ 100 := by omega
  have t1 : decide ((a.length : Int) > 100) = false := decide_eq_false (by omega)
  have t2 : decide ((100 : Int) < (a.length : Int)) = false := decide_eq_false (by omega)
  have t3 : decide ((b.length : Int) > 100) = false := decide_eq_false (by omega)
  have t4 : decide ((100 : Int) < (b.length : Int)) = false := decide_eq_false (by omega)
  have HA100 := Lib.hid ha100
  have HB100 := Lib.hid hb100
  clear hbig ha100 hb100
  go_enter Tryz.func5, Tryz.ntmps5
  go_wp2_with fail
  refine HAW.out.mono ?_
  rintro e w1 ⟨rfl, hb1, -, -⟩
  have HB1 := Lib.hid hb1
  have hbe : Below w1.heap.size w1 (w1.alloc (.cells #[] 42)) := (Below.refl _ _).alloc (Nat.le_refl _) _
  have HOE := Lib.hid (OwnP.empty w1 w1.heap.size (Nat.le_refl _))
  have HBE := Lib.hid hbe
  have HAE := Lib.hid ((HA.out.to (Stands.below hb1)).to (Stands.below hbe))
  have HL1 : Hid (([] : List Cp.Pb).length + a.length ≤ 1000000000) := Lib.hid (by have := HA100.out; simp; omega)
  have HSE : Hid (w1.heap.size ≤ (w1.alloc (.cells #[] 42)).heap.size) := Lib.hid hbe.size
  clear hb1 hbe HAW
  go_wp2_with (first | (at_builtin; refine wpList_append_pbs rfl _ _ rfl w1.heap.size (.slice (some ⟨w1.heap.size, 0, none⟩) 0 0) [] rfl HOE.out (.slice aa a.length ac) P a rfl HAE.out HL1.out HSE.out HNA.out ?_; intro v2 w2 hown2 hgrow2 _; obtain ⟨ia, il, ic, hiv, HIN⟩ := OwnP.form hown2; subst hiv; have HI2 := Lib.hid hown2; have HB2 := Lib.hid (HOE.out.grown HBE.out hgrow2 HSE.out); clear hown2 hgrow2) | fail)
  obtain ⟨W3, hW3⟩ : ∃ W3, W3 = w2.alloc (.cells #[.slice ia il ic, .slice ba b.length bc] 37) := ⟨_, rfl⟩
  have hb3 : Below w2.heap.size w2 W3 := by rw [hW3]; exact (Below.refl _ _).alloc (Nat.le_refl _) _
  have hb12 : Below w1.heap.size w1 W3 := HB2.out.trans (hb3.mono HB2.out.size)
  have HI3 : Hid (OwnP W3 w1.heap.size (.slice ia il ic) a) := Lib.hid (HI2.out.keep hb3)
  have HA3 : Hid (Pbs W3 P (.slice aa a.length ac) a) := Lib.hid ((HA.out.to (Stands.below HB1.out)).to (Stands.below hb12))
  have HB3 : Hid (Pbs W3 P (.slice ba b.length bc) b) := Lib.hid ((HB.out.to (Stands.below HB1.out)).to (Stands.below hb12))
  have HPR : Hid (Prp W3 (.slice (some ⟨w2.heap.size, 0, none⟩) 2 2) [a, b]) := by
    refine Lib.hid ⟨_, _, rfl, fun i l hi => ?_⟩
    match i, hi with
    | 0, hi =>
      simp at hi
      subst hi
      exact ⟨_, 0, _, _, rfl, by rw [hW3]; simp, by rw [hW3]; exact cell_at_new w2 #[.slice ia il ic, .slice ba b.length bc] _ (0, 0) 0 _ rfl, HI3.out.nilCap, HI3.out.pbs⟩
    | 1, hi =>
      simp at hi
      subst hi
      exact ⟨_, 0, _, _, rfl, by rw [hW3]; simp, by rw [hW3]; exact cell_at_new w2 #[.slice ia il ic, .slice ba b.length bc] _ (0, 0) 1 _ rfl, HNB.out, HB3.out⟩
    | i + 2, hi => simp at hi
  have hfl : [a, b].flatten = a ++ b := by simp
  have HSO := Lib.hid (sortedP_any _ _ _ HPR.out (by simp) (by rw [hfl, List.length_append]; have := HA100.out; have := HB100.out; omega))
  rw [hfl] at HSO
  have HBW3 : Hid (Below w.heap.size w W3) := Lib.hid (HB1.out.trans (hb12.mono HB1.out.size))
  have HWI : Hid (∀ g, (Value.slice ia il ic).ownBlock = some g → g < W3.heap.size) := Lib.hid (fun g hg => (HI3.out.lt g hg).2)
  rw [← hW3]
  clear hW3 hb3 hb12 HPR hfl HI2 HB2 HOE HBE HAE HL1 HSE
  refine HSO.out.mono ?_
  rintro e w4 ⟨v4, rfl, hh4, hb4⟩
  obtain ⟨la, ll, lc, hlv, HLN⟩ := HasP.form hh4
  subst hlv
  have hbe : Below w4.heap.size w4 (w4.alloc (.cells #[] 42)) := (Below.refl _ _).alloc (Nat.le_refl _) _
  have hbw : Below W3.heap.size W3 (w4.alloc (.cells #[] 42)) := hb4.trans (hbe.mono hb4.size)
  have HL4 := Lib.hid (hh4.keep hbe)
  have HI4 := Lib.hid (HI3.out.keep hbw)
  have HA4 := Lib.hid (HA3.out.to (Stands.below hbw))
  have HB4 := Lib.hid (HB3.out.to (Stands.below hbw))
  have HOE := Lib.hid (OwnP.empty w4 w4.heap.size (Nat.le_refl _))
  have HBE := Lib.hid hbe
  have HBW4 := Lib.hid (HBW3.out.trans (hbw.mono HBW3.out.size))
  have HBL4 := Lib.hid hbw
  have HL1 : Hid (([] : List Cp.Pb).length + a.length ≤ 1000000000) := Lib.hid (by have := HA100.out; simp; omega)
  have HL2 : Hid (([] ++ a).length + b.length ≤ 1000000000) := Lib.hid (by have := HA100.out; have := HB100.out; simp; omega)
  have HSE : Hid (w4.heap.size ≤ (w4.alloc (.cells #[] 42)).heap.size) := Lib.hid hbe.size
  have HLA := Lib.hid hh4
  have HB34 := Lib.hid hb4
  clear hh4 hb4 hbe hbw HSO
  go_wp2_with (first
      | (at_builtin; refine wpList_append_pbs rfl _ _ rfl w4.heap.size (.slice (some ⟨w4.heap.size, 0, none⟩) 0 0) [] rfl HOE.out (.slice aa a.length ac) P a rfl HA4.out HL1.out HSE.out HNA.out ?_; intro v5 w5 hown5 hgrow5 _; obtain ⟨ja, jl, jc, hjv, HJN⟩ := OwnP.form hown5; subst hjv; have HJ5 := Lib.hid hown5; have HB5 := Lib.hid (HOE.out.grown HBE.out hgrow5 HSE.out); have HGR5 := Lib.hid hgrow5; clear hown5 hgrow5)
      | (at_builtin; have hs5 := HB5.out.size; refine wpList_append_pbs rfl _ _ rfl w4.heap.size (.slice ja jl jc) ([] ++ a) rfl HJ5.out (.slice ba b.length bc) P b rfl (HB3.out.to (Stands.below (HB34.out.trans (HB5.out.mono HB34.out.size)))) HL2.out hs5 HNB.out ?_; intro v6 w6 hown6 hgrow6 _; obtain ⟨ka, kl, kc, hkv, HKN⟩ := OwnP.form hown6; subst hkv; have HK6 := Lib.hid hown6; have HB6 := Lib.hid (HJ5.out.grown HB5.out hgrow6 hs5); clear hown6 hgrow6)
      | fail)
  have hlen : (Cp.sorted (a ++ b)).length ≤ 200 := by
    have := Cp.fold_len (a ++ b) []
    have h1 := HA100.out
    have h2 := HB100.out
    rw [List.length_append] at this
    unfold Cp.sorted
    simp only [List.length_nil] at this
    omega
  have HLEN := Lib.hid hlen
  have HB36 : Hid (Below W3.heap.size W3 w6) := Lib.hid (HB34.out.trans (HB6.out.mono HB34.out.size))
  have HRS := Lib.hid (rsorted_any (.slice ka kl kc) (a ++ b) w6 _ (show Pbs w6 _ (.slice ka kl kc) (a ++ b) from HK6.out.pbs) (by rw [List.length_append]; have := HA100.out; have := HB100.out; omega))
  clear hlen HL4 HI4 HA4 HB4 HOE HBE HBL4 HBW4 HL1 HL2 HSE HJ5 HB5 HGR5
  refine HRS.out.mono ?_
  rintro e w7 ⟨v7, rfl, ho7, hb7⟩
  obtain ⟨ma, ml, mc, hmv, HMN⟩ := OwnP.form ho7
  subst hmv
  have HB47 := Lib.hid (HB6.out.trans (hb7.mono HB6.out.size))
  have HB37 : Hid (Below W3.heap.size W3 w7) := Lib.hid (HB36.out.trans (hb7.mono HB36.out.size))
  have HSA := Lib.hid (rsame_any (.slice la ll lc) (.slice ma ml mc) _ _ w7 _ _ (by have := HLEN.out; omega) ((HLA.out.keep HB47.out).pbs) ho7.pbs)
  rw [decide_eq_true (show Cp.sorted (a ++ b) = Cp.sorted (a ++ b) from rfl)] at HSA
  clear ho7 hb7 HRS HB36 HK6 HB6
  go_wp2_with fail
  refine HSA.out.mono ?_
  rintro e w8 ⟨rfl, n8, rfl⟩
  have HB38 : Hid (Below W3.heap.size W3 (w7.drewN n8)) := Lib.hid (Below.drewN HB37.out n8)
  have HSB := Lib.hid (rsame_any (.slice ia il ic) (.slice aa a.length ac) a a (w7.drewN n8) _ _ (by have := HA100.out; omega) (HI3.out.keep HB38.out).pbs (HA3.out.to (Stands.below HB38.out)))
  rw [decide_eq_true (show a = a from rfl)] at HSB
  clear HSA
  go_wp2_with fail
  refine HSB.out.mono ?_
  rintro e w9 ⟨rfl, n9, rfl⟩
  obtain ⟨W9, hW9⟩ : ∃ W9, W9 = (w7.drewN n8).drewN n9 := ⟨_, rfl⟩
  have HB39 : Hid (Below W3.heap.size W3 W9) := by rw [hW9]; exact Lib.hid (Below.drewN HB38.out n9)
  have HB49 : Hid (Below w4.heap.size w4 W9) := by rw [hW9]; exact Lib.hid (Below.drewN (Below.drewN HB47.out n8) n9)
  rw [← hW9]
  clear hW9 HSB HB38 HB37 HB47
  have HL9 := Lib.hid (HLA.out.keep HB49.out)
  have HFIN : Hid (∀ W, Below W3.heap.size W3 W → Calls Tryz.prog 18 #[.slice ia il ic, .slice aa a.length ac] W fun e w' => e = .returned (.bool true) ∧ ∃ n, w' = W.drewN n) := by
    refine Lib.hid (fun W hb => ?_)
    have h9 := rsame_any (.slice ia il ic) (.slice aa a.length ac) a a W _ _ (by have := HA100.out; omega) (HI3.out.keep hb).pbs (HA3.out.to (Stands.below hb))
    rw [decide_eq_true (show a = a from rfl)] at h9
    exact h9
  go_wp2_with fail
  rcases HL9.out with ⟨h1, h2⟩ | ⟨g, cap, c, h1, hg, hgs, hr⟩
  · simp only [Value.slice.injEq] at h1
    obtain ⟨rfl, rfl, rfl⟩ := h1
    clear h2
    go_loopg [7, 45] 1 (fun m s7 s45 wq => m = 1 ∧ s45 = .int .i64 0 ∧ wq = W9)
    case atStart => exact ⟨rfl, rfl, rfl⟩
    case round =>
      obtain ⟨hk9, rfl, hw9⟩ := hrel
      subst hw9
      clear hk9
      go_wp2_with fail
      refine (HFIN.out wr HB39.out).mono ?_
      rintro e w10 ⟨rfl, n10, rfl⟩
      have HE := Lib.hid (HBW3.out.trans ((Below.drewN HB39.out n10).mono HBW3.out.size))
      go_wp2_with fail
      go_ret
      exact ⟨rfl, HE.out⟩
  · simp only [Value.slice.injEq] at h1
    obtain ⟨rfl, rfl, rfl⟩ := h1
    have HG := Lib.hid hg
    have HR9 := Lib.hid hr
    clear hr hgs hg
    go_loopg [7, 45] (Cp.sorted (a ++ b)).length (fun m s7 s45 wq => ∃ (i : Nat) (d : List Cp.Pb), i ≤ (Cp.sorted (a ++ b)).length ∧ m = (Cp.sorted (a ++ b)).length - i ∧ s45 = .int .i64 (i : Nat) ∧ d.length = (Cp.sorted (a ++ b)).length ∧ RowP wq g cap d ∧ Below W3.heap.size W3 wq)
    case atStart => exact ⟨0, _, Nat.zero_le _, rfl, rfl, rfl, HR9.out, HB39.out⟩
    case round =>
      obtain ⟨i, d, hi, hm, rfl, hdl, hr, hbw⟩ := hrel
      have HM := Lib.hid hm
      have HDL := Lib.hid hdl
      have HRR := Lib.hid hr
      have HBW := Lib.hid hbw
      have hi0 : (0 : Int) ≤ (i : Int) := Int.natCast_nonneg _
      clear hm hbw
      by_cases hin : i < (Cp.sorted (a ++ b)).length
      · have hin1 : (i : Int) < ((Cp.sorted (a ++ b)).length : Int) := by omega
        obtain ⟨p, hp⟩ : ∃ p, d[i]? = some p := ⟨_, List.getElem?_eq_getElem (by omega)⟩
        obtain ⟨c0, c1⟩ := hr.at hp
        have f1 := hr.frozen (i * 2 + 1)
        have HPI := Lib.hid hp
        clear hp hr hdl
        have hlen := HLEN.out
        go_wp2_with fail
        go_roundg ((Cp.sorted (a ++ b)).length - (i + 1))
        case measure => rw [HM.out]; omega
        case rel =>
          refine ⟨i + 1, _, by omega, rfl, by simp, ?_, HRR.out.setAt HPI.out _, Below.setc HBW.out _ HG.out _⟩
          rw [List.length_set]
          exact HDL.out
      · have hin1 : ((Cp.sorted (a ++ b)).length : Int) ≤ (i : Int) := by omega
        clear hr hdl
        go_wp2_with fail
        refine (HFIN.out wr HBW.out).mono ?_
        rintro e w10 ⟨rfl, n10, rfl⟩
        have HE := Lib.hid (HBW3.out.trans ((Below.drewN HBW.out n10).mono HBW3.out.size))
        go_wp2_with fail
        go_ret
        exact ⟨rfl, HE.out⟩
end Go.Proofs.YtmgoebfcfgilfaaGreatDoor
namespace Go.Proofs.YtmgoebfcfgilfaaGreatDoor
set_option linter.unusedSimpArgs false
set_option linter.unusedVariables false
open Go Go.RowKit
open Go.ChangeShapes Go.WideShapes Go.ChangeAt
open Go.ChangeMaps (open_string shut_string)

theorem own : ownKnob Tryz.prog.godebug = none := by kernel_rfl
theorem laidOut : laidOutB Tryz.prog = true := by kernel_rfl
/-- The list that each row bears. -/
abbrev laidList : List (String × DataW Unit) := [("math/bits.deBruijn32tab", Rows.laid_math_bits_deBruijn32tab), ("math/bits.deBruijn64tab", Rows.laid_math_bits_deBruijn64tab), ("internal/strconv.uint64pow10", Rows.laid_internal_strconv_uint64pow10), ("unicode/utf8.acceptRanges", Rows.laid_unicode_utf8_acceptRanges), ("strconv.ErrRange", Rows.laid_strconv_ErrRange), ("strconv.ErrSyntax", Rows.laid_strconv_ErrSyntax), ("unicode/utf8.first", Rows.laid_unicode_utf8_first)]
theorem starES : "*" ++ "errors.errorString" = "*errors.errorString" := by decide
theorem rowES (u : TypeId) (h : Tryz.prog.typeName? 3 u = some "*errors.errorString") : u = 324 :=
  typeName_ptr_named (nm := "errors.errorString") (by rw [starES]; kernel_rfl) (by kernel_rfl) (by decide) u (by rw [starES]; exact h)
theorem cellsES : Tryz.prog.cellsOf 326 = 1 := by kernel_rfl
theorem cellsStr : Tryz.prog.cellsOf 9 = 1 := by kernel_rfl
set_option maxRecDepth 100000 in
theorem env_of {W : World} (hL : laidMet Tryz.prog laidList W) (hS : W.ShapedOpen Tryz.prog) : Env W ∧ 3 ≤ W.heap.size ∧ RangeVar W := by
  have hm : ∃ m, W.cell? ⟨2, 0, none⟩ = some (.int .i64 m) := cell_of_shapedOpen_int (zero := #[.int .i64 0]) (t := 3) hS (of_decide_eq_true (by kernel_rfl)) (by kernel_rfl) rfl (by kernel_rfl) (by kernel_rfl) Tryz.underlying3
  have ht : Lib.Utf8Tabs 0 1 W :=
    utf8Tabs_of_readsT (U8Types.of260 Tryz.lays260) ⟨by kernel_rfl, by kernel_rfl, by kernel_rfl, by kernel_rfl, by kernel_rfl, by kernel_rfl, by kernel_rfl⟩ (Lib.laidMet.reads hL (.tail _ (.tail _ (.tail _ (.tail _ (.tail _ (.tail _ (.head _)))))))) (Lib.laidMet.reads hL (.tail _ (.tail _ (.tail _ (.head _)))))
  obtain ⟨a0, s0, hv0, -, -, -⟩ := laid_sentinel hL.tail.tail.tail.tail (g := 4) (by kernel_rfl) (by kernel_rfl) Tryz.underlying188 rowES Tryz.underlying324 Tryz.underlying326 rfl rfl Tryz.underlying9 cellsES cellsStr
  refine ⟨⟨ht, hm⟩, ?_, ?_⟩
  · obtain ⟨m, h⟩ := hm
    have := cell_lt h
    exact this
  · have h0 := World.var?_cell (P := Tryz.prog) (n := "strconv.ErrRange") (g := 4) (by kernel_rfl) hv0 0
    exact ⟨_, _, by simpa using h0⟩
abbrev synS : ByteArray := { data := #[105, 110, 118, 97, 108, 105, 100, 32, 115, 121, 110, 116, 97, 120] }
abbrev rngS : ByteArray := { data := #[118, 97, 108, 117, 101, 32, 111, 117, 116, 32, 111, 102, 32, 114, 97, 110, 103, 101] }
/-- So many blocks has the settled world. -/
noncomputable def low : Nat := (World.holding Tryz.prog default ⟨#[], #[], []⟩).heap.size
def tab32 : List Int := [0, 1, 28, 2, 29, 14, 24, 3, 30, 22, 20, 15, 25, 17, 4, 8, 31, 27, 13, 23, 21, 19, 16, 7, 26, 12, 18, 6, 11, 5, 10, 9]
def tab64 : List Int := [0, 1, 56, 2, 57, 49, 28, 3, 61, 58, 42, 50, 38, 29, 17, 4, 62, 47, 59, 36, 45, 43, 51, 22, 53, 39, 33, 30, 24, 18, 12, 5, 63, 55, 48, 27, 60, 41, 37, 16, 46, 35, 44, 21, 52, 32, 23, 11, 54, 26, 40, 15, 34, 20, 31, 10, 25, 14, 19, 9, 13, 8, 7, 6]
/-- The settled world, the variables holding what their initialisers lay. -/
noncomputable def laidWorld (os : Os) : World :=
  let w0 := World.holding Tryz.prog os ⟨#[.cells #[.string synS] 326, .cells #[.string rngS] 326], #[], []⟩
  let put (h : Array Obj) (g : Nat) (cs : Array Value) : Array Obj := h.modify g fun
    | .cells _ t frozen => .cells cs t frozen
    | o => o
  let h1 := put w0.heap 3 #[.iface 324 (.pointer (some ⟨low, 0, none⟩))]
  let h2 := put h1 4 #[.iface 324 (.pointer (some ⟨low + 1, 0, none⟩))]
  let h3 := put h2 5 (Lib.pow10Tab.map fun z => Value.int .u64 z).toArray
  let h4 := put h3 6 (tab32.map fun z => Value.int .u8 z).toArray
  let h5 := put h4 7 (tab64.map fun z => Value.int .u8 z).toArray
  let h6 := put h5 0 (Lib.firstTab.map fun z => Value.int .u8 z).toArray
  let h7 := put h6 1 ((List.range 16).flatMap fun i => [Value.int .u8 (Lib.accLo i), Value.int .u8 (Lib.accHi i)]).toArray
  { w0 with heap := h7 }
theorem laid_met (os : Os) (args : Array Value) : laidMet Tryz.prog laidList ((laidWorld os).forCall (fun _ _ => 0) ⟨#[], args, []⟩).memory :=
  (LaidIn.of_run (l := laidList) [3, 4, 5, 6, 7, 0, 1, low, low + 1] 8 (by kernel_rfl) (by kernel_rfl) (by kernel_rfl) (by kernel_rfl)).met
/-! Problems that came in. -/
def pbTypes : List TypeId := [37, 42, 3]
theorem pbNice : niceB Tryz.prog pbTypes = true := by kernel_rfl
theorem pbFields : ∃ fs : Array Field, Tryz.prog.underlying 42 = some (.struct fs) ∧ fs.toList.map (·.type) = [3, 3] := ⟨_, Tryz.underlying42, by kernel_rfl⟩
theorem cellsP : Tryz.prog.cellsOf 42 = 2 := by kernel_rfl
theorem pb_of (d : D) (h : HasT Tryz.prog 42 d) : ∃ p : Cp.Pb, d = Cp.d p := by
  obtain ⟨fs, hu, hf⟩ := pbFields
  obtain ⟨ds, rfl, hts⟩ := HasT.obj hu h
  rw [hf] at hts
  obtain ⟨d1, r1, rfl, h1, hts⟩ := hts.cons
  obtain ⟨d2, r2, rfl, h2, hts⟩ := hts.cons
  obtain rfl := hts.nil
  obtain ⟨n1, rfl, _⟩ := h1.int Tryz.underlying3
  obtain ⟨n2, rfl, _⟩ := h2.int Tryz.underlying3
  exact ⟨(n1, n2), rfl⟩
theorem pbs_of : ∀ ds : List D, (∀ d ∈ ds, HasT Tryz.prog 42 d) → ∃ l : List Cp.Pb, ds = l.map Cp.d
  | [], _ => ⟨[], rfl⟩
  | d :: r, h => by
    obtain ⟨p, rfl⟩ := pb_of d (h d List.mem_cons_self)
    obtain ⟨l, rfl⟩ := pbs_of r fun x hx => h x (List.mem_cons_of_mem _ hx)
    exact ⟨p :: l, rfl⟩
set_option maxRecDepth 100000 in
theorem pbs_arg {H : Type} {enc : TypeId × Value → H} {W : World} {v : Value} {x : DataW H} {ps : List MemPlace} {sp : Nat → Bool} {r : Reach} {base : Nat} (hv : Value.okWide Tryz.prog W r base 37 v) (h : DataW.Trod enc Tryz.prog W 0 sp true 37 v x ps) :
    ∃ l : List Cp.Pb, Pbs W (fun _ => True) v l ∧ NilCap v := by
  obtain ⟨a0, len, cap, rfl⟩ := okWide_slice Tryz.underlying37 hv
  obtain ⟨d, hr, ht⟩ := open_arg pbNice (List.Mem.head _) h
  obtain ⟨ds, rfl, -, hte⟩ := HasT.seq Tryz.underlying37 ht
  obtain ⟨l, rfl⟩ := pbs_of ds hte.mem
  rw [cellsP] at hr
  refine ⟨l, hr, fun n c e => ?_⟩
  obtain ⟨fuel, hf⟩ := h
  rcases DataW.trod_slice Tryz.underlying37 hf with ⟨h1, -⟩ | ⟨a, len', cap', elems, rest, n', e2, h1, -⟩
  · simp [Value.cells] at h1
    simp at e
    omega
  · simp [Value.cells] at h1
    simp at e
    rw [e.1] at h1
    simp at h1
end Go.Proofs.YtmgoebfcfgilfaaGreatDoor
