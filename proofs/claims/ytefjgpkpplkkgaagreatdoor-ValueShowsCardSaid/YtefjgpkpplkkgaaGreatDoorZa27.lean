/-
  'ValueShows', walked.
-/
import Derived.Test.YtefjgpkpplkkgaaGreatDoorZa26
import Derived.Test.YtefjgpkpplkkgaaGreatDoorZa19
import Derived.Test.YtefjgpkpplkkgaaGreatDoorZa22
import Derived.Test.YtefjgpkpplkkgaaGreatDoorZa25
import Derived.Test.YtefjgpkpplkkgaaGreatDoorZa5
namespace Go.Proofs.YtefjgpkpplkkgaaGreatDoor
set_option linter.unusedSimpArgs false
set_option linter.unusedVariables false
open Go Go.RowKit

set_option maxHeartbeats 4000000 in
set_option maxRecDepth 100000 in
theorem vshows_any (z : Vl.Z) (hfz : z.fits) (a1 a2 : Option Addr) (c1 c2 : Nat) (w : World) (hE : Env w) (h3 : 3 ≤ w.heap.size)
    (hZ : Reads w (fun _ => True) z.d (zcells z a1 a2 c1 c2).toList) :
    Calls Tryz.prog 3 #[.agg (zcells z a1 a2 c1 c2)] w (fun e w' => e = .returned (.bool true) ∧ Below w.heap.size w w') := by
  obtain ⟨wb, hwb⟩ : ∃ q, q = w.alloc (.cells (zcells z a1 a2 c1 c2) 25) := ⟨_, rfl⟩
  have hbb : Below w.heap.size w wb := by rw [hwb]; exact (Below.refl _ _).alloc (Nat.le_refl _) _
  have hxb : wb.heap[w.heap.size]? = some (.cells (zcells z a1 a2 c1 c2) 25 (0, 0)) := by rw [hwb]; exact heap_at_new _ _
  have hsb : wb.heap.size = w.heap.size + 1 := by rw [hwb]; simp
  have HBB := Lib.hid hbb
  have HRX := Lib.hid (hZ.to (Stands.below hbb))
  have hC0 := vAwake_any wb (hE.below hbb) (by omega)
  have HXB := Lib.hid hxb
  have HFX := Lib.hid hfz
  rw [hwb] at hC0
  unfold zcells at hC0 hwb ⊢
  have HC0 := Lib.hid hC0
  have HWB := Lib.hid hwb
  clear hC0 hwb hbb hxb hE hZ hfz
  go_enter Tryz.func3, Tryz.ntmps3
  go_wp2_with fail
  refine HC0.out.mono ?_
  rw [← HWB.out]
  rintro e w1 ⟨rfl, hb1, hE1⟩
  have HB1 := Lib.hid (HBB.out.trans (hb1.mono HBB.out.size))
  have HE1 := Lib.hid hE1
  have h31 : 3 ≤ w1.heap.size := by have := hb1.size; omega
  have HRX1 := Lib.hid (HRX.out.to (Stands.below hb1))
  have HX1 : Hid (w1.heap[w.heap.size]? = _) := Lib.hid ((hb1.block w.heap.size (by omega)).trans HXB.out)
  have hs1 := hb1.size
  have HFEW1 := Lib.hid (few_any z HFX.out a1 a2 c1 c2 w1 HRX1.out)
  unfold zcells at HFEW1
  have k0 := blk_cell HX1.out 0 (.int .i64 z.kind) rfl
  have k1 := blk_cell HX1.out 1 (.string ⟨z.text.toArray⟩) rfl
  have k2 := blk_cell HX1.out 2 (.slice a1 z.items.length c1) rfl
  have k3 := blk_cell HX1.out 3 (.slice a2 z.fields.length c2) rfl
  have k4 := blk_cell HX1.out 4 (.int .i64 z.at_) rfl
  clear hb1 hE1 HC0
  go_wp2_with fail
  refine HFEW1.out.mono ?_
  rintro e w2 ⟨f1, rfl, hb2, hf1⟩
  have HB2 := Lib.hid (HB1.out.trans (hb2.mono HB1.out.size))
  have HE2 := Lib.hid (HE1.out.below hb2)
  have h32 : 3 ≤ w2.heap.size := by have := hb2.size; omega
  have HRX2 := Lib.hid (HRX1.out.to (Stands.below hb2))
  have HX2 : Hid (w2.heap[w.heap.size]? = _) := Lib.hid ((hb2.block w.heap.size (by omega)).trans HX1.out)
  have hs2 := hb2.size
  have HF1 := Lib.hid hf1
  clear hb2 hf1 k0 k1 k2 k3 k4 HFEW1
  cases f1
  · go_wp2_with fail
    refine (vAwake_any w2 HE2.out h32).mono ?_
    rintro e w3 ⟨rfl, hb3, hE3⟩
    have HB3 := Lib.hid (HB2.out.trans (hb3.mono HB2.out.size))
    clear hb3 hE3
    go_wp2_with fail
    go_ret
    exact ⟨rfl, HB3.out⟩
  have hvx := (HF1.out (by trivial)).1
  have hcx := (HF1.out (by trivial)).2
  have hnx := Vl.Z.n_cost z
  have HSH := Lib.hid (vshow_any z a1 a2 c1 c2 w2 HE2.out h32 (by omega) HRX2.out)
  unfold zcells at HSH
  have k0 := blk_cell HX2.out 0 (.int .i64 z.kind) rfl
  have k1 := blk_cell HX2.out 1 (.string ⟨z.text.toArray⟩) rfl
  have k2 := blk_cell HX2.out 2 (.slice a1 z.items.length c1) rfl
  have k3 := blk_cell HX2.out 3 (.slice a2 z.fields.length c2) rfl
  have k4 := blk_cell HX2.out 4 (.int .i64 z.at_) rfl
  cases hg : z.good 0
  · have hbad : (Vl.shown z).bad = true := Vl.shown_bad hg
    have HG := Lib.hid hg
    have HBAD := Lib.hid hbad
    clear hg hbad
    go_wp2_with fail
    refine HSH.out.mono ?_
    rintro e w3 ⟨hb3, hres⟩
    rw [HBAD.out] at hres
    rcases hres with ⟨h, -⟩ | ⟨-, rfl⟩
    · cases h
    have HB3 := Lib.hid (HB2.out.trans (hb3.mono HB2.out.size))
    have HX3 : Hid (w3.heap[w.heap.size]? = _) := Lib.hid ((hb3.block w.heap.size (by omega)).trans HX2.out)
    have HGD := Lib.hid (good_all z.n z (Nat.le_refl _) (by omega) 0 0 (by omega) rfl a1 a2 c1 c2 w3 (fun _ => True) (HRX2.out.to (Stands.below hb3)))
    rw [HG.out] at HGD
    clear hb3 k0 k1 k2 k3 k4
    have k0 := blk_cell HX3.out 0 (.int .i64 z.kind) rfl
    have k1 := blk_cell HX3.out 1 (.string ⟨z.text.toArray⟩) rfl
    have k2 := blk_cell HX3.out 2 (.slice a1 z.items.length c1) rfl
    have k3 := blk_cell HX3.out 3 (.slice a2 z.fields.length c2) rfl
    have k4 := blk_cell HX3.out 4 (.int .i64 z.at_) rfl
    go_wp2_with fail
    refine HGD.out.mono ?_
    rintro e w4 ⟨rfl, hb4⟩
    have HB4 := Lib.hid (HB3.out.trans (hb4.mono HB3.out.size))
    clear hb4
    go_wp2_with fail
    go_ret
    exact ⟨rfl, HB4.out⟩
  have hsh : Vl.shown z = ⟨z.str, false⟩ := Vl.shown_good hg
  have HG := Lib.hid hg
  have HSHN := Lib.hid hsh
  have hstr := Vl.str_le z
  clear hg hsh
  go_wp2_with fail
  refine HSH.out.mono ?_
  rintro e w3 ⟨hb3, hres⟩
  rw [HSHN.out] at hres
  rcases hres with ⟨-, rfl⟩ | ⟨h, -⟩
  rotate_left
  · cases h
  have HB3 := Lib.hid (HB2.out.trans (hb3.mono HB2.out.size))
  have HE3 := Lib.hid (HE2.out.below hb3)
  have h33 : 3 ≤ w3.heap.size := by have := hb3.size; omega
  have hs3 := hb3.size
  have HRX3 := Lib.hid (HRX2.out.to (Stands.below hb3))
  have HX3 : Hid (w3.heap[w.heap.size]? = _) := Lib.hid ((hb3.block w.heap.size (by omega)).trans HX2.out)
  have HGD := Lib.hid (good_all z.n z (Nat.le_refl _) (by omega) 0 0 (by omega) rfl a1 a2 c1 c2 w3 (fun _ => True) HRX3.out)
  rw [HG.out] at HGD
  clear hb3 k0 k1 k2 k3 k4
  have k0 := blk_cell HX3.out 0 (.int .i64 z.kind) rfl
  have k1 := blk_cell HX3.out 1 (.string ⟨z.text.toArray⟩) rfl
  have k2 := blk_cell HX3.out 2 (.slice a1 z.items.length c1) rfl
  have k3 := blk_cell HX3.out 3 (.slice a2 z.fields.length c2) rfl
  have k4 := blk_cell HX3.out 4 (.int .i64 z.at_) rfl
  obtain ⟨T, hT⟩ : ∃ T : ByteArray, T = ⟨z.str.toArray⟩ := ⟨_, rfl⟩
  have HT := Lib.hid (show T.data.toList = z.str by rw [hT])
  have hTs : T.size ≤ 1500000 := by rw [hT]; show z.str.length ≤ _; omega
  rw [← hT]
  have HT2 := Lib.hid hT
  clear hT
  go_wp2_with fail
  refine HGD.out.mono ?_
  rintro e w4 ⟨rfl, hb4⟩
  have HB4 := Lib.hid (HB3.out.trans (hb4.mono HB3.out.size))
  have HE4 := Lib.hid (HE3.out.below hb4)
  have h34 : 3 ≤ w4.heap.size := by have := hb4.size; omega
  have hs4 := hb4.size
  have HRX4 := Lib.hid (HRX3.out.to (Stands.below hb4))
  have HX4 : Hid (w4.heap[w.heap.size]? = _) := Lib.hid ((hb4.block w.heap.size (by omega)).trans HX3.out)
  have HSW := Lib.hid (rshow_all z.n z (Nat.le_refl _) (by omega) 0 HG.out a1 a2 c1 c2 w4 (fun _ => True) HRX4.out)
  rw [← HT2.out] at HSW
  clear hb4 k0 k1 k2 k3 k4 HGD HSH
  have k0 := blk_cell HX4.out 0 (.int .i64 z.kind) rfl
  have k1 := blk_cell HX4.out 1 (.string ⟨z.text.toArray⟩) rfl
  have k2 := blk_cell HX4.out 2 (.slice a1 z.items.length c1) rfl
  have k3 := blk_cell HX4.out 3 (.slice a2 z.fields.length c2) rfl
  have k4 := blk_cell HX4.out 4 (.int .i64 z.at_) rfl
  go_wp2_with fail
  refine HSW.out.mono ?_
  rintro e w5 ⟨rfl, hb5⟩
  have HB5 := Lib.hid (HB4.out.trans (hb5.mono HB4.out.size))
  have HE5 := Lib.hid (HE4.out.below hb5)
  have h35 : 3 ≤ w5.heap.size := by have := hb5.size; omega
  have hs5 := hb5.size
  have HRX5 := Lib.hid (HRX4.out.to (Stands.below hb5))
  have HX5 : Hid (w5.heap[w.heap.size]? = _) := Lib.hid ((hb5.block w.heap.size (by omega)).trans HX4.out)
  clear hb5 k0 k1 k2 k3 k4 HSW
  go_wp2_with fail
  refine (vparse_any T false w5 (by omega) HE5.out h35).mono ?_
  rintro e w6 ⟨hb6, -, hres⟩
  have HB6 := Lib.hid (HB5.out.trans (hb6.mono HB5.out.size))
  have hs6 := hb6.size
  have HRX6 := Lib.hid (HRX5.out.to (Stands.below hb6))
  have HX6 : Hid (w6.heap[w.heap.size]? = _) := Lib.hid ((hb6.block w.heap.size (by omega)).trans HX5.out)
  clear hb6
  rw [HT.out] at hres
  cases hL : Lx.lex z.str with
  | err a c =>
    have hc0 := Lx.lex_err hL
    have hpe : (Vl.parse z.str false).1.err = c := Vl.parse_lexerr hL hc0
    rw [hpe] at hres
    rcases hres with ⟨_, _, _, _, _, _, h, _⟩ | ⟨-, rfl⟩
    · exact absurd h hc0
    have HL := Lib.hid hL
    have e0 : ((c : Int) != 0) = true := neT (by omega)
    obtain ⟨wv, hwv⟩ : ∃ q, q = w6.alloc (.cells #[.int .i64 0, .string ⟨#[]⟩, .slice none 0 0, .slice none 0 0, .int .i64 0] 25) := ⟨_, rfl⟩
    have HBV := Lib.hid (show Below w.heap.size w wv by rw [hwv]; exact HB6.out.alloc HB6.out.size _)
    have HC := Lib.hid (refLex_any T wv (by omega))
    rw [hwv] at HC HBV
    clear hwv hpe hL hc0
    go_wp2_with fail
    refine HC.out.mono ?_
    rintro e w7 ⟨v, x, rfl, hb7, -⟩
    rw [sfx_all, HT.out, HL.out]
    have HB7 := Lib.hid (HBV.out.trans (hb7.mono HBV.out.size))
    have e1 : lexC (.err a c) = c := rfl
    rw [e1]
    clear hb7 e1 HC
    go_wp2_with fail
    go_ret
    exact ⟨by first | rfl | (show Ending.returned (Value.bool ((c : Int) == (c : Int))) = _; rw [beq_self_eq_true]), HB7.out⟩
  | ok ts =>
    obtain ⟨hpe, hps⟩ := Vl.shows_lexed HG.out hL
    rw [hpe] at hres
    rcases hres with ⟨y, b1, b2, d1, d2, hy, -, rfl, hRY⟩ | ⟨h, -⟩
    rotate_left
    · exact absurd rfl h
    rw [← hy] at hps
    have HL := Lib.hid hL
    have HRY := Lib.hid (hRY.to (Q := fun _ => True) ⟨Nat.le_refl _, fun k _ _ => ⟨trivial, rfl⟩⟩)
    obtain ⟨-, hyn⟩ := Vl.same_cost y z hps
    have hynl : y.n ≤ 1500000 := by omega
    have hznl : z.n ≤ 1500000 := by omega
    have HPS := Lib.hid hps
    obtain ⟨wv, hwv⟩ : ∃ q, q = w6.alloc (.cells (zcells y b1 b2 d1 d2) 25) := ⟨_, rfl⟩
    have hbv : Below w6.heap.size w6 wv := by rw [hwv]; exact (Below.refl _ _).alloc (Nat.le_refl _) _
    have hyv : wv.heap[w6.heap.size]? = some (.cells (zcells y b1 b2 d1 d2) 25 (0, 0)) := by rw [hwv]; exact heap_at_new _ _
    have hsv : wv.heap.size = w6.heap.size + 1 := by rw [hwv]; simp
    have HYV := Lib.hid hyv
    have HBV := Lib.hid (HB6.out.trans (hbv.mono HB6.out.size))
    have HRXV := Lib.hid (HRX6.out.to (Stands.below hbv))
    have HRYV := Lib.hid (HRY.out.to (Stands.below hbv))
    have HXV : Hid (wv.heap[w.heap.size]? = _) := Lib.hid ((hbv.block w.heap.size (by omega)).trans HX6.out)
    have HC := Lib.hid (refLex_any T wv (by omega))
    have HWV := Lib.hid hwv
    unfold zcells at HWV
    rw [HWV.out] at HC
    clear hwv hbv hpe hL hps hy hRY hyv
    go_wp2_with fail
    refine HC.out.mono ?_
    rw [← HWV.out]
    rintro e w7 ⟨v, x, rfl, hb7, -⟩
    rw [sfx_all, HT.out, HL.out]
    have HB7 := Lib.hid (HBV.out.trans (hb7.mono HBV.out.size))
    have hs7 := hb7.size
    have HRX7 := Lib.hid (HRXV.out.to (Stands.below hb7))
    have HRY7 := Lib.hid (HRYV.out.to (Stands.below hb7))
    have HX7 : Hid (w7.heap[w.heap.size]? = _) := Lib.hid ((hb7.block w.heap.size (by omega)).trans HXV.out)
    have HY7 : Hid (w7.heap[w6.heap.size]? = _) := Lib.hid ((hb7.block w6.heap.size (by omega)).trans HYV.out)
    have e1 : lexC (.ok ts) = 0 := rfl
    rw [e1]
    clear hb7 e1 HC
    have k0 := blk_cell HX7.out 0 (.int .i64 z.kind) rfl
    have k1 := blk_cell HX7.out 1 (.string ⟨z.text.toArray⟩) rfl
    have k2 := blk_cell HX7.out 2 (.slice a1 z.items.length c1) rfl
    have k3 := blk_cell HX7.out 3 (.slice a2 z.fields.length c2) rfl
    have k4 := blk_cell HX7.out 4 (.int .i64 z.at_) rfl
    have m0 := blk_cell HY7.out 0 (.int .i64 y.kind) rfl
    have m1 := blk_cell HY7.out 1 (.string ⟨y.text.toArray⟩) rfl
    have m2 := blk_cell HY7.out 2 (.slice b1 y.items.length d1) rfl
    have m3 := blk_cell HY7.out 3 (.slice b2 y.fields.length d2) rfl
    have m4 := blk_cell HY7.out 4 (.int .i64 y.at_) rfl
    have HA := Lib.hid (same_any 1500000 (by decide) y z hynl b1 b2 a1 a2 d1 d2 c1 c2 w7 (fun _ => True) HRY7.out HRX7.out)
    rw [HPS.out] at HA
    go_wp2_with fail
    refine HA.out.mono ?_
    rintro e w8 ⟨rfl, hb8⟩
    have HB8 := Lib.hid (HB7.out.trans (hb8.mono HB7.out.size))
    have HX8 : Hid (w8.heap[w.heap.size]? = _) := Lib.hid ((hb8.block w.heap.size (by omega)).trans HX7.out)
    have HY8 : Hid (w8.heap[w6.heap.size]? = _) := Lib.hid ((hb8.block w6.heap.size (by omega)).trans HY7.out)
    have HBR := Lib.hid (ref_any 1500000 (by decide) y z hynl b1 b2 a1 a2 d1 d2 c1 c2 w8 (fun _ => True) (HRY7.out.to (Stands.below hb8)) (HRX7.out.to (Stands.below hb8)))
    rw [HPS.out] at HBR
    clear hb8 k0 k1 k2 k3 k4 m0 m1 m2 m3 m4 HA
    have k0 := blk_cell HX8.out 0 (.int .i64 z.kind) rfl
    have k1 := blk_cell HX8.out 1 (.string ⟨z.text.toArray⟩) rfl
    have k2 := blk_cell HX8.out 2 (.slice a1 z.items.length c1) rfl
    have k3 := blk_cell HX8.out 3 (.slice a2 z.fields.length c2) rfl
    have k4 := blk_cell HX8.out 4 (.int .i64 z.at_) rfl
    have m0 := blk_cell HY8.out 0 (.int .i64 y.kind) rfl
    have m1 := blk_cell HY8.out 1 (.string ⟨y.text.toArray⟩) rfl
    have m2 := blk_cell HY8.out 2 (.slice b1 y.items.length d1) rfl
    have m3 := blk_cell HY8.out 3 (.slice b2 y.fields.length d2) rfl
    have m4 := blk_cell HY8.out 4 (.int .i64 y.at_) rfl
    go_wp2_with fail
    refine HBR.out.mono ?_
    rintro e w9 ⟨rfl, hb9⟩
    have HB9 := Lib.hid (HB8.out.trans (hb9.mono HB8.out.size))
    clear hb9
    go_wp2_with fail
    go_ret
    exact ⟨rfl, HB9.out⟩
end Go.Proofs.YtefjgpkpplkkgaaGreatDoor
