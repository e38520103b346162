/-
  'ValueSame', walked.
-/
import Derived.Test.YtabcaljnpahgpaaGreatDoorVk
import Derived.Test.YtabcaljnpahgpaaGreatDoorFw
import Derived.Test.YtabcaljnpahgpaaGreatDoorRsm
import Derived.Test.YtabcaljnpahgpaaGreatDoorVgd
namespace Go.Proofs.YtabcaljnpahgpaaGreatDoor
set_option linter.unusedSimpArgs false
set_option linter.unusedVariables false
open Go Go.RowKit

set_option maxHeartbeats 4000000 in
set_option maxRecDepth 100000 in
theorem vsame_any (x y : Vl.Z) (hfx : x.fits) (hfy : y.fits) (a1 a2 b1 b2 : Option Addr) (c1 c2 d1 d2 : Nat) (w : World) (hE : Env w) (h3 : 3 ≤ w.heap.size)
    (hX : Reads w (fun _ => True) x.d (zcells x a1 a2 c1 c2).toList) (hY : Reads w (fun _ => True) y.d (zcells y b1 b2 d1 d2).toList) :
    Calls Tryz.prog 9 #[.agg (zcells x a1 a2 c1 c2), .agg (zcells y b1 b2 d1 d2)] w (fun e w' => e = .returned (.bool true) ∧ Below w.heap.size w w') := by
  obtain ⟨wb, hwb⟩ : ∃ q, q = (w.alloc (.cells (zcells x a1 a2 c1 c2) 55)).alloc (.cells (zcells y b1 b2 d1 d2) 55) := ⟨_, rfl⟩
  have hbb : Below w.heap.size w wb := by rw [hwb]; exact ((Below.refl _ _).alloc (Nat.le_refl _) _).alloc (by simp) _
  have hxb : wb.heap[w.heap.size]? = some (.cells (zcells x a1 a2 c1 c2) 55 (0, 0)) := by
    rw [hwb, Lib.alloc_old _ _ _ (by simp)]; exact heap_at_new _ _
  have hyb : wb.heap[w.heap.size + 1]? = some (.cells (zcells y b1 b2 d1 d2) 55 (0, 0)) := by
    rw [hwb]
    have := heap_at_new (w.alloc (.cells (zcells x a1 a2 c1 c2) 55)) (.cells (zcells y b1 b2 d1 d2) 55)
    rwa [show (w.alloc (.cells (zcells x a1 a2 c1 c2) 55)).heap.size = w.heap.size + 1 by simp] at this
  have hsb : wb.heap.size = w.heap.size + 2 := by rw [hwb]; simp
  have HBB := Lib.hid hbb
  have HRX := Lib.hid (hX.to (Stands.below hbb))
  have HRY := Lib.hid (hY.to (Stands.below hbb))
  have hC0 := vAwake_any wb (hE.below hbb) (by omega)
  have HXB := Lib.hid hxb
  have HYB := Lib.hid hyb
  have HEB := Lib.hid (hE.below hbb)
  have HFX := Lib.hid hfx
  have HFY := Lib.hid hfy
  rw [hwb] at hC0
  unfold zcells at hC0 hwb ⊢
  have HC0 := Lib.hid hC0
  have HWB := Lib.hid hwb
  clear hC0 hwb hbb hxb hyb hE hX hY hfx hfy
  go_enter Tryz.func9, Tryz.ntmps9
  go_wp2_with fail
  refine HC0.out.mono ?_
  rw [← HWB.out]
  rintro e w1 ⟨rfl, hb1, hE1⟩
  have HB1 := Lib.hid (HBB.out.trans (hb1.mono HBB.out.size))
  have HE1 := Lib.hid hE1
  have h31 : 3 ≤ w1.heap.size := by have := hb1.size; omega
  have HRX1 := Lib.hid (HRX.out.to (Stands.below hb1))
  have HRY1 := Lib.hid (HRY.out.to (Stands.below hb1))
  have HX1 : Hid (w1.heap[w.heap.size]? = _) := Lib.hid ((hb1.block w.heap.size (by omega)).trans HXB.out)
  have HY1 : Hid (w1.heap[w.heap.size + 1]? = _) := Lib.hid ((hb1.block (w.heap.size + 1) (by omega)).trans HYB.out)
  have hs1 := hb1.size
  have HFEW1 := Lib.hid (few_any x HFX.out a1 a2 c1 c2 w1 HRX1.out)
  unfold zcells at HFEW1
  have k0 := blk_cell HX1.out 0 (.int .i64 x.kind) rfl
  have k1 := blk_cell HX1.out 1 (.string ⟨x.text.toArray⟩) rfl
  have k2 := blk_cell HX1.out 2 (.slice a1 x.items.length c1) rfl
  have k3 := blk_cell HX1.out 3 (.slice a2 x.fields.length c2) rfl
  have k4 := blk_cell HX1.out 4 (.int .i64 x.at_) rfl
  clear hb1 hE1 HC0
  go_wp2_with fail
  refine HFEW1.out.mono ?_
  rintro e w2 ⟨f1, rfl, hb2, hf1⟩
  have HB2 := Lib.hid (HB1.out.trans (hb2.mono HB1.out.size))
  have HE2 := Lib.hid (HE1.out.below hb2)
  have h32 : 3 ≤ w2.heap.size := by have := hb2.size; omega
  have HRX2 := Lib.hid (HRX1.out.to (Stands.below hb2))
  have HRY2 := Lib.hid (HRY1.out.to (Stands.below hb2))
  have HX2 : Hid (w2.heap[w.heap.size]? = _) := Lib.hid ((hb2.block w.heap.size (by omega)).trans HX1.out)
  have HY2 : Hid (w2.heap[w.heap.size + 1]? = _) := Lib.hid ((hb2.block (w.heap.size + 1) (by omega)).trans HY1.out)
  have hs2 := hb2.size
  have HF1 := Lib.hid hf1
  clear hb2 hf1 k0 k1 k2 k3 k4 HFEW1
  cases f1
  · go_wp2_with fail
    refine (vAwake_any w2 HE2.out h32).mono ?_
    rintro e w3 ⟨rfl, hb3, hE3⟩
    have HB3 := Lib.hid (HB2.out.trans (hb3.mono HB2.out.size))
    clear hb3 hE3
    go_wp2_with fail
    go_ret
    exact ⟨rfl, HB3.out⟩
  have m0 := blk_cell HY2.out 0 (.int .i64 y.kind) rfl
  have m1 := blk_cell HY2.out 1 (.string ⟨y.text.toArray⟩) rfl
  have m2 := blk_cell HY2.out 2 (.slice b1 y.items.length d1) rfl
  have m3 := blk_cell HY2.out 3 (.slice b2 y.fields.length d2) rfl
  have m4 := blk_cell HY2.out 4 (.int .i64 y.at_) rfl
  have HFEW2 := Lib.hid (few_any y HFY.out b1 b2 d1 d2 w2 HRY2.out)
  unfold zcells at HFEW2
  go_wp2_with fail
  refine HFEW2.out.mono ?_
  rintro e w3 ⟨f2, rfl, hb3, hf2⟩
  have HB3 := Lib.hid (HB2.out.trans (hb3.mono HB2.out.size))
  have HE3 := Lib.hid (HE2.out.below hb3)
  have h33 : 3 ≤ w3.heap.size := by have := hb3.size; omega
  have HRX3 := Lib.hid (HRX2.out.to (Stands.below hb3))
  have HRY3 := Lib.hid (HRY2.out.to (Stands.below hb3))
  have HX3 : Hid (w3.heap[w.heap.size]? = _) := Lib.hid ((hb3.block w.heap.size (by omega)).trans HX2.out)
  have HY3 : Hid (w3.heap[w.heap.size + 1]? = _) := Lib.hid ((hb3.block (w.heap.size + 1) (by omega)).trans HY2.out)
  have HF2 := Lib.hid hf2
  clear hb3 hf2 m0 m1 m2 m3 m4 HFEW2
  cases f2
  · go_wp2_with fail
    refine (vAwake_any w3 HE3.out h33).mono ?_
    rintro e w4 ⟨rfl, hb4, hE4⟩
    have HB4 := Lib.hid (HB3.out.trans (hb4.mono HB3.out.size))
    clear hb4 hE4
    go_wp2_with fail
    go_ret
    exact ⟨rfl, HB4.out⟩
  have hvx : x.n ≤ 800 := by have := HF1.out (by trivial); have := Vl.n_vals x; omega
  have hvy : y.n ≤ 800 := by have := HF2.out (by trivial); have := Vl.n_vals y; omega
  have K0 : ∀ q : Later w3, q.1.cell? ⟨w.heap.size, 0, none⟩ = _ := Later.cell (blk_cell HX3.out 0 (.int .i64 x.kind) rfl)
  have K1 : ∀ q : Later w3, q.1.cell? ⟨w.heap.size, 1, none⟩ = _ := Later.cell (blk_cell HX3.out 1 (.string ⟨x.text.toArray⟩) rfl)
  have K2 : ∀ q : Later w3, q.1.cell? ⟨w.heap.size, 2, none⟩ = _ := Later.cell (blk_cell HX3.out 2 (.slice a1 x.items.length c1) rfl)
  have K3 : ∀ q : Later w3, q.1.cell? ⟨w.heap.size, 3, none⟩ = _ := Later.cell (blk_cell HX3.out 3 (.slice a2 x.fields.length c2) rfl)
  have K4 : ∀ q : Later w3, q.1.cell? ⟨w.heap.size, 4, none⟩ = _ := Later.cell (blk_cell HX3.out 4 (.int .i64 x.at_) rfl)
  have M0 : ∀ q : Later w3, q.1.cell? ⟨w.heap.size + 1, 0, none⟩ = _ := Later.cell (blk_cell HY3.out 0 (.int .i64 y.kind) rfl)
  have M1 : ∀ q : Later w3, q.1.cell? ⟨w.heap.size + 1, 1, none⟩ = _ := Later.cell (blk_cell HY3.out 1 (.string ⟨y.text.toArray⟩) rfl)
  have M2 : ∀ q : Later w3, q.1.cell? ⟨w.heap.size + 1, 2, none⟩ = _ := Later.cell (blk_cell HY3.out 2 (.slice b1 y.items.length d1) rfl)
  have M3 : ∀ q : Later w3, q.1.cell? ⟨w.heap.size + 1, 3, none⟩ = _ := Later.cell (blk_cell HY3.out 3 (.slice b2 y.fields.length d2) rfl)
  have M4 : ∀ q : Later w3, q.1.cell? ⟨w.heap.size + 1, 4, none⟩ = _ := Later.cell (blk_cell HY3.out 4 (.int .i64 y.at_) rfl)
  obtain ⟨S, hS⟩ : ∃ S, S = x.same y := ⟨_, rfl⟩
  have hcA : ∀ q : Later w3, _ := fun q => same_any 800 (by decide) x y hvx a1 a2 b1 b2 c1 c2 d1 d2 q.1 (fun _ => True) (HRX3.out.to (Stands.below q.2)) (HRY3.out.to (Stands.below q.2))
  have hcB : ∀ q : Later w3, _ := fun q => ref_any 800 (by decide) x y hvx a1 a2 b1 b2 c1 c2 d1 d2 q.1 (fun _ => True) (HRX3.out.to (Stands.below q.2)) (HRY3.out.to (Stands.below q.2))
  have hcC : ∀ q : Later w3, _ := fun q => same_any 800 (by decide) x x hvx a1 a2 a1 a2 c1 c2 c1 c2 q.1 (fun _ => True) (HRX3.out.to (Stands.below q.2)) (HRX3.out.to (Stands.below q.2))
  have hcD : ∀ q : Later w3, _ := fun q => same_any 800 (by decide) y x hvy b1 b2 a1 a2 d1 d2 c1 c2 q.1 (fun _ => True) (HRY3.out.to (Stands.below q.2)) (HRX3.out.to (Stands.below q.2))
  rw [← hS] at hcA hcB
  rw [Vl.same_refl] at hcC
  rw [Vl.same_symm, ← hS] at hcD
  have HA := Lib.hid hcA
  have HB := Lib.hid hcB
  have HC := Lib.hid hcC
  have HD := Lib.hid hcD
  clear hS hcA hcB hcC hcD
  cases S
  all_goals
    go_wp2_with fail
    refine wp_region_later (by kernel_rfl) (by kernel_rfl) ?_
    repeat (go_big_quiet_step ((first | (with_reducible exact Later.call (HA.out _)) | (with_reducible exact Later.call (HB.out _)) | (with_reducible exact Later.call (HC.out _)) | (with_reducible exact Later.call (HD.out _)))))
    refine wpQuiet_nil ?_
    rintro w6 ⟨q6, rfl⟩
    go_wp2_with fail
    go_ret
    exact ⟨rfl, HB3.out.trans (q6.2.mono HB3.out.size)⟩
end Go.Proofs.YtabcaljnpahgpaaGreatDoor
