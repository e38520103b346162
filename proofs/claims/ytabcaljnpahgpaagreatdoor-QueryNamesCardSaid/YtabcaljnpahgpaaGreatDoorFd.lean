/-
  Few of package rubriclaw09, walked: what it lets by is small.
-/
import Derived.Test.YtabcaljnpahgpaaGreatDoorFq
namespace Go.Proofs.YtabcaljnpahgpaaGreatDoor
set_option linter.unusedSimpArgs false
set_option linter.unusedVariables false
open Go Go.RowKit

namespace Dq
def smV (x : Var) : Prop := x.name.length ≤ 200 ∧ x.type.length ≤ 300 ∧ x.dflt.vals ≤ 400 ∧ x.dflt.cost ≤ 3300 * 400
def smS (d : List Dir) (s : List Sel) : Prop := (cntD d ≤ 400 ∧ ∀ x ∈ d, smD x) ∧ (Sel.cntl s ≤ 400 ∧ ∀ x ∈ s, x.sm)
def smO (x : Op) : Prop := (x.vars.length ≤ 100 ∧ ∀ y ∈ x.vars, smV y) ∧ x.name.length ≤ 200 ∧ smS x.dirs x.sels
def smF (x : Fr) : Prop := x.name.length ≤ 200 ∧ x.on.length ≤ 200 ∧ smS x.dirs x.sels
def Doc.sm (x : Doc) : Prop := (x.ops.length ≤ 100 ∧ ∀ y ∈ x.ops, smO y) ∧ (x.frags.length ≤ 100 ∧ ∀ y ∈ x.frags, smF y)
end Dq
set_option maxHeartbeats 8000000 in
set_option maxRecDepth 100000 in
theorem dqFew_any (x : Dq.Doc) (hfit : x.fits) (a1 a2 : Option Addr) (c1 c2 : Nat) (w : World) (hR : Reads w (fun _ => True) x.d [.slice a1 x.ops.length c1, .slice a2 x.frags.length c2]) :
    Calls Tryz.prog 19 #[.agg #[.slice a1 x.ops.length c1, .slice a2 x.frags.length c2]] w (fun r w' => ∃ b : Bool, r = .returned (.bool b) ∧ Below w.heap.size w w' ∧ (b = true → x.sm)) := by
  obtain ⟨x1, x2, x3, x4, ex, hro, hrf⟩ := Dq.Doc.opened hR
  obtain ⟨rfl, rfl, rfl, rfl⟩ : a1 = x1 ∧ c1 = x3 ∧ a2 = x2 ∧ c2 = x4 := by simpa [and_assoc] using ex
  clear ex hR
  obtain ⟨⟨hlo, hfo⟩, hlf, hff⟩ := hfit
  unfold maxLen at hlo hlf
  obtain ⟨wb, hwb⟩ : ∃ q, q = w.alloc (.cells #[.slice a1 x.ops.length c1, .slice a2 x.frags.length c2] 43) := ⟨_, rfl⟩
  have hbb : Below w.heap.size w wb := by rw [hwb]; exact (Below.refl _ _).alloc (Nat.le_refl _) _
  obtain ⟨w1, hw1⟩ : ∃ q, q = wb.alloc (.cells #[.int .i64 400] 3) := ⟨_, rfl⟩
  have hb1 : Below w.heap.size w w1 := by rw [hw1]; exact hbb.alloc hbb.size _
  have hsb : wb.heap.size = w.heap.size + 1 := by rw [hwb]; simp
  have hs1 : w1.heap.size = w.heap.size + 2 := by rw [hw1]; simp [hsb]
  have hg1 : w1.heap[w.heap.size + 1]? = some (.cells #[.int .i64 400] 3 (0, 0)) := by rw [hw1, ← hsb]; exact heap_at_new _ _
  have hX1 : w1.heap[w.heap.size]? = some (.cells #[.slice a1 x.ops.length c1, .slice a2 x.frags.length c2] 43 (0, 0)) := by rw [hw1, Lib.alloc_old _ _ _ (by omega), hwb]; exact heap_at_new _ _
  obtain ⟨g, hgd⟩ : ∃ g, g = w.heap.size + 1 := ⟨_, rfl⟩
  have hst : Stands w (fun _ => True) w1 (fun k => k ≠ g) := ⟨hb1.size, fun k hk _ => ⟨by omega, hb1.block k hk⟩⟩
  have HRO := Lib.hid (hro.to hst)
  have HRF := Lib.hid (hrf.to hst)
  have HB1 := Lib.hid hb1
  have HX1 := Lib.hid hX1
  have HG : Hid (OneI g 400 w1 w1) := Lib.hid ⟨But.refl _ _, by omega, by rw [hgd]; exact hg1⟩
  have HW1 := Lib.hid (hw1.trans (by rw [hwb]))
  have HFO := Lib.hid hfo
  have HFF := Lib.hid hff
  have HEND : Hid (∀ (b : Bool) (L : Int) (w' : World), OneI g L w1 w' → Below w.heap.size w w') := Lib.hid (fun b L w' ho => below_one hb1 ho (by omega))
  have HGD := Lib.hid hgd
  clear hro hrf hst hb1 hX1 hg1 hw1 hwb hbb hfo hff
  by_cases h20 : 100 < x.ops.length
  · have e20 : decide ((100 : Int) < (x.ops.length : Int)) = true := decide_eq_true (by omega)
    clear hgd
    go_enter Tryz.func19, Tryz.ntmps19
    go_wp2_with fail
    go_ret
    exact ⟨false, rfl, by rw [← HW1.out]; exact HEND.out false 400 _ HG.out, fun h => by cases h⟩
  have e20 : decide ((100 : Int) < (x.ops.length : Int)) = false := decide_eq_false (by omega)
  by_cases h21 : 100 < x.frags.length
  · have e21 : decide ((100 : Int) < (x.frags.length : Int)) = true := decide_eq_true (by omega)
    clear hgd
    go_enter Tryz.func19, Tryz.ntmps19
    go_wp2_with fail
    go_ret
    exact ⟨false, rfl, by rw [← HW1.out]; exact HEND.out false 400 _ HG.out, fun h => by cases h⟩
  have e21 : decide ((100 : Int) < (x.frags.length : Int)) = false := decide_eq_false (by omega)
  clear hgd
  go_enter Tryz.func19, Tryz.ntmps19
  go_wp2_with fail
  rw [← HW1.out]
  have hgne : g ≠ w.heap.size := by have := HGD.out; omega
  have hgb : g = w.heap.size + 1 := HGD.out
  rw [← hgb]
  have hsg : w1.heap.size = g + 1 := by omega
  clear hgb
  go_loopg [23] (x.ops.length + 1) (fun k i wr => ∃ (j : Nat) (Lr : Int), k = x.ops.length + 1 - j ∧ j ≤ x.ops.length ∧ i = .int .i64 j ∧ 0 ≤ Lr ∧ Lr ≤ 400 ∧ (∀ y ∈ x.ops.take j, Dq.smO y) ∧ OneI g Lr w1 wr)
  case atStart => exact ⟨0, 400, rfl, Nat.zero_le _, rfl, by omega, by omega, by simp, HG.out⟩
  case round =>
    obtain ⟨j, Lr, hk, hj, rfl, hLr0, hLr4, hsm, ho⟩ := hrel
    have HK := Lib.hid hk
    have HSM := Lib.hid hsm
    have HO := Lib.hid ho
    have hszr := ho.but.size
    have HX2 : Hid (wr.heap[w.heap.size]? = _) := Lib.hid ((ho.but.block w.heap.size (by omega) (fun e => hgne e.symm)).trans HX1.out)
    clear hk hsm ho
    by_cases hjl : j < x.ops.length
    · have e6 : decide (j < x.ops.length) = true := decide_eq_true hjl
      obtain ⟨p, hp⟩ : ∃ z, x.ops[j]? = some z := ⟨x.ops[j], List.getElem?_eq_getElem hjl⟩
      have HP := Lib.hid hp
      have HPF := Lib.hid (HFO.out p (List.mem_of_getElem? hp))
      obtain ⟨gi, o, cs, ha, hgx, hgil, hlen', hcell, hd⟩ := HRO.out.el j p.d (by rw [List.getElem?_map, hp]; rfl)
      obtain ⟨s1, s2, s3, u1, u2, u3, rfl, hdv, hdd, hds⟩ := Dq.Op.opened hd
      have k0 : wr.cell? ⟨gi, o + j * 6, none⟩ = _ := (HO.out.but.cell (p := ⟨gi, o + j * 6, none⟩) hgil hgx).trans (hcell 0 _ rfl)
      have k1 : wr.cell? ⟨gi, o + j * 6 + 1, none⟩ = _ := (HO.out.but.cell (p := ⟨gi, o + j * 6 + 1, none⟩) hgil hgx).trans (hcell 1 _ rfl)
      have k2 : wr.cell? ⟨gi, o + j * 6 + 2, none⟩ = _ := (HO.out.but.cell (p := ⟨gi, o + j * 6 + 2, none⟩) hgil hgx).trans (hcell 2 _ rfl)
      have k3 : wr.cell? ⟨gi, o + j * 6 + 3, none⟩ = _ := (HO.out.but.cell (p := ⟨gi, o + j * 6 + 3, none⟩) hgil hgx).trans (hcell 3 _ rfl)
      have k4 : wr.cell? ⟨gi, o + j * 6 + 4, none⟩ = _ := (HO.out.but.cell (p := ⟨gi, o + j * 6 + 4, none⟩) hgil hgx).trans (hcell 4 _ rfl)
      have k5 : wr.cell? ⟨gi, o + j * 6 + 5, none⟩ = _ := (HO.out.but.cell (p := ⟨gi, o + j * 6 + 5, none⟩) hgil hgx).trans (hcell 5 _ rfl)
      subst ha
      obtain ⟨wn, hwn⟩ : ∃ q, q = wr.alloc (.cells #[.int .i64 p.kind, .string ⟨p.name.toArray⟩, .slice s1 p.vars.length u1, .slice s2 p.dirs.length u2, .slice s3 p.sels.length u3, .int .i64 p.at_] 49) := ⟨_, rfl⟩
      have hgn : wn.heap[g]? = some (.cells #[.int .i64 Lr] 3 (0, 0)) := by rw [hwn, Lib.alloc_old _ _ _ (by omega)]; exact HO.out.cell
      have hXn : wn.heap[wr.heap.size]? = some (.cells #[.int .i64 p.kind, .string ⟨p.name.toArray⟩, .slice s1 p.vars.length u1, .slice s2 p.dirs.length u2, .slice s3 p.sels.length u3, .int .i64 p.at_] 49 (0, 0)) := by rw [hwn]; exact heap_at_new _ _
      have hsn : wn.heap.size = wr.heap.size + 1 := by rw [hwn]; simp
      have hgnr : g ≠ wr.heap.size := by omega
      have hOn : OneI g Lr w1 wn := HO.out.of_below (by rw [hwn]; exact (Below.refl _ _).alloc (Nat.le_refl _) _)
      have HXN := Lib.hid hXn
      have HON := Lib.hid hOn
      have HWN := Lib.hid hwn
      clear hp hlen' hcell hwn hgn hXn hOn hd
      have hpl : p.name.length ≤ 9223372036854775807 := HPF.out.2.1
      have hvl : p.vars.length ≤ 9223372036854775807 := HPF.out.2.2.1.1
      by_cases h22 : 100 < p.vars.length
      · have e22 : decide ((100 : Int) < (p.vars.length : Int)) = true := decide_eq_true (by omega)
        clear h22
        go_wp2_with fail
        go_ret
        exact ⟨false, rfl, by rw [← HWN.out]; exact HEND.out false _ _ HON.out, fun h => by cases h⟩
      have e22 : decide ((100 : Int) < (p.vars.length : Int)) = false := decide_eq_false (by omega)
      by_cases h23 : 200 < p.name.length
      · have e23 : decide ((200 : Int) < (p.name.length : Int)) = true := decide_eq_true (by omega)
        clear h23
        go_wp2_with fail
        go_ret
        exact ⟨false, rfl, by rw [← HWN.out]; exact HEND.out false _ _ HON.out, fun h => by cases h⟩
      have e23 : decide ((200 : Int) < (p.name.length : Int)) = false := decide_eq_false (by omega)
      have HCALL := Lib.hid (dqDirs_any p.dirs HPF.out.2.2.2.1.2 s2 u2 wn g Lr hLr0 hLr4 (by have := HPF.out.2.2.2.1.1; unfold maxLen at this; omega) HON.out.cell (hdd.to HON.out.stands))
      rw [HWN.out] at HCALL
      go_wp2_with fail
      refine HCALL.out.mono ?_
      rw [← HWN.out]
      rintro r w2 ⟨b, L2, rfl, ho2, hl2, hle⟩
      have HLE2 := Lib.hid hle
      have HO2 := Lib.hid (HON.out.trans ho2)
      have HXN2 : Hid (w2.heap[wr.heap.size]? = _) := Lib.hid ((ho2.but.block wr.heap.size (by omega) (fun e => hgnr e.symm)).trans HXN.out)
      have hs2 := ho2.but.size
      clear hle ho2 HCALL k0 k1 k2 k3 k4 k5
      cases b
      · go_wp2_with fail
        go_ret
        exact ⟨false, rfl, HEND.out false _ _ HO2.out, fun h => by cases h⟩
      obtain ⟨hq2, hq02, hqs2⟩ := HLE2.out (by trivial)
      have HQ2 := Lib.hid hq2
      have HS2 := Lib.hid hqs2
      clear hq2 hqs2
      have z4 := blk_cell HXN2.out 4 (.slice s3 p.sels.length u3) rfl
      have HCALL := Lib.hid (fun dp => dqSels_all _ p.sels (Nat.lt_succ_self _) HPF.out.2.2.2.2.2 s3 u3 w2 g L2 dp hq02 hl2 (by have := HPF.out.2.2.2.2.1; unfold maxLen at this; omega) HO2.out.cell (hds.to HO2.out.stands))
      go_wp2_with fail
      refine (HCALL.out _).mono ?_
      rintro r w3 ⟨b, L3, rfl, ho3, hl3, hle⟩
      have HLE3 := Lib.hid hle
      have HO3 := Lib.hid (HO2.out.trans ho3)
      have HXN3 : Hid (w3.heap[wr.heap.size]? = _) := Lib.hid ((ho3.but.block wr.heap.size (by omega) (fun e => hgnr e.symm)).trans HXN2.out)
      have hs3 := ho3.but.size
      clear hle ho3 HCALL z4
      cases b
      · go_wp2_with fail
        go_ret
        exact ⟨false, rfl, HEND.out false _ _ HO3.out, fun h => by cases h⟩
      obtain ⟨hq3, hq03, hqs3⟩ := HLE3.out (by trivial)
      have HSS : Hid (Dq.smS p.dirs p.sels) := Lib.hid ⟨⟨by have := HQ2.out; omega, HS2.out⟩, by omega, hqs3⟩
      clear hq3 hqs3
      have z2 := blk_cell HXN3.out 2 (.slice s1 p.vars.length u1) rfl
      have HDV := Lib.hid (hdv.to HO3.out.stands)
      go_wp2_with fail
      clear z2
      obtain ⟨wq, hwq⟩ : ∃ q, q = w3 := ⟨_, rfl⟩
      rw [← hwq]
      rw [← hwq] at HO3 HDV HXN3 hs3
      clear hwq
      have HP3 : Hid (OneI g L3 wq wq) := Lib.hid ⟨But.refl _ _, by omega, HO3.out.cell⟩
      go_loopg [52] (p.vars.length + 1) (fun k i wr => ∃ (j : Nat), k = p.vars.length + 1 - j ∧ j ≤ p.vars.length ∧ i = .int .i64 j ∧ (∀ y ∈ p.vars.take j, Dq.smV y) ∧ OneI g L3 wq wr)
      case atStart => exact ⟨0, rfl, Nat.zero_le _, rfl, by simp, HP3.out⟩
      case round =>
        obtain ⟨i, hk, hi, rfl, hsm, ho⟩ := hrel
        have HK2 := Lib.hid hk
        have HSM2 := Lib.hid hsm
        have HOV := Lib.hid ho
        have HOW := Lib.hid (HO3.out.trans ho)
        have hszv := ho.but.size
        clear hk hsm ho
        by_cases hil : i < p.vars.length
        · have e7 : decide (i < p.vars.length) = true := decide_eq_true hil
          obtain ⟨q, hq⟩ : ∃ z, p.vars[i]? = some z := ⟨p.vars[i], List.getElem?_eq_getElem hil⟩
          have HQ := Lib.hid hq
          have HQF := Lib.hid (HPF.out.2.2.1.2 q (List.mem_of_getElem? hq))
          obtain ⟨gi, o, cs, ha, hgx, hgil, hlen', hcell, hd⟩ := HDV.out.el i q.d (by rw [List.getElem?_map, hq]; rfl)
          obtain ⟨r1, r2, v1, v2, rfl, hdq⟩ := Dq.Var.opened hd
          have k0 : wr.cell? ⟨gi, o + i * 9, none⟩ = _ := (HOV.out.but.cell (p := ⟨gi, o + i * 9, none⟩) hgil hgx).trans (hcell 0 _ rfl)
          have k1 : wr.cell? ⟨gi, o + i * 9 + 1, none⟩ = _ := (HOV.out.but.cell (p := ⟨gi, o + i * 9 + 1, none⟩) hgil hgx).trans (hcell 1 _ rfl)
          have k2 : wr.cell? ⟨gi, o + i * 9 + 2, none⟩ = _ := (HOV.out.but.cell (p := ⟨gi, o + i * 9 + 2, none⟩) hgil hgx).trans (hcell 2 _ rfl)
          have k3 : wr.cell? ⟨gi, o + i * 9 + 3, none⟩ = _ := (HOV.out.but.cell (p := ⟨gi, o + i * 9 + 3, none⟩) hgil hgx).trans (hcell 3 _ rfl)
          have k4 : wr.cell? ⟨gi, o + i * 9 + 4, none⟩ = _ := (HOV.out.but.cell (p := ⟨gi, o + i * 9 + 4, none⟩) hgil hgx).trans (hcell 4 _ rfl)
          have k5 : wr.cell? ⟨gi, o + i * 9 + 5, none⟩ = _ := (HOV.out.but.cell (p := ⟨gi, o + i * 9 + 5, none⟩) hgil hgx).trans (hcell 5 _ rfl)
          have k6 : wr.cell? ⟨gi, o + i * 9 + 6, none⟩ = _ := (HOV.out.but.cell (p := ⟨gi, o + i * 9 + 6, none⟩) hgil hgx).trans (hcell 6 _ rfl)
          have k7 : wr.cell? ⟨gi, o + i * 9 + 7, none⟩ = _ := (HOV.out.but.cell (p := ⟨gi, o + i * 9 + 7, none⟩) hgil hgx).trans (hcell 7 _ rfl)
          have k8 : wr.cell? ⟨gi, o + i * 9 + 8, none⟩ = _ := (HOV.out.but.cell (p := ⟨gi, o + i * 9 + 8, none⟩) hgil hgx).trans (hcell 8 _ rfl)
          subst ha
          obtain ⟨wn2, hwn2⟩ : ∃ z, z = wr.alloc (.cells #[.string ⟨q.name.toArray⟩, .string ⟨q.type.toArray⟩, .bool q.has, .int .i64 q.dflt.kind, .string ⟨q.dflt.text.toArray⟩, .slice r1 q.dflt.items.length v1, .slice r2 q.dflt.fields.length v2, .int .i64 q.dflt.at_, .int .i64 q.at_] 97) := ⟨_, rfl⟩
          have hbn2 : Below wr.heap.size wr wn2 := by rw [hwn2]; exact (Below.refl _ _).alloc (Nat.le_refl _) _
          have HBN2 := Lib.hid hbn2
          have HWN2 := Lib.hid hwn2
          have hq1 : q.name.length ≤ 9223372036854775807 := HQF.out.1
          have hq2 : q.type.length ≤ 9223372036854775807 := HQF.out.2.1
          have HCALL := Lib.hid (few_any q.dflt HQF.out.2.2 r1 r2 v1 v2 wn2 ((hdq.to (HOV.out.of_below hbn2).stands).to (Stands.sub _ (fun _ _ _ => trivial))))
          rw [HWN2.out] at HCALL
          unfold zcells at HCALL
          clear hq hlen' hcell hd hwn2 hbn2
          by_cases h24 : 200 < q.name.length
          · have e24 : decide ((200 : Int) < (q.name.length : Int)) = true := decide_eq_true (by omega)
            clear h24
            go_wp2_with fail
            go_ret
            exact ⟨false, rfl, by rw [← HWN2.out]; exact HEND.out false _ _ (HOW.out.of_below HBN2.out), fun h => by cases h⟩
          have e24 : decide ((200 : Int) < (q.name.length : Int)) = false := decide_eq_false (by omega)
          by_cases h25 : 300 < q.type.length
          · have e25 : decide ((300 : Int) < (q.type.length : Int)) = true := decide_eq_true (by omega)
            clear h25
            go_wp2_with fail
            go_ret
            exact ⟨false, rfl, by rw [← HWN2.out]; exact HEND.out false _ _ (HOW.out.of_below HBN2.out), fun h => by cases h⟩
          have e25 : decide ((300 : Int) < (q.type.length : Int)) = false := decide_eq_false (by omega)
          go_wp2_with fail
          refine HCALL.out.mono ?_
          rw [← HWN2.out]
          rintro r w5 ⟨b, rfl, hb5, hle⟩
          have HB5 := Lib.hid (HBN2.out.trans (hb5.mono HBN2.out.size))
          have HLE := Lib.hid hle
          clear hb5 hle HCALL k0 k1 k2 k3 k4 k5 k6 k7 k8
          cases b
          · go_wp2_with fail
            go_ret
            exact ⟨false, rfl, HEND.out false _ _ (HOW.out.of_below HB5.out), fun h => by cases h⟩
          have HSV : Hid (Dq.smV q) := Lib.hid ⟨by omega, by omega, (HLE.out (by trivial)).1, (HLE.out (by trivial)).2⟩
          go_wp2_with fail
          go_roundg (p.vars.length + 1 - (i + 1))
          case measure => rw [HK2.out]; omega
          case rel => exact ⟨i + 1, rfl, hil, by go_num, take_mem HQ.out HSM2.out HSV.out, HOV.out.of_below HB5.out⟩
        · have e7 : decide (i < p.vars.length) = false := decide_eq_false hil
          have HSO : Hid (Dq.smO p) := by
            have := HSM2.out
            rw [List.take_of_length_le (by omega)] at this
            exact Lib.hid ⟨⟨by omega, this⟩, by omega, HSS.out⟩
          go_wp2_with fail
          go_roundg (x.ops.length + 1 - (j + 1))
          case measure => rw [HK.out]; omega
          case rel => exact ⟨j + 1, L3, rfl, hjl, by go_num, hq03, hl3, take_mem HP.out HSM.out HSO.out, HOW.out⟩
    · have e6 : decide (j < x.ops.length) = false := decide_eq_false hjl
      have HALL : Hid (∀ y ∈ x.ops, Dq.smO y) := by
        have := HSM.out
        rw [List.take_of_length_le (by omega)] at this
        exact Lib.hid this
      have y1 := blk_cell HX2.out 1 (.slice a2 x.frags.length c2) rfl
      have HRF2 := Lib.hid (HRF.out.to HO.out.stands)
      clear HSM
      go_wp2_with fail
      clear y1
      obtain ⟨wq, hwq⟩ : ∃ q, q = wr := ⟨_, rfl⟩
      rw [← hwq]
      rw [← hwq] at HX2 HO HRF2 hszr
      clear hwq
      have HXQ := HX2
      go_loopg [77] (x.frags.length + 1) (fun k i wr => ∃ (j : Nat) (Lr : Int), k = x.frags.length + 1 - j ∧ j ≤ x.frags.length ∧ i = .int .i64 j ∧ 0 ≤ Lr ∧ Lr ≤ 400 ∧ (∀ y ∈ x.frags.take j, Dq.smF y) ∧ OneI g Lr w1 wr)
      case atStart => exact ⟨0, Lr, rfl, Nat.zero_le _, rfl, hLr0, hLr4, by simp, HO.out⟩
      case round =>
        clear HX2 HK HO hj e6 hjl hszr HRF2 HXQ hLr0 hLr4
        obtain ⟨j, Lr, hk, hj, rfl, hLr0, hLr4, hsm, ho⟩ := hrel
        have HK := Lib.hid hk
        have HSM := Lib.hid hsm
        have HO := Lib.hid ho
        have hszr := ho.but.size
        have HX2 : Hid (wr.heap[w.heap.size]? = _) := Lib.hid ((ho.but.block w.heap.size (by omega) (fun e => hgne e.symm)).trans HX1.out)
        clear hk hsm ho
        by_cases hjl : j < x.frags.length
        · have e6 : decide (j < x.frags.length) = true := decide_eq_true hjl
          obtain ⟨p, hp⟩ : ∃ z, x.frags[j]? = some z := ⟨x.frags[j], List.getElem?_eq_getElem hjl⟩
          have HP := Lib.hid hp
          have HPF := Lib.hid (HFF.out p (List.mem_of_getElem? hp))
          obtain ⟨gi, o, cs, ha, hgx, hgil, hlen', hcell, hd⟩ := HRF.out.el j p.d (by rw [List.getElem?_map, hp]; rfl)
          obtain ⟨s2, s3, u2, u3, rfl, hdd, hds⟩ := Dq.Fr.opened hd
          have k0 : wr.cell? ⟨gi, o + j * 5, none⟩ = _ := (HO.out.but.cell (p := ⟨gi, o + j * 5, none⟩) hgil hgx).trans (hcell 0 _ rfl)
          have k1 : wr.cell? ⟨gi, o + j * 5 + 1, none⟩ = _ := (HO.out.but.cell (p := ⟨gi, o + j * 5 + 1, none⟩) hgil hgx).trans (hcell 1 _ rfl)
          have k2 : wr.cell? ⟨gi, o + j * 5 + 2, none⟩ = _ := (HO.out.but.cell (p := ⟨gi, o + j * 5 + 2, none⟩) hgil hgx).trans (hcell 2 _ rfl)
          have k3 : wr.cell? ⟨gi, o + j * 5 + 3, none⟩ = _ := (HO.out.but.cell (p := ⟨gi, o + j * 5 + 3, none⟩) hgil hgx).trans (hcell 3 _ rfl)
          have k4 : wr.cell? ⟨gi, o + j * 5 + 4, none⟩ = _ := (HO.out.but.cell (p := ⟨gi, o + j * 5 + 4, none⟩) hgil hgx).trans (hcell 4 _ rfl)
          subst ha
          obtain ⟨wn, hwn⟩ : ∃ q, q = wr.alloc (.cells #[.string ⟨p.name.toArray⟩, .string ⟨p.on.toArray⟩, .slice s2 p.dirs.length u2, .slice s3 p.sels.length u3, .int .i64 p.at_] 99) := ⟨_, rfl⟩
          have hgn : wn.heap[g]? = some (.cells #[.int .i64 Lr] 3 (0, 0)) := by rw [hwn, Lib.alloc_old _ _ _ (by omega)]; exact HO.out.cell
          have hXn : wn.heap[wr.heap.size]? = some (.cells #[.string ⟨p.name.toArray⟩, .string ⟨p.on.toArray⟩, .slice s2 p.dirs.length u2, .slice s3 p.sels.length u3, .int .i64 p.at_] 99 (0, 0)) := by rw [hwn]; exact heap_at_new _ _
          have hsn : wn.heap.size = wr.heap.size + 1 := by rw [hwn]; simp
          have hgnr : g ≠ wr.heap.size := by omega
          have hOn : OneI g Lr w1 wn := HO.out.of_below (by rw [hwn]; exact (Below.refl _ _).alloc (Nat.le_refl _) _)
          have HXN := Lib.hid hXn
          have HON := Lib.hid hOn
          have HWN := Lib.hid hwn
          clear hp hlen' hcell hwn hgn hXn hOn hd
          have hpl : p.name.length ≤ 9223372036854775807 := HPF.out.1
          have hvl : p.on.length ≤ 9223372036854775807 := HPF.out.2.1
          by_cases h26 : 200 < p.name.length
          · have e26 : decide ((200 : Int) < (p.name.length : Int)) = true := decide_eq_true (by omega)
            clear h26
            go_wp2_with fail
            go_ret
            exact ⟨false, rfl, by rw [← HWN.out]; exact HEND.out false _ _ HON.out, fun h => by cases h⟩
          have e26 : decide ((200 : Int) < (p.name.length : Int)) = false := decide_eq_false (by omega)
          by_cases h27 : 200 < p.on.length
          · have e27 : decide ((200 : Int) < (p.on.length : Int)) = true := decide_eq_true (by omega)
            clear h27
            go_wp2_with fail
            go_ret
            exact ⟨false, rfl, by rw [← HWN.out]; exact HEND.out false _ _ HON.out, fun h => by cases h⟩
          have e27 : decide ((200 : Int) < (p.on.length : Int)) = false := decide_eq_false (by omega)
          have HCALL := Lib.hid (dqDirs_any p.dirs HPF.out.2.2.1.2 s2 u2 wn g Lr hLr0 hLr4 (by have := HPF.out.2.2.1.1; unfold maxLen at this; omega) HON.out.cell (hdd.to HON.out.stands))
          rw [HWN.out] at HCALL
          go_wp2_with fail
          refine HCALL.out.mono ?_
          rw [← HWN.out]
          rintro r w2 ⟨b, L2, rfl, ho2, hl2, hle⟩
          have HLE2 := Lib.hid hle
          have HO2 := Lib.hid (HON.out.trans ho2)
          have HXN2 : Hid (w2.heap[wr.heap.size]? = _) := Lib.hid ((ho2.but.block wr.heap.size (by omega) (fun e => hgnr e.symm)).trans HXN.out)
          have hs2 := ho2.but.size
          clear hle ho2 HCALL k0 k1 k2 k3 k4
          cases b
          · go_wp2_with fail
            go_ret
            exact ⟨false, rfl, HEND.out false _ _ HO2.out, fun h => by cases h⟩
          obtain ⟨hq2, hq02, hqs2⟩ := HLE2.out (by trivial)
          have HQ2 := Lib.hid hq2
          have HS2 := Lib.hid hqs2
          clear hq2 hqs2
          have z3 := blk_cell HXN2.out 3 (.slice s3 p.sels.length u3) rfl
          have HCALL := Lib.hid (fun dp => dqSels_all _ p.sels (Nat.lt_succ_self _) HPF.out.2.2.2.2 s3 u3 w2 g L2 dp hq02 hl2 (by have := HPF.out.2.2.2.1; unfold maxLen at this; omega) HO2.out.cell (hds.to HO2.out.stands))
          go_wp2_with fail
          refine (HCALL.out _).mono ?_
          rintro r w3 ⟨b, L3, rfl, ho3, hl3, hle⟩
          have HLE3 := Lib.hid hle
          have HO3 := Lib.hid (HO2.out.trans ho3)
          have HXN3 : Hid (w3.heap[wr.heap.size]? = _) := Lib.hid ((ho3.but.block wr.heap.size (by omega) (fun e => hgnr e.symm)).trans HXN2.out)
          have hs3 := ho3.but.size
          clear hle ho3 HCALL z3
          cases b
          · go_wp2_with fail
            go_ret
            exact ⟨false, rfl, HEND.out false _ _ HO3.out, fun h => by cases h⟩
          obtain ⟨hq3, hq03, hqs3⟩ := HLE3.out (by trivial)
          have HSS : Hid (Dq.smS p.dirs p.sels) := Lib.hid ⟨⟨by have := HQ2.out; omega, HS2.out⟩, by omega, hqs3⟩
          clear hq3 hqs3
          have HSF : Hid (Dq.smF p) := Lib.hid ⟨by omega, by omega, HSS.out⟩
          go_wp2_with fail
          go_roundg (x.frags.length + 1 - (j + 1))
          case measure => rw [HK.out]; omega
          case rel => exact ⟨j + 1, L3, rfl, hjl, by go_num, hq03, hl3, take_mem HP.out HSM.out HSF.out, HO3.out⟩
        · have e6 : decide (j < x.frags.length) = false := decide_eq_false hjl
          have HALLF : Hid (∀ y ∈ x.frags, Dq.smF y) := by
            have := HSM.out
            rw [List.take_of_length_le (by omega)] at this
            exact Lib.hid this
          go_wp2_with fail
          go_ret
          exact ⟨true, rfl, HEND.out true _ _ HO.out, fun _ => ⟨⟨by omega, HALL.out⟩, by omega, HALLF.out⟩⟩
end Go.Proofs.YtabcaljnpahgpaaGreatDoor
