/-
  The shower of values: inner; value at any depth; Show, walked. 'Show', walked. The texts of 'awake' of the values' law, read and shown plain.
-/
import Derived.Test.YtefjgpkpplkkgaaGreatDoorZa24
import Derived.Test.YtefjgpkpplkkgaaGreatDoorZa3
import Derived.Test.YtefjgpkpplkkgaaGreatDoorZa4
namespace Go.Proofs.YtefjgpkpplkkgaaGreatDoor
set_option linter.unusedSimpArgs false
set_option linter.unusedVariables false
open Go Go.RowKit

theorem vcolon (t : List UInt8) : (⟨t.toArray⟩ : ByteArray) ++ ⟨#[58, 32]⟩ = ⟨(t ++ [58, 32]).toArray⟩ := by
  have h : ((⟨t.toArray⟩ : ByteArray) ++ ⟨#[58, 32]⟩).data.toList = t ++ [58, 32] := by simp
  have : ∀ a : ByteArray, a = ⟨a.data.toList.toArray⟩ := fun a => by cases a; simp
  rw [this (_ ++ _), h]
theorem put_len (t : List UInt8) (s : Vl.Sh) : (Vl.put t s).out.length = s.out.length + t.length := by rw [Vl.put_out, List.length_append]
set_option maxHeartbeats 4000000 in
set_option maxRecDepth 100000 in
theorem inner8 (N : Nat) (VAL : ValC N) (z : Vl.Z) (hN : z.n ≤ N + 1) (hk : z.kind = 8) (deep : Nat) (hdp : deep ≤ 16) (w0 : World) (b : Nat) (s : Vl.Sh) (a1 a2 : Option Addr) (n1 n2 : Nat) (w : World) (hE : Env w0) (h3 : 3 ≤ w0.heap.size) (hS : SW w0 b s w) (hlen : s.out.length + z.cost ≤ 1000000000)
    (hR : Reads w0 (fun _ => True) z.d (zcells z a1 a2 n1 n2).toList) :
    Calls Tryz.prog 91 #[.pointer (some ⟨b, 0, none⟩), .agg (zcells z a1 a2 n1 n2), .int .i64 deep] w (fun e w' => e = .returned (.tuple #[]) ∧ SW w0 b (z.inner deep s) w' ∧ OK8 b w w') := by
  unfold zcells at hR ⊢
  have hcost := Vl.Z.cost_eq z
  have hnn := Vl.Z.n_eq z
  have hil := Vl.Z.ns_len z.items
  have hfl := Vl.ZA.ns_len z.fields
  have hnc := Vl.Z.n_cost z
  obtain ⟨x1, x2, x3, x4, ex, hxi, hxf⟩ := Z_open hR
  obtain ⟨rfl, rfl, rfl, rfl⟩ : a1 = x1 ∧ n1 = x3 ∧ a2 = x2 ∧ n2 = x4 := by simpa [and_assoc] using ex
  obtain ⟨w1, hw1⟩ : ∃ v, v = w.alloc (.cells #[.int .i64 z.kind, .string ⟨z.text.toArray⟩, .slice a1 z.items.length n1, .slice a2 z.fields.length n2, .int .i64 z.at_] 25) := ⟨_, rfl⟩
  have hS1 : SW w0 b s w1 := by rw [hw1]; exact hS.alloc _
  have hx1 : w1.heap[w.heap.size]? = some (.cells #[.int .i64 z.kind, .string ⟨z.text.toArray⟩, .slice a1 z.items.length n1, .slice a2 z.fields.length n2, .int .i64 z.at_] 25 (0, 0)) := by rw [hw1]; exact heap_at_new _ _
  have hxb : w.heap.size ≠ b := by have := hS.sh.lt; omega
  have hk1 : OK8 b w w1 := by rw [hw1]; exact ok8_below ((Below.refl _ _).alloc (Nat.le_refl _) _)
  have HE := Lib.hid hE
  have HVAL := Lib.hid VAL
  have HW1 := Lib.hid hw1
  have HS1 := Lib.hid hS1
  have HX1 := Lib.hid hx1
  have HK1 := Lib.hid hk1
  have HRI := Lib.hid hxi
  have HRF := Lib.hid hxf
  have HNI : Hid (∀ x ∈ z.items, x.n ≤ N) := Lib.hid (fun x hx => by have := Vl.Z.ns_mem hx; omega)
  have HNF : Hid (∀ x ∈ z.fields, x.v.n ≤ N) := Lib.hid (fun x hx => by have := Vl.ZA.ns_mem hx; have := Vl.ZA.n_eq x; omega)
  have e9 : (z.kind == 9) = false := by rw [beq_eq_false_iff_ne]; omega
  have HOP : Hid (Vl.opn z.kind = [91]) := Lib.hid (by rw [hk]; rfl)
  have HSHT : Hid (Vl.shut z.kind = [93]) := Lib.hid (by rw [hk]; rfl)
  have hb0 : bt ⟨#[91, 93]⟩ 0 = 91 := rfl
  have hb1 : bt ⟨#[91, 93]⟩ 1 = 93 := rfl
  have hib : z.items.length ≤ 1000000000 := by omega
  have hfb : z.fields.length ≤ 1000000000 := by omega
  obtain ⟨IC, hIC⟩ : ∃ q, q = Vl.Z.costs z.items := ⟨_, rfl⟩
  obtain ⟨FC, hFC⟩ : ∃ q, q = Vl.ZA.costs z.fields := ⟨_, rfl⟩
  have hcc : s.out.length + 12 + IC + FC ≤ 1000000000 := by omega
  have HIC := Lib.hid hIC
  have HFC := Lib.hid hFC
  clear hE VAL hw1 hS1 hx1 hk1 hR hS ex hxi hxf hN hk hcost hnn hil hfl hnc hlen hIC hFC
  go_enter Tryz.func91, Tryz.ntmps91
  go_wp2_with fail
  rw [← HW1.out]
  refine wp_region_cuts [5] (by kernel_rfl) (by kernel_rfl) ?_; simp only [wpMix, List.take_succ_cons, List.take_zero, List.drop_succ_cons, List.drop_zero, Nat.sub_zero, Nat.reduceSub, Nat.reduceAdd]
  repeat (go_big_quiet_step (fail))
  refine wpQuiet_nil ?_; rintro _ ⟨nq, rfl⟩
  go_wp2_with fail
  refine ((HS1.out.drewN nq).byte 91 (by omega)).mono ?_
  rintro r wE ⟨rfl, hs2, hk2⟩
  have HS2 := Lib.hid hs2
  have HKE : Hid (OK8 b w wE) := Lib.hid (HK1.out.trans hk2)
  have HXE := Lib.hid (ok8_at (w := w1.drewN nq) hk2 HX1.out hxb (by decide))
  have hl2 := put_len [91] s
  obtain ⟨s1, hs1⟩ : ∃ q, q = Vl.put [91] s := ⟨_, rfl⟩
  rw [← hs1] at HS2 hl2
  simp only [List.length_cons, List.length_nil] at hl2
  have HFIN : Hid (z.inner deep s = Vl.put [93] (Vl.ZA.shows deep true z.fields (Vl.Z.shows deep true z.items s1))) := Lib.hid (by unfold Vl.Z.inner; rw [HOP.out, HSHT.out, hs1])
  clear hs2 hk2 hs1
  go_wp2
  refine wpQuiet_nil ?_
  rintro _ ⟨nr, rfl⟩
  obtain ⟨wG, hwE⟩ : ∃ q, q = wE.drewN nr := ⟨_, rfl⟩
  have HS2' : Hid (SW w0 b s1 wG) := Lib.hid (by rw [hwE]; exact HS2.out.drewN nr)
  have HKE' : Hid (OK8 b w wG) := Lib.hid (by rw [hwE]; exact HKE.out)
  have HXE' : Hid (wG.heap[w.heap.size]? = some (.cells #[.int .i64 z.kind, .string ⟨z.text.toArray⟩, .slice a1 z.items.length n1, .slice a2 z.fields.length n2, .int .i64 z.at_] 25 (0, 0))) := Lib.hid (by rw [hwE]; exact HXE.out)
  rw [← hwE]
  clear hwE HS2 HKE HXE
  have z2 := blk_cell HXE'.out 2 (.slice a1 z.items.length n1) rfl
  go_wp2_with fail
  go_loopg [23] (z.items.length + 1) (fun k i wr => ∃ (j : Nat) (st : Vl.Sh), k = z.items.length + 1 - j ∧ j ≤ z.items.length ∧ i = .int .i64 j ∧ SW w0 b st wr ∧ OK8 b wG wr ∧ Vl.Z.shows deep true z.items s1 = Vl.Z.shows deep (decide (j = 0)) (z.items.drop j) st ∧ st.out.length + Vl.Z.costs (z.items.drop j) + FC + 4 ≤ 1000000000)
  case atStart => exact ⟨0, s1, rfl, Nat.zero_le _, rfl, HS2'.out, Lib.OthersKept.refl _ _ _, rfl, by rw [List.drop_zero, ← HIC.out]; omega⟩
  case round =>
    obtain ⟨j, st, hk, hj, rfl, hsw, hok, heq, hbd⟩ := hrel
    have HK := Lib.hid hk
    have HSJ := Lib.hid hsw
    have HOJ := Lib.hid hok
    have HEQ := Lib.hid heq
    clear hk hsw hok heq z2
    by_cases hjl : j < z.items.length
    · have e1 : decide (j < z.items.length) = true := decide_eq_true hjl
      obtain ⟨x, hx⟩ : ∃ q, z.items[j]? = some q := ⟨z.items[j], List.getElem?_eq_getElem hjl⟩
      have hdr : z.items.drop j = x :: z.items.drop (j + 1) := by rw [List.drop_eq_getElem_cons hjl]; rw [List.getElem?_eq_getElem hjl] at hx; rw [Option.some.inj hx]
      have HEQ3 : Hid (Vl.Z.shows deep true z.items s1 = Vl.Z.shows deep false (z.items.drop (j + 1)) (Vl.Z.show deep x (Vl.sep (decide (j = 0)) st))) := Lib.hid (by rw [HEQ.out, hdr, Vl.Z.shows_cons])
      rw [hdr, Vl.Z.costs] at hbd
      have HNX := Lib.hid (HNI.out x (List.mem_of_getElem? hx))
      have hxc := Vl.Z.cost_eq x
      obtain ⟨g, o, cs, ha, -, hgl, hlen, hcell, hd⟩ := HRI.out.el j x.d (by rw [List.getElem?_map, hx]; rfl)
      obtain ⟨c1, c2, m1, m2, rfl, -, -⟩ := Z_open hd
      subst ha
      have k0 : wr.cell? ⟨g, o + j * 5, none⟩ = _ := (HSJ.out.bel.cell (p := ⟨g, o + j * 5, none⟩) hgl).trans (hcell 0 _ rfl)
      have k1 : wr.cell? ⟨g, o + j * 5 + 1, none⟩ = _ := (HSJ.out.bel.cell (p := ⟨g, o + j * 5 + 1, none⟩) hgl).trans (hcell 1 _ rfl)
      have k2 : wr.cell? ⟨g, o + j * 5 + 2, none⟩ = _ := (HSJ.out.bel.cell (p := ⟨g, o + j * 5 + 2, none⟩) hgl).trans (hcell 2 _ rfl)
      have k3 : wr.cell? ⟨g, o + j * 5 + 3, none⟩ = _ := (HSJ.out.bel.cell (p := ⟨g, o + j * 5 + 3, none⟩) hgl).trans (hcell 3 _ rfl)
      have k4 : wr.cell? ⟨g, o + j * 5 + 4, none⟩ = _ := (HSJ.out.bel.cell (p := ⟨g, o + j * 5 + 4, none⟩) hgl).trans (hcell 4 _ rfl)
      have HDX := Lib.hid hd
      obtain ⟨wb, hwb⟩ : ∃ q, q = wr.alloc (.cells #[.int .i64 x.kind, .string ⟨x.text.toArray⟩, .slice c1 x.items.length m1, .slice c2 x.fields.length m2, .int .i64 x.at_] 25) := ⟨_, rfl⟩
      have HSB : Hid (SW w0 b st wb) := Lib.hid (by rw [hwb]; exact HSJ.out.alloc _)
      have HKB : Hid (OK8 b wG wb) := Lib.hid (by rw [hwb]; exact HOJ.out.trans (ok8_below ((Below.refl _ _).alloc (Nat.le_refl _) _)))
      have HXB : Hid (wb.heap[wr.heap.size]? = some (.cells #[.int .i64 x.kind, .string ⟨x.text.toArray⟩, .slice c1 x.items.length m1, .slice c2 x.fields.length m2, .int .i64 x.at_] 25 (0, 0))) := Lib.hid (by rw [hwb]; exact heap_at_new _ _)
      have HWB := Lib.hid hwb
      have hxne : wr.heap.size ≠ b := by have := HSJ.out.sh.lt; omega
      clear hx hdr hlen hcell hd hwb
      by_cases hj0 : j = 0
      · have hj1 : decide (j = 0) = true := decide_eq_true hj0
        rw [hj1] at HEQ3
        have e2 : decide ((0 : Int) < (j : Int)) = false := decide_eq_false (by omega)
        have e2n : decide (0 < j) = false := decide_eq_false (by omega)
        clear hj0 hj1
        go_wp2_with fail
        rw [← HWB.out]
        refine (HVAL.out x HNX.out deep hdp w0 b st c1 c2 m1 m2 wb HE.out h3 HSB.out (by omega) HDX.out).mono ?_
        rintro r w4 ⟨rfl, hs4, hk4⟩
        have HS4 := Lib.hid hs4
        have HK4 : Hid (OK8 b wG w4) := Lib.hid (HKB.out.trans hk4)
        clear hs4 hk4
        have hle := Vl.Z.show_le deep x st
        go_wp2_with fail
        go_roundg (z.items.length + 1 - (j + 1))
        case measure => rw [HK.out]; omega
        case rel => exact ⟨j + 1, _, rfl, hjl, by go_num, HS4.out, HK4.out, by rw [HEQ3.out]; rfl, by omega⟩
      · have hj1 : decide (j = 0) = false := decide_eq_false hj0
        rw [hj1] at HEQ3
        have e2 : decide ((0 : Int) < (j : Int)) = true := decide_eq_true (by omega)
        have e2n : decide (0 < j) = true := decide_eq_true (by omega)
        clear hj0 hj1
        go_wp2_with fail
        rw [← HWB.out]
        refine (HSB.out.str [44, 32] (by simp only [List.length_cons, List.length_nil]; omega)).mono ?_
        rintro r w3 ⟨⟨m, rfl⟩, hs3, hk3⟩
        have HS3 := Lib.hid hs3
        have HK3 := Lib.hid (HKB.out.trans hk3)
        have HX3 := Lib.hid (ok8_at hk3 HXB.out hxne (by decide))
        have y0 := blk_cell HX3.out 0 (.int .i64 x.kind) rfl
        have y1 := blk_cell HX3.out 1 (.string ⟨x.text.toArray⟩) rfl
        have y2 := blk_cell HX3.out 2 (.slice c1 x.items.length m1) rfl
        have y3 := blk_cell HX3.out 3 (.slice c2 x.fields.length m2) rfl
        have y4 := blk_cell HX3.out 4 (.int .i64 x.at_) rfl
        clear hs3 hk3
        go_wp2_with fail
        refine (HVAL.out x HNX.out deep hdp w0 b (Vl.put [44, 32] st) c1 c2 m1 m2 w3 HE.out h3 HS3.out (by rw [put_len]; simp only [List.length_cons, List.length_nil]; omega) HDX.out).mono ?_
        rintro r w4 ⟨rfl, hs4, hk4⟩
        have HS4 := Lib.hid hs4
        have HK4 : Hid (OK8 b wG w4) := Lib.hid (HK3.out.trans hk4)
        clear hs4 hk4
        have hle := Vl.Z.show_le deep x (Vl.put [44, 32] st)
        rw [put_len] at hle
        simp only [List.length_cons, List.length_nil] at hle
        go_wp2_with fail
        go_roundg (z.items.length + 1 - (j + 1))
        case measure => rw [HK.out]; omega
        case rel => exact ⟨j + 1, _, rfl, hjl, by go_num, HS4.out, HK4.out, by rw [HEQ3.out]; rfl, by omega⟩
    · have e1 : decide (j < z.items.length) = false := decide_eq_false hjl
      have HST : Hid (Vl.Z.shows deep true z.items s1 = st) := Lib.hid (by rw [HEQ.out, List.drop_eq_nil_of_le (by omega), Vl.Z.shows_nil])
      have hbd2 : st.out.length + FC + 4 ≤ 1000000000 := by omega
      have HXR := Lib.hid (ok8_at HOJ.out HXE'.out hxb (by decide))
      have z3 := blk_cell HXR.out 3 (.slice a2 z.fields.length n2) rfl
      have HKR := Lib.hid (HKE'.out.trans HOJ.out)
      obtain ⟨s2, hs2⟩ : ∃ q, q = st := ⟨_, rfl⟩
      rw [← hs2] at HST hbd2 HSJ
      obtain ⟨wF, hwF⟩ : ∃ q, q = wr := ⟨_, rfl⟩
      subst hwF
      clear hs2 HOJ HEQ hbd hj hjl HK hl2 hcc
      go_wp2_with fail
      go_loopg [42] (z.fields.length + 1) (fun k i wr => ∃ (j : Nat) (st : Vl.Sh), k = z.fields.length + 1 - j ∧ j ≤ z.fields.length ∧ i = .int .i64 j ∧ SW w0 b st wr ∧ OK8 b wF wr ∧ Vl.ZA.shows deep true z.fields s2 = Vl.ZA.shows deep (decide (j = 0)) (z.fields.drop j) st ∧ st.out.length + Vl.ZA.costs (z.fields.drop j) + 4 ≤ 1000000000)
      case atStart => exact ⟨0, s2, rfl, Nat.zero_le _, rfl, HSJ.out, Lib.OthersKept.refl _ _ _, rfl, by rw [List.drop_zero, ← HFC.out]; omega⟩
      case round =>
        obtain ⟨j, st, hk, hj, rfl, hsw, hok, heq, hbd⟩ := hrel
        have HK := Lib.hid hk
        clear HSJ
        have HSJ := Lib.hid hsw
        have HOJ := Lib.hid hok
        have HEQ := Lib.hid heq
        clear hk hsw hok heq z3
        by_cases hjl : j < z.fields.length
        · have e1 : decide (j < z.fields.length) = true := decide_eq_true hjl
          obtain ⟨x, hx⟩ : ∃ q, z.fields[j]? = some q := ⟨z.fields[j], List.getElem?_eq_getElem hjl⟩
          have hdr : z.fields.drop j = x :: z.fields.drop (j + 1) := by rw [List.drop_eq_getElem_cons hjl]; rw [List.getElem?_eq_getElem hjl] at hx; rw [Option.some.inj hx]
          have HEQ3 : Hid (Vl.ZA.shows deep true z.fields s2 = Vl.ZA.shows deep false (z.fields.drop (j + 1)) (Vl.ZA.show deep x (Vl.sep (decide (j = 0)) st))) := Lib.hid (by rw [HEQ.out, hdr, Vl.ZA.shows_cons])
          rw [hdr, Vl.ZA.costs] at hbd
          have HNX := Lib.hid (HNF.out x (List.mem_of_getElem? hx))
          have hxc := Vl.ZA.cost_eq x
          obtain ⟨g, o, cs, ha, -, hgl, hlen, hcell, hd⟩ := HRF.out.el j x.d (by rw [List.getElem?_map, hx]; rfl)
          obtain ⟨c1, c2, m1, m2, rfl, hdv⟩ := ZA_open hd
          subst ha
          have k0 : wr.cell? ⟨g, o + j * 7, none⟩ = _ := (HSJ.out.bel.cell (p := ⟨g, o + j * 7, none⟩) hgl).trans (hcell 0 _ rfl)
          have k1 : wr.cell? ⟨g, o + j * 7 + 1, none⟩ = _ := (HSJ.out.bel.cell (p := ⟨g, o + j * 7 + 1, none⟩) hgl).trans (hcell 1 _ rfl)
          have k2 : wr.cell? ⟨g, o + j * 7 + 2, none⟩ = _ := (HSJ.out.bel.cell (p := ⟨g, o + j * 7 + 2, none⟩) hgl).trans (hcell 2 _ rfl)
          have k3 : wr.cell? ⟨g, o + j * 7 + 3, none⟩ = _ := (HSJ.out.bel.cell (p := ⟨g, o + j * 7 + 3, none⟩) hgl).trans (hcell 3 _ rfl)
          have k4 : wr.cell? ⟨g, o + j * 7 + 4, none⟩ = _ := (HSJ.out.bel.cell (p := ⟨g, o + j * 7 + 4, none⟩) hgl).trans (hcell 4 _ rfl)
          have k5 : wr.cell? ⟨g, o + j * 7 + 5, none⟩ = _ := (HSJ.out.bel.cell (p := ⟨g, o + j * 7 + 5, none⟩) hgl).trans (hcell 5 _ rfl)
          have k6 : wr.cell? ⟨g, o + j * 7 + 6, none⟩ = _ := (HSJ.out.bel.cell (p := ⟨g, o + j * 7 + 6, none⟩) hgl).trans (hcell 6 _ rfl)
          have HDX := Lib.hid hdv
          obtain ⟨wb, hwb⟩ : ∃ q, q = wr.alloc (.cells #[.string ⟨x.name.toArray⟩, .int .i64 x.v.kind, .string ⟨x.v.text.toArray⟩, .slice c1 x.v.items.length m1, .slice c2 x.v.fields.length m2, .int .i64 x.v.at_, .int .i64 x.at_] 72) := ⟨_, rfl⟩
          have HSB : Hid (SW w0 b st wb) := Lib.hid (by rw [hwb]; exact HSJ.out.alloc _)
          have HKB : Hid (OK8 b wF wb) := Lib.hid (by rw [hwb]; exact HOJ.out.trans (ok8_below ((Below.refl _ _).alloc (Nat.le_refl _) _)))
          have HXB : Hid (wb.heap[wr.heap.size]? = some (.cells #[.string ⟨x.name.toArray⟩, .int .i64 x.v.kind, .string ⟨x.v.text.toArray⟩, .slice c1 x.v.items.length m1, .slice c2 x.v.fields.length m2, .int .i64 x.v.at_, .int .i64 x.at_] 72 (0, 0))) := Lib.hid (by rw [hwb]; exact heap_at_new _ _)
          have HWB := Lib.hid hwb
          have hxne : wr.heap.size ≠ b := by have := HSJ.out.sh.lt; omega
          clear hx hdr hlen hcell hd hdv hwb
          by_cases hj0 : j = 0
          · have hj1 : decide (j = 0) = true := decide_eq_true hj0
            rw [hj1] at HEQ3
            have e2 : decide ((0 : Int) < (j : Int)) = false := decide_eq_false (by omega)
            have e2n : decide (0 < j) = false := decide_eq_false (by omega)
            clear hj0 hj1
            go_wp2_with fail
            rw [← HWB.out]
            refine (lexName_any ⟨x.name.toArray⟩ wb (by show x.name.length ≤ _; omega)).mono ?_
            rintro r w5' ⟨rfl, hw5⟩
            obtain rfl := hw5.symm
            clear hw5
            go_wp2_with fail
            have HNEED := HSB.out.need (Lx.isName x.name)
            refine HNEED.mono ?_
            clear HNEED
            rintro r w5 ⟨rfl, hs5, hk5⟩
            have HS5 := Lib.hid hs5
            have HK5 := Lib.hid (HKB.out.trans hk5)
            have HX5 := Lib.hid (ok8_at hk5 HXB.out hxne (by decide))
            clear hs5 hk5 
            have y0 := blk_cell HX5.out 0 (.string ⟨x.name.toArray⟩) rfl
            have y1 := blk_cell HX5.out 1 (.int .i64 x.v.kind) rfl
            have y2 := blk_cell HX5.out 2 (.string ⟨x.v.text.toArray⟩) rfl
            have y3 := blk_cell HX5.out 3 (.slice c1 x.v.items.length m1) rfl
            have y4 := blk_cell HX5.out 4 (.slice c2 x.v.fields.length m2) rfl
            have y5 := blk_cell HX5.out 5 (.int .i64 x.v.at_) rfl
            have y6 := blk_cell HX5.out 6 (.int .i64 x.at_) rfl
            go_wp2_with fail
            refine wp_region_cuts [6] (by kernel_rfl) (by kernel_rfl) ?_; simp only [wpMix, List.take_succ_cons, List.take_zero, List.drop_succ_cons, List.drop_zero, Nat.sub_zero, Nat.reduceSub, Nat.reduceAdd]
            repeat (go_big_quiet_step (fail))
            refine wpQuiet_nil ?_; rintro _ ⟨nq, rfl⟩
            go_wp2_with fail
            rw [vcolon x.name]
            refine ((HS5.out.drewN nq).str (x.name ++ [58, 32]) (by rw [Vl.need_out]; simp only [List.length_append, List.length_cons, List.length_nil]; omega)).mono ?_
            rintro r w6 ⟨⟨m2', rfl⟩, hs6, hk6⟩
            have HS6 := Lib.hid hs6
            have HK6 : Hid (OK8 b wF w6) := Lib.hid (HK5.out.trans hk6)
            have HX6 := Lib.hid (ok8_at (w := w5.drewN nq) hk6 HX5.out hxne (by decide))
            clear hs6 hk6 y0 y1 y2 y3 y4 y5 y6
            go_wp2
            refine wpQuiet_nil ?_
            rintro _ ⟨nr, rfl⟩
            have y0 : (w6.drewN nr).cell? ⟨wr.heap.size, 0, none⟩ = _ := blk_cell HX6.out 0 (.string ⟨x.name.toArray⟩) rfl
            have y1 : (w6.drewN nr).cell? ⟨wr.heap.size, 1, none⟩ = _ := blk_cell HX6.out 1 (.int .i64 x.v.kind) rfl
            have y2 : (w6.drewN nr).cell? ⟨wr.heap.size, 2, none⟩ = _ := blk_cell HX6.out 2 (.string ⟨x.v.text.toArray⟩) rfl
            have y3 : (w6.drewN nr).cell? ⟨wr.heap.size, 3, none⟩ = _ := blk_cell HX6.out 3 (.slice c1 x.v.items.length m1) rfl
            have y4 : (w6.drewN nr).cell? ⟨wr.heap.size, 4, none⟩ = _ := blk_cell HX6.out 4 (.slice c2 x.v.fields.length m2) rfl
            have y5 : (w6.drewN nr).cell? ⟨wr.heap.size, 5, none⟩ = _ := blk_cell HX6.out 5 (.int .i64 x.v.at_) rfl
            have y6 : (w6.drewN nr).cell? ⟨wr.heap.size, 6, none⟩ = _ := blk_cell HX6.out 6 (.int .i64 x.at_) rfl
            go_wp2_with fail
            refine (HVAL.out x.v HNX.out deep hdp w0 b (Vl.put (x.name ++ [58, 32]) (Vl.need (Lx.isName x.name) st)) c1 c2 m1 m2 (w6.drewN nr) HE.out h3 (HS6.out.drewN nr) (by rw [put_len, Vl.need_out]; simp only [List.length_append, List.length_cons, List.length_nil]; omega) HDX.out).mono ?_
            rintro r w7 ⟨rfl, hs7, hk7⟩
            have HS7 := Lib.hid hs7
            have HK7 : Hid (OK8 b wF w7) := Lib.hid (HK6.out.trans hk7)
            clear hs7 hk7 y0 y1 y2 y3 y4 y5 y6
            have hle := Vl.Z.show_le deep x.v (Vl.put (x.name ++ [58, 32]) (Vl.need (Lx.isName x.name) st))
            rw [put_len, Vl.need_out] at hle
            simp only [List.length_append, List.length_cons, List.length_nil] at hle
            go_wp2_with fail
            go_roundg (z.fields.length + 1 - (j + 1))
            case measure => rw [HK.out]; omega
            case rel => exact ⟨j + 1, _, rfl, hjl, by go_num, HS7.out, HK7.out, by rw [HEQ3.out, Vl.ZA.show_eq]; rfl, by omega⟩
          · have hj1 : decide (j = 0) = false := decide_eq_false hj0
            rw [hj1] at HEQ3
            have e2 : decide ((0 : Int) < (j : Int)) = true := decide_eq_true (by omega)
            have e2n : decide (0 < j) = true := decide_eq_true (by omega)
            clear hj0 hj1
            go_wp2_with fail
            rw [← HWB.out]
            refine (HSB.out.str [44, 32] (by simp only [List.length_cons, List.length_nil]; omega)).mono ?_
            rintro r w3 ⟨⟨m, rfl⟩, hs3, hk3⟩
            have HS3 := Lib.hid hs3
            have HK3 := Lib.hid (HKB.out.trans hk3)
            have HX3 := Lib.hid (ok8_at hk3 HXB.out hxne (by decide))
            have y0 := blk_cell HX3.out 0 (.string ⟨x.name.toArray⟩) rfl
            have y1 := blk_cell HX3.out 1 (.int .i64 x.v.kind) rfl
            have y2 := blk_cell HX3.out 2 (.string ⟨x.v.text.toArray⟩) rfl
            have y3 := blk_cell HX3.out 3 (.slice c1 x.v.items.length m1) rfl
            have y4 := blk_cell HX3.out 4 (.slice c2 x.v.fields.length m2) rfl
            have y5 := blk_cell HX3.out 5 (.int .i64 x.v.at_) rfl
            have y6 := blk_cell HX3.out 6 (.int .i64 x.at_) rfl
            clear hs3 hk3
            go_wp2_with fail
            refine (lexName_any ⟨x.name.toArray⟩ w3 (by show x.name.length ≤ _; omega)).mono ?_
            rintro r w5' ⟨rfl, hw5⟩
            obtain rfl := hw5.symm
            clear hw5
            go_wp2_with fail
            have HNEED := HS3.out.need (Lx.isName x.name)
            refine HNEED.mono ?_
            clear HNEED
            rintro r w5 ⟨rfl, hs5, hk5⟩
            have HS5 := Lib.hid hs5
            have HK5 := Lib.hid (HK3.out.trans hk5)
            have HX5 := Lib.hid (ok8_at hk5 HX3.out hxne (by decide))
            clear hs5 hk5 y0 y1 y2 y3 y4 y5 y6
            have y0 := blk_cell HX5.out 0 (.string ⟨x.name.toArray⟩) rfl
            have y1 := blk_cell HX5.out 1 (.int .i64 x.v.kind) rfl
            have y2 := blk_cell HX5.out 2 (.string ⟨x.v.text.toArray⟩) rfl
            have y3 := blk_cell HX5.out 3 (.slice c1 x.v.items.length m1) rfl
            have y4 := blk_cell HX5.out 4 (.slice c2 x.v.fields.length m2) rfl
            have y5 := blk_cell HX5.out 5 (.int .i64 x.v.at_) rfl
            have y6 := blk_cell HX5.out 6 (.int .i64 x.at_) rfl
            go_wp2_with fail
            refine wp_region_cuts [6] (by kernel_rfl) (by kernel_rfl) ?_; simp only [wpMix, List.take_succ_cons, List.take_zero, List.drop_succ_cons, List.drop_zero, Nat.sub_zero, Nat.reduceSub, Nat.reduceAdd]
            repeat (go_big_quiet_step (fail))
            refine wpQuiet_nil ?_; rintro _ ⟨nq, rfl⟩
            go_wp2_with fail
            rw [vcolon x.name]
            refine ((HS5.out.drewN nq).str (x.name ++ [58, 32]) (by rw [Vl.need_out]; simp only [List.length_append, List.length_cons, List.length_nil, put_len]; omega)).mono ?_
            rintro r w6 ⟨⟨m2', rfl⟩, hs6, hk6⟩
            have HS6 := Lib.hid hs6
            have HK6 : Hid (OK8 b wF w6) := Lib.hid (HK5.out.trans hk6)
            have HX6 := Lib.hid (ok8_at (w := w5.drewN nq) hk6 HX5.out hxne (by decide))
            clear hs6 hk6 y0 y1 y2 y3 y4 y5 y6
            go_wp2
            refine wpQuiet_nil ?_
            rintro _ ⟨nr, rfl⟩
            have y0 : (w6.drewN nr).cell? ⟨wr.heap.size, 0, none⟩ = _ := blk_cell HX6.out 0 (.string ⟨x.name.toArray⟩) rfl
            have y1 : (w6.drewN nr).cell? ⟨wr.heap.size, 1, none⟩ = _ := blk_cell HX6.out 1 (.int .i64 x.v.kind) rfl
            have y2 : (w6.drewN nr).cell? ⟨wr.heap.size, 2, none⟩ = _ := blk_cell HX6.out 2 (.string ⟨x.v.text.toArray⟩) rfl
            have y3 : (w6.drewN nr).cell? ⟨wr.heap.size, 3, none⟩ = _ := blk_cell HX6.out 3 (.slice c1 x.v.items.length m1) rfl
            have y4 : (w6.drewN nr).cell? ⟨wr.heap.size, 4, none⟩ = _ := blk_cell HX6.out 4 (.slice c2 x.v.fields.length m2) rfl
            have y5 : (w6.drewN nr).cell? ⟨wr.heap.size, 5, none⟩ = _ := blk_cell HX6.out 5 (.int .i64 x.v.at_) rfl
            have y6 : (w6.drewN nr).cell? ⟨wr.heap.size, 6, none⟩ = _ := blk_cell HX6.out 6 (.int .i64 x.at_) rfl
            go_wp2_with fail
            refine (HVAL.out x.v HNX.out deep hdp w0 b (Vl.put (x.name ++ [58, 32]) (Vl.need (Lx.isName x.name) (Vl.put [44, 32] st))) c1 c2 m1 m2 (w6.drewN nr) HE.out h3 (HS6.out.drewN nr) (by rw [put_len, Vl.need_out]; simp only [List.length_append, List.length_cons, List.length_nil, put_len]; omega) HDX.out).mono ?_
            rintro r w7 ⟨rfl, hs7, hk7⟩
            have HS7 := Lib.hid hs7
            have HK7 : Hid (OK8 b wF w7) := Lib.hid (HK6.out.trans hk7)
            clear hs7 hk7 y0 y1 y2 y3 y4 y5 y6
            have hle := Vl.Z.show_le deep x.v (Vl.put (x.name ++ [58, 32]) (Vl.need (Lx.isName x.name) (Vl.put [44, 32] st)))
            rw [put_len, Vl.need_out] at hle
            simp only [List.length_append, List.length_cons, List.length_nil, put_len] at hle
            go_wp2_with fail
            go_roundg (z.fields.length + 1 - (j + 1))
            case measure => rw [HK.out]; omega
            case rel => exact ⟨j + 1, _, rfl, hjl, by go_num, HS7.out, HK7.out, by rw [HEQ3.out, Vl.ZA.show_eq]; rfl, by omega⟩
        · have e1 : decide (j < z.fields.length) = false := decide_eq_false hjl
          have HST2 : Hid (Vl.ZA.shows deep true z.fields s2 = st) := Lib.hid (by rw [HEQ.out, List.drop_eq_nil_of_le (by omega), Vl.ZA.shows_nil])
          go_wp2_with fail
          refine wp_region_cuts [5] (by kernel_rfl) (by kernel_rfl) ?_; simp only [wpMix, List.take_succ_cons, List.take_zero, List.drop_succ_cons, List.drop_zero, Nat.sub_zero, Nat.reduceSub, Nat.reduceAdd]
          repeat (go_big_quiet_step (fail))
          refine wpQuiet_nil ?_; rintro _ ⟨nq, rfl⟩
          go_wp2_with fail
          refine ((HSJ.out.drewN nq).byte 93 (by omega)).mono ?_
          rintro r w9 ⟨rfl, hs9, hk9⟩
          have HS9 := Lib.hid hs9
          have HK9 : Hid (OK8 b w w9) := Lib.hid (HKR.out.trans (HOJ.out.trans hk9))
          clear hs9 hk9
          go_wp2
          refine wpQuiet_nil ?_
          rintro _ ⟨nr, rfl⟩
          go_wp2
          go_end0
          refine ⟨rfl, ?_, HK9.out⟩
          rw [HFIN.out, HST.out, HST2.out]
          exact HS9.out.drewN nr
set_option maxHeartbeats 4000000 in
set_option maxRecDepth 100000 in
theorem inner9 (N : Nat) (VAL : ValC N) (z : Vl.Z) (hN : z.n ≤ N + 1) (hk : z.kind = 9) (deep : Nat) (hdp : deep ≤ 16) (w0 : World) (b : Nat) (s : Vl.Sh) (a1 a2 : Option Addr) (n1 n2 : Nat) (w : World) (hE : Env w0) (h3 : 3 ≤ w0.heap.size) (hS : SW w0 b s w) (hlen : s.out.length + z.cost ≤ 1000000000)
    (hR : Reads w0 (fun _ => True) z.d (zcells z a1 a2 n1 n2).toList) :
    Calls Tryz.prog 91 #[.pointer (some ⟨b, 0, none⟩), .agg (zcells z a1 a2 n1 n2), .int .i64 deep] w (fun e w' => e = .returned (.tuple #[]) ∧ SW w0 b (z.inner deep s) w' ∧ OK8 b w w') := by
  unfold zcells at hR ⊢
  have hcost := Vl.Z.cost_eq z
  have hnn := Vl.Z.n_eq z
  have hil := Vl.Z.ns_len z.items
  have hfl := Vl.ZA.ns_len z.fields
  have hnc := Vl.Z.n_cost z
  obtain ⟨x1, x2, x3, x4, ex, hxi, hxf⟩ := Z_open hR
  obtain ⟨rfl, rfl, rfl, rfl⟩ : a1 = x1 ∧ n1 = x3 ∧ a2 = x2 ∧ n2 = x4 := by simpa [and_assoc] using ex
  obtain ⟨w1, hw1⟩ : ∃ v, v = w.alloc (.cells #[.int .i64 z.kind, .string ⟨z.text.toArray⟩, .slice a1 z.items.length n1, .slice a2 z.fields.length n2, .int .i64 z.at_] 25) := ⟨_, rfl⟩
  have hS1 : SW w0 b s w1 := by rw [hw1]; exact hS.alloc _
  have hx1 : w1.heap[w.heap.size]? = some (.cells #[.int .i64 z.kind, .string ⟨z.text.toArray⟩, .slice a1 z.items.length n1, .slice a2 z.fields.length n2, .int .i64 z.at_] 25 (0, 0)) := by rw [hw1]; exact heap_at_new _ _
  have hxb : w.heap.size ≠ b := by have := hS.sh.lt; omega
  have hk1 : OK8 b w w1 := by rw [hw1]; exact ok8_below ((Below.refl _ _).alloc (Nat.le_refl _) _)
  have HE := Lib.hid hE
  have HVAL := Lib.hid VAL
  have HW1 := Lib.hid hw1
  have HS1 := Lib.hid hS1
  have HX1 := Lib.hid hx1
  have HK1 := Lib.hid hk1
  have HRI := Lib.hid hxi
  have HRF := Lib.hid hxf
  have HNI : Hid (∀ x ∈ z.items, x.n ≤ N) := Lib.hid (fun x hx => by have := Vl.Z.ns_mem hx; omega)
  have HNF : Hid (∀ x ∈ z.fields, x.v.n ≤ N) := Lib.hid (fun x hx => by have := Vl.ZA.ns_mem hx; have := Vl.ZA.n_eq x; omega)
  have e9 : (z.kind == 9) = true := by rw [beq_iff_eq]; exact hk
  have HOP : Hid (Vl.opn z.kind = [123]) := Lib.hid (by rw [hk]; rfl)
  have HSHT : Hid (Vl.shut z.kind = [125]) := Lib.hid (by rw [hk]; rfl)
  have hb0 : bt ⟨#[123, 125]⟩ 0 = 123 := rfl
  have hb1 : bt ⟨#[123, 125]⟩ 1 = 125 := rfl
  have hib : z.items.length ≤ 1000000000 := by omega
  have hfb : z.fields.length ≤ 1000000000 := by omega
  obtain ⟨IC, hIC⟩ : ∃ q, q = Vl.Z.costs z.items := ⟨_, rfl⟩
  obtain ⟨FC, hFC⟩ : ∃ q, q = Vl.ZA.costs z.fields := ⟨_, rfl⟩
  have hcc : s.out.length + 12 + IC + FC ≤ 1000000000 := by omega
  have HIC := Lib.hid hIC
  have HFC := Lib.hid hFC
  clear hE VAL hw1 hS1 hx1 hk1 hR hS ex hxi hxf hN hk hcost hnn hil hfl hnc hlen hIC hFC
  go_enter Tryz.func91, Tryz.ntmps91
  go_wp2_with fail
  rw [← HW1.out]
  refine wp_region_cuts [5] (by kernel_rfl) (by kernel_rfl) ?_; simp only [wpMix, List.take_succ_cons, List.take_zero, List.drop_succ_cons, List.drop_zero, Nat.sub_zero, Nat.reduceSub, Nat.reduceAdd]
  repeat (go_big_quiet_step (fail))
  refine wpQuiet_nil ?_; rintro _ ⟨nq, rfl⟩
  go_wp2_with fail
  refine ((HS1.out.drewN nq).byte 123 (by omega)).mono ?_
  rintro r wE ⟨rfl, hs2, hk2⟩
  have HS2 := Lib.hid hs2
  have HKE : Hid (OK8 b w wE) := Lib.hid (HK1.out.trans hk2)
  have HXE := Lib.hid (ok8_at (w := w1.drewN nq) hk2 HX1.out hxb (by decide))
  have hl2 := put_len [123] s
  obtain ⟨s1, hs1⟩ : ∃ q, q = Vl.put [123] s := ⟨_, rfl⟩
  rw [← hs1] at HS2 hl2
  simp only [List.length_cons, List.length_nil] at hl2
  have HFIN : Hid (z.inner deep s = Vl.put [125] (Vl.ZA.shows deep true z.fields (Vl.Z.shows deep true z.items s1))) := Lib.hid (by unfold Vl.Z.inner; rw [HOP.out, HSHT.out, hs1])
  clear hs2 hk2 hs1
  go_wp2
  refine wpQuiet_nil ?_
  rintro _ ⟨nr, rfl⟩
  obtain ⟨wG, hwE⟩ : ∃ q, q = wE.drewN nr := ⟨_, rfl⟩
  have HS2' : Hid (SW w0 b s1 wG) := Lib.hid (by rw [hwE]; exact HS2.out.drewN nr)
  have HKE' : Hid (OK8 b w wG) := Lib.hid (by rw [hwE]; exact HKE.out)
  have HXE' : Hid (wG.heap[w.heap.size]? = some (.cells #[.int .i64 z.kind, .string ⟨z.text.toArray⟩, .slice a1 z.items.length n1, .slice a2 z.fields.length n2, .int .i64 z.at_] 25 (0, 0))) := Lib.hid (by rw [hwE]; exact HXE.out)
  rw [← hwE]
  clear hwE HS2 HKE HXE
  have z2 := blk_cell HXE'.out 2 (.slice a1 z.items.length n1) rfl
  go_wp2_with fail
  go_loopg [23] (z.items.length + 1) (fun k i wr => ∃ (j : Nat) (st : Vl.Sh), k = z.items.length + 1 - j ∧ j ≤ z.items.length ∧ i = .int .i64 j ∧ SW w0 b st wr ∧ OK8 b wG wr ∧ Vl.Z.shows deep true z.items s1 = Vl.Z.shows deep (decide (j = 0)) (z.items.drop j) st ∧ st.out.length + Vl.Z.costs (z.items.drop j) + FC + 4 ≤ 1000000000)
  case atStart => exact ⟨0, s1, rfl, Nat.zero_le _, rfl, HS2'.out, Lib.OthersKept.refl _ _ _, rfl, by rw [List.drop_zero, ← HIC.out]; omega⟩
  case round =>
    obtain ⟨j, st, hk, hj, rfl, hsw, hok, heq, hbd⟩ := hrel
    have HK := Lib.hid hk
    have HSJ := Lib.hid hsw
    have HOJ := Lib.hid hok
    have HEQ := Lib.hid heq
    clear hk hsw hok heq z2
    by_cases hjl : j < z.items.length
    · have e1 : decide (j < z.items.length) = true := decide_eq_true hjl
      obtain ⟨x, hx⟩ : ∃ q, z.items[j]? = some q := ⟨z.items[j], List.getElem?_eq_getElem hjl⟩
      have hdr : z.items.drop j = x :: z.items.drop (j + 1) := by rw [List.drop_eq_getElem_cons hjl]; rw [List.getElem?_eq_getElem hjl] at hx; rw [Option.some.inj hx]
      have HEQ3 : Hid (Vl.Z.shows deep true z.items s1 = Vl.Z.shows deep false (z.items.drop (j + 1)) (Vl.Z.show deep x (Vl.sep (decide (j = 0)) st))) := Lib.hid (by rw [HEQ.out, hdr, Vl.Z.shows_cons])
      rw [hdr, Vl.Z.costs] at hbd
      have HNX := Lib.hid (HNI.out x (List.mem_of_getElem? hx))
      have hxc := Vl.Z.cost_eq x
      obtain ⟨g, o, cs, ha, -, hgl, hlen, hcell, hd⟩ := HRI.out.el j x.d (by rw [List.getElem?_map, hx]; rfl)
      obtain ⟨c1, c2, m1, m2, rfl, -, -⟩ := Z_open hd
      subst ha
      have k0 : wr.cell? ⟨g, o + j * 5, none⟩ = _ := (HSJ.out.bel.cell (p := ⟨g, o + j * 5, none⟩) hgl).trans (hcell 0 _ rfl)
      have k1 : wr.cell? ⟨g, o + j * 5 + 1, none⟩ = _ := (HSJ.out.bel.cell (p := ⟨g, o + j * 5 + 1, none⟩) hgl).trans (hcell 1 _ rfl)
      have k2 : wr.cell? ⟨g, o + j * 5 + 2, none⟩ = _ := (HSJ.out.bel.cell (p := ⟨g, o + j * 5 + 2, none⟩) hgl).trans (hcell 2 _ rfl)
      have k3 : wr.cell? ⟨g, o + j * 5 + 3, none⟩ = _ := (HSJ.out.bel.cell (p := ⟨g, o + j * 5 + 3, none⟩) hgl).trans (hcell 3 _ rfl)
      have k4 : wr.cell? ⟨g, o + j * 5 + 4, none⟩ = _ := (HSJ.out.bel.cell (p := ⟨g, o + j * 5 + 4, none⟩) hgl).trans (hcell 4 _ rfl)
      have HDX := Lib.hid hd
      obtain ⟨wb, hwb⟩ : ∃ q, q = wr.alloc (.cells #[.int .i64 x.kind, .string ⟨x.text.toArray⟩, .slice c1 x.items.length m1, .slice c2 x.fields.length m2, .int .i64 x.at_] 25) := ⟨_, rfl⟩
      have HSB : Hid (SW w0 b st wb) := Lib.hid (by rw [hwb]; exact HSJ.out.alloc _)
      have HKB : Hid (OK8 b wG wb) := Lib.hid (by rw [hwb]; exact HOJ.out.trans (ok8_below ((Below.refl _ _).alloc (Nat.le_refl _) _)))
      have HXB : Hid (wb.heap[wr.heap.size]? = some (.cells #[.int .i64 x.kind, .string ⟨x.text.toArray⟩, .slice c1 x.items.length m1, .slice c2 x.fields.length m2, .int .i64 x.at_] 25 (0, 0))) := Lib.hid (by rw [hwb]; exact heap_at_new _ _)
      have HWB := Lib.hid hwb
      have hxne : wr.heap.size ≠ b := by have := HSJ.out.sh.lt; omega
      clear hx hdr hlen hcell hd hwb
      by_cases hj0 : j = 0
      · have hj1 : decide (j = 0) = true := decide_eq_true hj0
        rw [hj1] at HEQ3
        have e2 : decide ((0 : Int) < (j : Int)) = false := decide_eq_false (by omega)
        have e2n : decide (0 < j) = false := decide_eq_false (by omega)
        clear hj0 hj1
        go_wp2_with fail
        rw [← HWB.out]
        refine (HVAL.out x HNX.out deep hdp w0 b st c1 c2 m1 m2 wb HE.out h3 HSB.out (by omega) HDX.out).mono ?_
        rintro r w4 ⟨rfl, hs4, hk4⟩
        have HS4 := Lib.hid hs4
        have HK4 : Hid (OK8 b wG w4) := Lib.hid (HKB.out.trans hk4)
        clear hs4 hk4
        have hle := Vl.Z.show_le deep x st
        go_wp2_with fail
        go_roundg (z.items.length + 1 - (j + 1))
        case measure => rw [HK.out]; omega
        case rel => exact ⟨j + 1, _, rfl, hjl, by go_num, HS4.out, HK4.out, by rw [HEQ3.out]; rfl, by omega⟩
      · have hj1 : decide (j = 0) = false := decide_eq_false hj0
        rw [hj1] at HEQ3
        have e2 : decide ((0 : Int) < (j : Int)) = true := decide_eq_true (by omega)
        have e2n : decide (0 < j) = true := decide_eq_true (by omega)
        clear hj0 hj1
        go_wp2_with fail
        rw [← HWB.out]
        refine (HSB.out.str [44, 32] (by simp only [List.length_cons, List.length_nil]; omega)).mono ?_
        rintro r w3 ⟨⟨m, rfl⟩, hs3, hk3⟩
        have HS3 := Lib.hid hs3
        have HK3 := Lib.hid (HKB.out.trans hk3)
        have HX3 := Lib.hid (ok8_at hk3 HXB.out hxne (by decide))
        have y0 := blk_cell HX3.out 0 (.int .i64 x.kind) rfl
        have y1 := blk_cell HX3.out 1 (.string ⟨x.text.toArray⟩) rfl
        have y2 := blk_cell HX3.out 2 (.slice c1 x.items.length m1) rfl
        have y3 := blk_cell HX3.out 3 (.slice c2 x.fields.length m2) rfl
        have y4 := blk_cell HX3.out 4 (.int .i64 x.at_) rfl
        clear hs3 hk3
        go_wp2_with fail
        refine (HVAL.out x HNX.out deep hdp w0 b (Vl.put [44, 32] st) c1 c2 m1 m2 w3 HE.out h3 HS3.out (by rw [put_len]; simp only [List.length_cons, List.length_nil]; omega) HDX.out).mono ?_
        rintro r w4 ⟨rfl, hs4, hk4⟩
        have HS4 := Lib.hid hs4
        have HK4 : Hid (OK8 b wG w4) := Lib.hid (HK3.out.trans hk4)
        clear hs4 hk4
        have hle := Vl.Z.show_le deep x (Vl.put [44, 32] st)
        rw [put_len] at hle
        simp only [List.length_cons, List.length_nil] at hle
        go_wp2_with fail
        go_roundg (z.items.length + 1 - (j + 1))
        case measure => rw [HK.out]; omega
        case rel => exact ⟨j + 1, _, rfl, hjl, by go_num, HS4.out, HK4.out, by rw [HEQ3.out]; rfl, by omega⟩
    · have e1 : decide (j < z.items.length) = false := decide_eq_false hjl
      have HST : Hid (Vl.Z.shows deep true z.items s1 = st) := Lib.hid (by rw [HEQ.out, List.drop_eq_nil_of_le (by omega), Vl.Z.shows_nil])
      have hbd2 : st.out.length + FC + 4 ≤ 1000000000 := by omega
      have HXR := Lib.hid (ok8_at HOJ.out HXE'.out hxb (by decide))
      have z3 := blk_cell HXR.out 3 (.slice a2 z.fields.length n2) rfl
      have HKR := Lib.hid (HKE'.out.trans HOJ.out)
      obtain ⟨s2, hs2⟩ : ∃ q, q = st := ⟨_, rfl⟩
      rw [← hs2] at HST hbd2 HSJ
      obtain ⟨wF, hwF⟩ : ∃ q, q = wr := ⟨_, rfl⟩
      subst hwF
      clear hs2 HOJ HEQ hbd hj hjl HK hl2 hcc
      go_wp2_with fail
      go_loopg [42] (z.fields.length + 1) (fun k i wr => ∃ (j : Nat) (st : Vl.Sh), k = z.fields.length + 1 - j ∧ j ≤ z.fields.length ∧ i = .int .i64 j ∧ SW w0 b st wr ∧ OK8 b wF wr ∧ Vl.ZA.shows deep true z.fields s2 = Vl.ZA.shows deep (decide (j = 0)) (z.fields.drop j) st ∧ st.out.length + Vl.ZA.costs (z.fields.drop j) + 4 ≤ 1000000000)
      case atStart => exact ⟨0, s2, rfl, Nat.zero_le _, rfl, HSJ.out, Lib.OthersKept.refl _ _ _, rfl, by rw [List.drop_zero, ← HFC.out]; omega⟩
      case round =>
        obtain ⟨j, st, hk, hj, rfl, hsw, hok, heq, hbd⟩ := hrel
        have HK := Lib.hid hk
        clear HSJ
        have HSJ := Lib.hid hsw
        have HOJ := Lib.hid hok
        have HEQ := Lib.hid heq
        clear hk hsw hok heq z3
        by_cases hjl : j < z.fields.length
        · have e1 : decide (j < z.fields.length) = true := decide_eq_true hjl
          obtain ⟨x, hx⟩ : ∃ q, z.fields[j]? = some q := ⟨z.fields[j], List.getElem?_eq_getElem hjl⟩
          have hdr : z.fields.drop j = x :: z.fields.drop (j + 1) := by rw [List.drop_eq_getElem_cons hjl]; rw [List.getElem?_eq_getElem hjl] at hx; rw [Option.some.inj hx]
          have HEQ3 : Hid (Vl.ZA.shows deep true z.fields s2 = Vl.ZA.shows deep false (z.fields.drop (j + 1)) (Vl.ZA.show deep x (Vl.sep (decide (j = 0)) st))) := Lib.hid (by rw [HEQ.out, hdr, Vl.ZA.shows_cons])
          rw [hdr, Vl.ZA.costs] at hbd
          have HNX := Lib.hid (HNF.out x (List.mem_of_getElem? hx))
          have hxc := Vl.ZA.cost_eq x
          obtain ⟨g, o, cs, ha, -, hgl, hlen, hcell, hd⟩ := HRF.out.el j x.d (by rw [List.getElem?_map, hx]; rfl)
          obtain ⟨c1, c2, m1, m2, rfl, hdv⟩ := ZA_open hd
          subst ha
          have k0 : wr.cell? ⟨g, o + j * 7, none⟩ = _ := (HSJ.out.bel.cell (p := ⟨g, o + j * 7, none⟩) hgl).trans (hcell 0 _ rfl)
          have k1 : wr.cell? ⟨g, o + j * 7 + 1, none⟩ = _ := (HSJ.out.bel.cell (p := ⟨g, o + j * 7 + 1, none⟩) hgl).trans (hcell 1 _ rfl)
          have k2 : wr.cell? ⟨g, o + j * 7 + 2, none⟩ = _ := (HSJ.out.bel.cell (p := ⟨g, o + j * 7 + 2, none⟩) hgl).trans (hcell 2 _ rfl)
          have k3 : wr.cell? ⟨g, o + j * 7 + 3, none⟩ = _ := (HSJ.out.bel.cell (p := ⟨g, o + j * 7 + 3, none⟩) hgl).trans (hcell 3 _ rfl)
          have k4 : wr.cell? ⟨g, o + j * 7 + 4, none⟩ = _ := (HSJ.out.bel.cell (p := ⟨g, o + j * 7 + 4, none⟩) hgl).trans (hcell 4 _ rfl)
          have k5 : wr.cell? ⟨g, o + j * 7 + 5, none⟩ = _ := (HSJ.out.bel.cell (p := ⟨g, o + j * 7 + 5, none⟩) hgl).trans (hcell 5 _ rfl)
          have k6 : wr.cell? ⟨g, o + j * 7 + 6, none⟩ = _ := (HSJ.out.bel.cell (p := ⟨g, o + j * 7 + 6, none⟩) hgl).trans (hcell 6 _ rfl)
          have HDX := Lib.hid hdv
          obtain ⟨wb, hwb⟩ : ∃ q, q = wr.alloc (.cells #[.string ⟨x.name.toArray⟩, .int .i64 x.v.kind, .string ⟨x.v.text.toArray⟩, .slice c1 x.v.items.length m1, .slice c2 x.v.fields.length m2, .int .i64 x.v.at_, .int .i64 x.at_] 72) := ⟨_, rfl⟩
          have HSB : Hid (SW w0 b st wb) := Lib.hid (by rw [hwb]; exact HSJ.out.alloc _)
          have HKB : Hid (OK8 b wF wb) := Lib.hid (by rw [hwb]; exact HOJ.out.trans (ok8_below ((Below.refl _ _).alloc (Nat.le_refl _) _)))
          have HXB : Hid (wb.heap[wr.heap.size]? = some (.cells #[.string ⟨x.name.toArray⟩, .int .i64 x.v.kind, .string ⟨x.v.text.toArray⟩, .slice c1 x.v.items.length m1, .slice c2 x.v.fields.length m2, .int .i64 x.v.at_, .int .i64 x.at_] 72 (0, 0))) := Lib.hid (by rw [hwb]; exact heap_at_new _ _)
          have HWB := Lib.hid hwb
          have hxne : wr.heap.size ≠ b := by have := HSJ.out.sh.lt; omega
          clear hx hdr hlen hcell hd hdv hwb
          by_cases hj0 : j = 0
          · have hj1 : decide (j = 0) = true := decide_eq_true hj0
            rw [hj1] at HEQ3
            have e2 : decide ((0 : Int) < (j : Int)) = false := decide_eq_false (by omega)
            have e2n : decide (0 < j) = false := decide_eq_false (by omega)
            clear hj0 hj1
            go_wp2_with fail
            rw [← HWB.out]
            refine (lexName_any ⟨x.name.toArray⟩ wb (by show x.name.length ≤ _; omega)).mono ?_
            rintro r w5' ⟨rfl, hw5⟩
            obtain rfl := hw5.symm
            clear hw5
            go_wp2_with fail
            have HNEED := HSB.out.need (Lx.isName x.name)
            refine HNEED.mono ?_
            clear HNEED
            rintro r w5 ⟨rfl, hs5, hk5⟩
            have HS5 := Lib.hid hs5
            have HK5 := Lib.hid (HKB.out.trans hk5)
            have HX5 := Lib.hid (ok8_at hk5 HXB.out hxne (by decide))
            clear hs5 hk5 
            have y0 := blk_cell HX5.out 0 (.string ⟨x.name.toArray⟩) rfl
            have y1 := blk_cell HX5.out 1 (.int .i64 x.v.kind) rfl
            have y2 := blk_cell HX5.out 2 (.string ⟨x.v.text.toArray⟩) rfl
            have y3 := blk_cell HX5.out 3 (.slice c1 x.v.items.length m1) rfl
            have y4 := blk_cell HX5.out 4 (.slice c2 x.v.fields.length m2) rfl
            have y5 := blk_cell HX5.out 5 (.int .i64 x.v.at_) rfl
            have y6 := blk_cell HX5.out 6 (.int .i64 x.at_) rfl
            go_wp2_with fail
            refine wp_region_cuts [6] (by kernel_rfl) (by kernel_rfl) ?_; simp only [wpMix, List.take_succ_cons, List.take_zero, List.drop_succ_cons, List.drop_zero, Nat.sub_zero, Nat.reduceSub, Nat.reduceAdd]
            repeat (go_big_quiet_step (fail))
            refine wpQuiet_nil ?_; rintro _ ⟨nq, rfl⟩
            go_wp2_with fail
            rw [vcolon x.name]
            refine ((HS5.out.drewN nq).str (x.name ++ [58, 32]) (by rw [Vl.need_out]; simp only [List.length_append, List.length_cons, List.length_nil]; omega)).mono ?_
            rintro r w6 ⟨⟨m2', rfl⟩, hs6, hk6⟩
            have HS6 := Lib.hid hs6
            have HK6 : Hid (OK8 b wF w6) := Lib.hid (HK5.out.trans hk6)
            have HX6 := Lib.hid (ok8_at (w := w5.drewN nq) hk6 HX5.out hxne (by decide))
            clear hs6 hk6 y0 y1 y2 y3 y4 y5 y6
            go_wp2
            refine wpQuiet_nil ?_
            rintro _ ⟨nr, rfl⟩
            have y0 : (w6.drewN nr).cell? ⟨wr.heap.size, 0, none⟩ = _ := blk_cell HX6.out 0 (.string ⟨x.name.toArray⟩) rfl
            have y1 : (w6.drewN nr).cell? ⟨wr.heap.size, 1, none⟩ = _ := blk_cell HX6.out 1 (.int .i64 x.v.kind) rfl
            have y2 : (w6.drewN nr).cell? ⟨wr.heap.size, 2, none⟩ = _ := blk_cell HX6.out 2 (.string ⟨x.v.text.toArray⟩) rfl
            have y3 : (w6.drewN nr).cell? ⟨wr.heap.size, 3, none⟩ = _ := blk_cell HX6.out 3 (.slice c1 x.v.items.length m1) rfl
            have y4 : (w6.drewN nr).cell? ⟨wr.heap.size, 4, none⟩ = _ := blk_cell HX6.out 4 (.slice c2 x.v.fields.length m2) rfl
            have y5 : (w6.drewN nr).cell? ⟨wr.heap.size, 5, none⟩ = _ := blk_cell HX6.out 5 (.int .i64 x.v.at_) rfl
            have y6 : (w6.drewN nr).cell? ⟨wr.heap.size, 6, none⟩ = _ := blk_cell HX6.out 6 (.int .i64 x.at_) rfl
            go_wp2_with fail
            refine (HVAL.out x.v HNX.out deep hdp w0 b (Vl.put (x.name ++ [58, 32]) (Vl.need (Lx.isName x.name) st)) c1 c2 m1 m2 (w6.drewN nr) HE.out h3 (HS6.out.drewN nr) (by rw [put_len, Vl.need_out]; simp only [List.length_append, List.length_cons, List.length_nil]; omega) HDX.out).mono ?_
            rintro r w7 ⟨rfl, hs7, hk7⟩
            have HS7 := Lib.hid hs7
            have HK7 : Hid (OK8 b wF w7) := Lib.hid (HK6.out.trans hk7)
            clear hs7 hk7 y0 y1 y2 y3 y4 y5 y6
            have hle := Vl.Z.show_le deep x.v (Vl.put (x.name ++ [58, 32]) (Vl.need (Lx.isName x.name) st))
            rw [put_len, Vl.need_out] at hle
            simp only [List.length_append, List.length_cons, List.length_nil] at hle
            go_wp2_with fail
            go_roundg (z.fields.length + 1 - (j + 1))
            case measure => rw [HK.out]; omega
            case rel => exact ⟨j + 1, _, rfl, hjl, by go_num, HS7.out, HK7.out, by rw [HEQ3.out, Vl.ZA.show_eq]; rfl, by omega⟩
          · have hj1 : decide (j = 0) = false := decide_eq_false hj0
            rw [hj1] at HEQ3
            have e2 : decide ((0 : Int) < (j : Int)) = true := decide_eq_true (by omega)
            have e2n : decide (0 < j) = true := decide_eq_true (by omega)
            clear hj0 hj1
            go_wp2_with fail
            rw [← HWB.out]
            refine (HSB.out.str [44, 32] (by simp only [List.length_cons, List.length_nil]; omega)).mono ?_
            rintro r w3 ⟨⟨m, rfl⟩, hs3, hk3⟩
            have HS3 := Lib.hid hs3
            have HK3 := Lib.hid (HKB.out.trans hk3)
            have HX3 := Lib.hid (ok8_at hk3 HXB.out hxne (by decide))
            have y0 := blk_cell HX3.out 0 (.string ⟨x.name.toArray⟩) rfl
            have y1 := blk_cell HX3.out 1 (.int .i64 x.v.kind) rfl
            have y2 := blk_cell HX3.out 2 (.string ⟨x.v.text.toArray⟩) rfl
            have y3 := blk_cell HX3.out 3 (.slice c1 x.v.items.length m1) rfl
            have y4 := blk_cell HX3.out 4 (.slice c2 x.v.fields.length m2) rfl
            have y5 := blk_cell HX3.out 5 (.int .i64 x.v.at_) rfl
            have y6 := blk_cell HX3.out 6 (.int .i64 x.at_) rfl
            clear hs3 hk3
            go_wp2_with fail
            refine (lexName_any ⟨x.name.toArray⟩ w3 (by show x.name.length ≤ _; omega)).mono ?_
            rintro r w5' ⟨rfl, hw5⟩
            obtain rfl := hw5.symm
            clear hw5
            go_wp2_with fail
            have HNEED := HS3.out.need (Lx.isName x.name)
            refine HNEED.mono ?_
            clear HNEED
            rintro r w5 ⟨rfl, hs5, hk5⟩
            have HS5 := Lib.hid hs5
            have HK5 := Lib.hid (HK3.out.trans hk5)
            have HX5 := Lib.hid (ok8_at hk5 HX3.out hxne (by decide))
            clear hs5 hk5 y0 y1 y2 y3 y4 y5 y6
            have y0 := blk_cell HX5.out 0 (.string ⟨x.name.toArray⟩) rfl
            have y1 := blk_cell HX5.out 1 (.int .i64 x.v.kind) rfl
            have y2 := blk_cell HX5.out 2 (.string ⟨x.v.text.toArray⟩) rfl
            have y3 := blk_cell HX5.out 3 (.slice c1 x.v.items.length m1) rfl
            have y4 := blk_cell HX5.out 4 (.slice c2 x.v.fields.length m2) rfl
            have y5 := blk_cell HX5.out 5 (.int .i64 x.v.at_) rfl
            have y6 := blk_cell HX5.out 6 (.int .i64 x.at_) rfl
            go_wp2_with fail
            refine wp_region_cuts [6] (by kernel_rfl) (by kernel_rfl) ?_; simp only [wpMix, List.take_succ_cons, List.take_zero, List.drop_succ_cons, List.drop_zero, Nat.sub_zero, Nat.reduceSub, Nat.reduceAdd]
            repeat (go_big_quiet_step (fail))
            refine wpQuiet_nil ?_; rintro _ ⟨nq, rfl⟩
            go_wp2_with fail
            rw [vcolon x.name]
            refine ((HS5.out.drewN nq).str (x.name ++ [58, 32]) (by rw [Vl.need_out]; simp only [List.length_append, List.length_cons, List.length_nil, put_len]; omega)).mono ?_
            rintro r w6 ⟨⟨m2', rfl⟩, hs6, hk6⟩
            have HS6 := Lib.hid hs6
            have HK6 : Hid (OK8 b wF w6) := Lib.hid (HK5.out.trans hk6)
            have HX6 := Lib.hid (ok8_at (w := w5.drewN nq) hk6 HX5.out hxne (by decide))
            clear hs6 hk6 y0 y1 y2 y3 y4 y5 y6
            go_wp2
            refine wpQuiet_nil ?_
            rintro _ ⟨nr, rfl⟩
            have y0 : (w6.drewN nr).cell? ⟨wr.heap.size, 0, none⟩ = _ := blk_cell HX6.out 0 (.string ⟨x.name.toArray⟩) rfl
            have y1 : (w6.drewN nr).cell? ⟨wr.heap.size, 1, none⟩ = _ := blk_cell HX6.out 1 (.int .i64 x.v.kind) rfl
            have y2 : (w6.drewN nr).cell? ⟨wr.heap.size, 2, none⟩ = _ := blk_cell HX6.out 2 (.string ⟨x.v.text.toArray⟩) rfl
            have y3 : (w6.drewN nr).cell? ⟨wr.heap.size, 3, none⟩ = _ := blk_cell HX6.out 3 (.slice c1 x.v.items.length m1) rfl
            have y4 : (w6.drewN nr).cell? ⟨wr.heap.size, 4, none⟩ = _ := blk_cell HX6.out 4 (.slice c2 x.v.fields.length m2) rfl
            have y5 : (w6.drewN nr).cell? ⟨wr.heap.size, 5, none⟩ = _ := blk_cell HX6.out 5 (.int .i64 x.v.at_) rfl
            have y6 : (w6.drewN nr).cell? ⟨wr.heap.size, 6, none⟩ = _ := blk_cell HX6.out 6 (.int .i64 x.at_) rfl
            go_wp2_with fail
            refine (HVAL.out x.v HNX.out deep hdp w0 b (Vl.put (x.name ++ [58, 32]) (Vl.need (Lx.isName x.name) (Vl.put [44, 32] st))) c1 c2 m1 m2 (w6.drewN nr) HE.out h3 (HS6.out.drewN nr) (by rw [put_len, Vl.need_out]; simp only [List.length_append, List.length_cons, List.length_nil, put_len]; omega) HDX.out).mono ?_
            rintro r w7 ⟨rfl, hs7, hk7⟩
            have HS7 := Lib.hid hs7
            have HK7 : Hid (OK8 b wF w7) := Lib.hid (HK6.out.trans hk7)
            clear hs7 hk7 y0 y1 y2 y3 y4 y5 y6
            have hle := Vl.Z.show_le deep x.v (Vl.put (x.name ++ [58, 32]) (Vl.need (Lx.isName x.name) (Vl.put [44, 32] st)))
            rw [put_len, Vl.need_out] at hle
            simp only [List.length_append, List.length_cons, List.length_nil, put_len] at hle
            go_wp2_with fail
            go_roundg (z.fields.length + 1 - (j + 1))
            case measure => rw [HK.out]; omega
            case rel => exact ⟨j + 1, _, rfl, hjl, by go_num, HS7.out, HK7.out, by rw [HEQ3.out, Vl.ZA.show_eq]; rfl, by omega⟩
        · have e1 : decide (j < z.fields.length) = false := decide_eq_false hjl
          have HST2 : Hid (Vl.ZA.shows deep true z.fields s2 = st) := Lib.hid (by rw [HEQ.out, List.drop_eq_nil_of_le (by omega), Vl.ZA.shows_nil])
          go_wp2_with fail
          refine wp_region_cuts [5] (by kernel_rfl) (by kernel_rfl) ?_; simp only [wpMix, List.take_succ_cons, List.take_zero, List.drop_succ_cons, List.drop_zero, Nat.sub_zero, Nat.reduceSub, Nat.reduceAdd]
          repeat (go_big_quiet_step (fail))
          refine wpQuiet_nil ?_; rintro _ ⟨nq, rfl⟩
          go_wp2_with fail
          refine ((HSJ.out.drewN nq).byte 125 (by omega)).mono ?_
          rintro r w9 ⟨rfl, hs9, hk9⟩
          have HS9 := Lib.hid hs9
          have HK9 : Hid (OK8 b w w9) := Lib.hid (HKR.out.trans (HOJ.out.trans hk9))
          clear hs9 hk9
          go_wp2
          refine wpQuiet_nil ?_
          rintro _ ⟨nr, rfl⟩
          go_wp2
          go_end0
          refine ⟨rfl, ?_, HK9.out⟩
          rw [HFIN.out, HST.out, HST2.out]
          exact HS9.out.drewN nr
end Go.Proofs.YtefjgpkpplkkgaaGreatDoor
namespace Go.Proofs.YtefjgpkpplkkgaaGreatDoor
set_option linter.unusedSimpArgs false
set_option linter.unusedVariables false
open Go Go.RowKit

theorem inn_all : ∀ N : Nat, InnC N
  | 0 => fun z hN => by have := Vl.Z.n_pos z; omega
  | N + 1 => fun z hN hk deep hdp w0 b s a1 a2 n1 n2 w hE h3 hS hlen hR => by
    have V := value_step N (inn_all N)
    rcases hk with hk | hk
    · exact inner8 N V z hN hk deep hdp w0 b s a1 a2 n1 n2 w hE h3 hS hlen hR
    · exact inner9 N V z hN hk deep hdp w0 b s a1 a2 n1 n2 w hE h3 hS hlen hR
theorem val_all (N : Nat) : ValC N := value_step N (inn_all N)
namespace Vl
theorem put_ne {t : List UInt8} {s : Sh} (h : t ≠ []) : (put t s).out ≠ [] := by
  rw [put_out]
  intro e
  exact h (List.append_eq_nil_iff.1 e).2
theorem one_nil (k : Nat) : one [] k = false := by
  have : Lx.lex [] = .ok [⟨0, [], 0⟩] := by kernel_rfl
  unfold one
  rw [this]
theorem leaf_ne {k : Int} {t : List UInt8} (hk : 1 ≤ k ∧ k ≤ 7) (h : (leaf k t).1 = true) : (leaf k t).2 ≠ [] := by
  unfold leaf at h ⊢
  have hn : Lx.isName t = true → t ≠ [] := fun h e => by subst e; exact absurd h (by decide)
  split
  · simp
  rename_i h1
  rw [if_neg h1] at h
  split
  · rename_i h2
    rw [if_pos h2] at h
    intro e
    simp only at e h
    rw [e, one_nil] at h
    cases h
  rename_i h2
  rw [if_neg h2] at h
  split
  · rename_i h3
    rw [if_pos h3] at h
    intro e
    simp only at e h
    rw [e, one_nil] at h
    cases h
  rename_i h3
  rw [if_neg h3] at h
  split
  · rename_i h4
    rw [if_pos h4] at h
    simp only at h ⊢
    unfold quoteOf Lx.quote
    rw [if_pos h]
    simp
  rename_i h4
  rw [if_neg h4] at h
  split
  · rename_i h5
    rw [if_pos h5] at h
    intro e
    simp only at e h
    rw [e] at h
    exact absurd h (by decide)
  rename_i h5
  rw [if_neg h5] at h
  split
  · unfold Rd.sNull; simp
  rename_i h6
  rw [if_neg h6] at h
  simp only [Bool.and_eq_true] at h
  exact hn h.1
theorem need_bad {ok : Bool} {s : Sh} (h : (need ok s).bad = false) : ok = true ∧ s.bad = false := by
  unfold need at h
  simpa [and_comm] using h
theorem show_ne {deep : Nat} {z : Z} {s : Sh} (h : (z.show deep s).bad = false) : (z.show deep s).out ≠ [] := by
  by_cases h1 : 1 ≤ z.kind ∧ z.kind ≤ 7
  · rw [Z.show_leaf h1] at h ⊢
    exact put_ne (leaf_ne h1 (need_bad (show (need _ _).bad = false from h)).1)
  by_cases h2 : z.kind = 8 ∨ z.kind = 9
  · rw [Z.show_many h2] at h ⊢
    split
    · rename_i hb
      rw [if_pos hb] at h
      rw [hb] at h
      cases h
    · unfold Z.inner
      exact put_ne (by unfold shut; split <;> simp)
  · rw [Z.show_else h1 h2] at h
    have := (need_bad h).1
    cases this
/-- What 'Show' answers. -/
def shown (z : Z) : Sh := z.show 0 ⟨[], false⟩
end Vl
set_option maxHeartbeats 2000000 in
set_option maxRecDepth 100000 in
theorem vshow_any (z : Vl.Z) (a1 a2 : Option Addr) (n1 n2 : Nat) (w : World) (hE : Env w) (h3 : 3 ≤ w.heap.size) (hc : z.cost ≤ 1000000000) (hR : Reads w (fun _ => True) z.d (zcells z a1 a2 n1 n2).toList) :
    Calls Tryz.prog 10 #[.agg (zcells z a1 a2 n1 n2)] w fun e w' => Below w.heap.size w w' ∧ (((Vl.shown z).bad = false ∧ e = .returned (.tuple #[.string ⟨(Vl.shown z).out.toArray⟩, .int .i64 0])) ∨ ((Vl.shown z).bad = true ∧ e = .returned (.tuple #[.string ⟨#[]⟩, .int .i64 2]))) := by
  have HR := Lib.hid hR
  have HE := Lib.hid hE
  obtain ⟨w2, hw2⟩ : ∃ q, q = (w.alloc (.cells (zcells z a1 a2 n1 n2) 25)).alloc (.cells #[.pointer none, .slice none 0 0, .bool false] 67) := ⟨_, rfl⟩
  have hb2 : Below w.heap.size w w2 := by rw [hw2]; exact ((Below.refl _ _).alloc (Nat.le_refl _) _).alloc (by simp) _
  have hS : SW w (w.heap.size + 1) ⟨[], false⟩ w2 := by
    refine ⟨⟨by omega, .pointer none, .slice none 0 0, .inl rfl, ?_, World.ownsRowF_nil _ _ _ _, by simp [Value.ownBlock]⟩, hb2⟩
    rw [hw2]
    have := heap_at_new (w.alloc (.cells (zcells z a1 a2 n1 n2) 25)) (.cells #[.pointer none, .slice none 0 0, .bool false] 67)
    rw [show (w.alloc (.cells (zcells z a1 a2 n1 n2) 25)).heap.size = w.heap.size + 1 by simp] at this
    exact this
  have HV := Lib.hid (val_all z.n z (Nat.le_refl _) 0 (by omega) w (w.heap.size + 1) ⟨[], false⟩ a1 a2 n1 n2 w2 HE.out h3 hS (by show 0 + z.cost ≤ _; omega) HR.out)
  have HB2 := Lib.hid hb2
  rw [hw2] at HV
  unfold zcells at HV ⊢
  clear hR hE hb2 hS hw2
  go_enter Tryz.func10, Tryz.ntmps10
  go_wp2_with fail
  refine HV.out.mono ?_
  rintro r w3 ⟨rfl, hs3, -⟩
  have HS3 := Lib.hid hs3
  have y2 : w3.cell? ⟨w.heap.size + 1, 2, none⟩ = _ := hs3.badCell
  obtain ⟨bd, hbd⟩ : ∃ q, q = (Vl.shown z).bad := ⟨_, rfl⟩
  have hbd2 : (Vl.Z.show 0 z ⟨[], false⟩).bad = bd := hbd.symm
  rw [hbd2] at y2
  have HBD := Lib.hid hbd
  clear hs3 hbd hbd2 HV
  cases bd
  · go_wp2_with fail
    refine (shString w.heap.size (w.heap.size + 1) _ _ w3 HS3.out.sh (Vl.show_ne (by have := HBD.out; exact this.symm))).mono ?_
    rintro r w4 ⟨rfl, hb4⟩
    have HB4 := Lib.hid (HS3.out.bel.trans hb4)
    clear hb4
    go_wp2_with fail
    go_ret2
    exact ⟨HB4.out, .inl ⟨HBD.out.symm, rfl⟩⟩
  · go_wp2_with fail
    go_ret2
    exact ⟨HS3.out.bel, .inr ⟨HBD.out.symm, rfl⟩⟩
end Go.Proofs.YtefjgpkpplkkgaaGreatDoor
namespace Go.Proofs.YtefjgpkpplkkgaaGreatDoor
set_option linter.unusedSimpArgs false
set_option linter.unusedVariables false
open Go Go.RowKit
namespace Vl
def t1 : List UInt8 := [91, 49, 32, 123, 97, 58, 36, 98, 125, 93]
def t2 : List UInt8 := [123, 97, 32, 49, 125]
set_option maxRecDepth 100000 in
theorem parse_t1 : (parse t1 false).1.err = 0 ∧ (shown (ofV (parse t1 false).2)).out = [91, 49, 44, 32, 123, 97, 58, 32, 36, 98, 125, 93] ∧ (shown (ofV (parse t1 false).2)).bad = false ∧ (ofV (parse t1 false).2).cost ≤ 1000 :=
  ⟨by kernel_rfl, by kernel_rfl, by kernel_rfl, of_decide_eq_true (by kernel_rfl)⟩
set_option maxRecDepth 100000 in
theorem parse_t2 : (parse t2 false).1.err = 41 ∧ (parse t2 false).1.at_ = 3 := ⟨by kernel_rfl, by kernel_rfl⟩
end Vl
end Go.Proofs.YtefjgpkpplkkgaaGreatDoor
