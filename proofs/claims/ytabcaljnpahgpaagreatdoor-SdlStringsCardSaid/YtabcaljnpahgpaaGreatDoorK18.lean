/-
  The reader of types: a definition of an object or interface, walked.
-/
import Derived.Test.YtabcaljnpahgpaaGreatDoorK17
namespace Go.Proofs.YtabcaljnpahgpaaGreatDoor
set_option linter.unusedSimpArgs false
set_option linter.unusedVariables false
open Go Go.RowKit
set_option maxHeartbeats 2000000 in
set_option maxRecDepth 100000 in
theorem def_tail2 (b g n : Nat) (hnb : n ≤ 1600) (s : Rd.St) (w : World) (hlb : b < w.heap.size ∧ g < w.heap.size) (HN : Hid (s.err ≠ 0 ∨ s.rest.length ≤ n)) (d0 : 0 ≤ s.deep) (d1 : s.deep + n ≤ 900000) (kd x : Nat) (tk : Lx.Tok) (s5 : Rd.St) (w6 : World)
    (HB6 : Hid (BI w b g x [(w.heap.size, Obj.cells #[.pointer (some ⟨b, 0, none⟩)] 73 (0, 0)), (w.heap.size + 1, Obj.cells #[.int .i64 0, .string ⟨#[]⟩, .slice none 0 0, .slice none 0 0, .slice none 0 0, .slice none 0 0, .int .i64 0] 38 (0, 0))] 38 #[.int .i64 kd, .string ⟨#[]⟩, .slice none 0 0, .slice none 0 0, .slice none 0 0, .slice none 0 0, .int .i64 tk.at_] s5 w6)) (HDEF5 : Hid (Sd.def_ (n + 1) s = Sd.body (n + 1) kd (Rd.name s5).2 tk.at_ (Rd.name s5).1)) (HOK5 : Hid (Rd.Ok s s5)) (HDP5 : Hid (s5.deep = s.deep)) (hkl : kd ≤ 6) (hkc : kd = 2) (c3 c5 c6 c7 c8 c9 c10 c11 c12 c13 c14 c15 c16 c17 c18 c19 c20 c21 c22 c23 c24 c25 c26 c27 c28 : Value) :
    Code.wp Tryz.prog defRest (bodyPost Tryz.prog Tryz.f35 (Got b g w (Sd.def_ (n + 1) s).2.d (Sd.def_ (n + 1) s).1)) ⟨#[(.pointer (some ⟨b, 0, none⟩)), .pointer (some ⟨w.heap.size, 0, none⟩), .pointer (some ⟨w.heap.size + 1, 0, none⟩), c3, .pointer (some ⟨x, 0, none⟩), c5, c6, c7, c8, c9, c10, c11, c12, c13, c14, c15, c16, c17, c18, c19, c20, c21, c22, c23, c24, c25, c26, c27, c28, undef, undef, undef, undef, undef, undef, undef, undef, undef, undef, undef, undef, undef, undef, undef, undef, undef, undef, undef, undef, undef, undef, undef, undef, undef, undef, undef, undef, undef, undef, undef, undef, undef, undef, undef, undef, undef, undef, undef, undef, undef, undef, undef, undef, undef], []⟩ w6 := by
  have HMB : Hid ((w.heap.size, Obj.cells #[.pointer (some ⟨b, 0, none⟩)] 73 (0, 0)) ∈ [(w.heap.size, Obj.cells #[.pointer (some ⟨b, 0, none⟩)] 73 (0, 0)), (w.heap.size + 1, Obj.cells #[.int .i64 0, .string ⟨#[]⟩, .slice none 0 0, .slice none 0 0, .slice none 0 0, .slice none 0 0, .int .i64 0] 38 (0, 0))]) := Lib.hid List.mem_cons_self
  have HMR : Hid ((w.heap.size + 1, Obj.cells #[.int .i64 0, .string ⟨#[]⟩, .slice none 0 0, .slice none 0 0, .slice none 0 0, .slice none 0 0, .int .i64 0] 38 (0, 0)) ∈ [(w.heap.size, Obj.cells #[.pointer (some ⟨b, 0, none⟩)] 73 (0, 0)), (w.heap.size + 1, Obj.cells #[.int .i64 0, .string ⟨#[]⟩, .slice none 0 0, .slice none 0 0, .slice none 0 0, .slice none 0 0, .int .i64 0] 38 (0, 0))]) := Lib.hid (List.mem_cons_of_mem _ List.mem_cons_self)
  conv => arg 2; whnf
  have k2 : _ := HB6.out.cellx HMB.out
  go_wp2_with fail
  refine (rname_any b g s5 w6 HB6.out.rd).mono ?_
  rintro r w7 ⟨rfl, h7, f7⟩
  have hB7 := HB6.out.step h7 f7
  obtain ⟨s7, hs7⟩ : ∃ z, z = (Rd.name s5).1 := ⟨_, rfl⟩
  obtain ⟨nm, hnm⟩ : ∃ z, z = (Rd.name s5).2 := ⟨_, rfl⟩
  rw [← hs7] at hB7
  rw [← hnm]
  have HS7 := Lib.hid hs7
  have HNM := Lib.hid hnm
  have HB7 := Lib.hid hB7
  clear h7 f7 hB7 hs7 hnm k2
  have y0 := blk_cell HB7.out.b6 0 (.int .i64 kd) rfl
  have yf0 := blk_free HB7.out.b6 0
  have y1 := blk_cell HB7.out.b6 1 (.string ⟨#[]⟩) rfl
  have yf1 := blk_free HB7.out.b6 1
  have HB8 := Lib.hid (HB7.out.put 1 (.string ⟨nm.toArray⟩))
  have l6 := HB7.out.lx _ HMR.out
  simp only at l6
  have n1 : ¬ x = w.heap.size := by omega
  have n2 : ¬ w.heap.size = x := by omega
  have n3 : ¬ x = w.heap.size + 1 := by omega
  have n4 : ¬ w.heap.size + 1 = x := by omega
  have HDEF : Hid (Sd.def_ (n + 1) s = Sd.body (n + 1) kd nm tk.at_ s7) := by
    rw [HDEF5.out, ← HS7.out, ← HNM.out]
    exact Lib.hid rfl
  have HOK7 : Hid (Rd.Ok s s7) := by
    rw [HS7.out]
    exact Lib.hid (HOK5.out.trans (Rd.ok_name _))
  have HDP7 : Hid (s7.deep = s.deep) := by
    rw [HS7.out, Rd.name_deep]
    exact HDP5
  have HN7 : Hid (s7.err ≠ 0 ∨ s7.rest.length ≤ n) := by
    refine Lib.hid ?_
    rcases HN.out with h | h
    · left; rw [HOK7.out.err h]; exact h
    · right; exact Nat.le_trans HOK7.out.len h
  have HFI := Lib.hid (fun (s1 : Rd.St) (w2 : World) (hr : s1.rest.length ≤ n) (hdp : s1.deep = s.deep) (hr2 : RdAt w2 b g s1) => input_any b g n hnb s1 w2 hr2 (.inr hr) (by rw [hdp]; omega))
  have HFF := Lib.hid (fun (s1 : Rd.St) (w2 : World) (hr : s1.rest.length ≤ n) (hdp : s1.deep = s.deep) (hr2 : RdAt w2 b g s1) => field_any b g n hnb s1 w2 hr2 (.inr hr) (by rw [hdp]; omega))
  have e2 := eqT (n := kd) (k := 2) (by omega)
  have e3 := eqF (n := kd) (k := 3) (by omega)
  have e4 := eqF (n := kd) (k := 4) (by omega)
  have e5 := eqF (n := kd) (k := 5) (by omega)
  have e6 := eqF (n := kd) (k := 6) (by omega)
  have HKC : Hid (kd = 2) := Lib.hid hkc
  clear hkc hkl
  have HBL : Hid (Below (w7.setCell ⟨x, 1, none⟩ (.string ⟨nm.toArray⟩)).heap.size (w7.setCell ⟨x, 1, none⟩ (.string ⟨nm.toArray⟩)) ((w7.setCell ⟨x, 1, none⟩ (.string ⟨nm.toArray⟩)).alloc (.cells #[.string ⟨#[105, 109, 112, 108, 101, 109, 101, 110, 116, 115]⟩] 9))) := Lib.hid ((Below.refl _ _).alloc (Nat.le_refl _) _)
  have HTX : Hid (Txts ((w7.setCell ⟨x, 1, none⟩ (.string ⟨nm.toArray⟩)).alloc (.cells #[.string ⟨#[105, 109, 112, 108, 101, 109, 101, 110, 116, 115]⟩] 9)) (.slice (some ⟨w7.heap.size, 0, none⟩) 1 1) [Sd.sImpl]) := by
    have h1 := txts_lit (w7.setCell ⟨x, 1, none⟩ (.string ⟨nm.toArray⟩)) [Sd.sImpl] #[.string ⟨#[105, 109, 112, 108, 101, 109, 101, 110, 116, 115]⟩] 9 rfl
    rw [size_set] at h1
    exact Lib.hid h1
  have k2 : _ := HB7.out.cellx HMB.out
  go_wp2_with fail
  refine (rword_any b g s7 _ [Sd.sImpl] _ ((HB8.out.below HBL.out).rd) HTX.out (by simp)).mono ?_
  rintro r w9 ⟨rfl, hb9⟩
  have HB9 := Lib.hid ((HB8.out.below HBL.out).below hb9)
  obtain ⟨B, hB⟩ : ∃ B, B = Rd.isW s7 [Sd.sImpl] := ⟨_, rfl⟩
  have HB := Lib.hid hB
  rw [← hB]
  clear hB hb9 k2 y0 yf0 y1 yf1
  cases B
  · have HIM : Hid (Sd.impl s7 = (s7, [])) := by unfold Sd.impl; rw [if_neg (by rw [← HB.out]; simp)]; exact Lib.hid rfl
    have HLI : Hid (LI w b g x (([] : List Box) ++ [(w.heap.size, Obj.cells #[.pointer (some ⟨b, 0, none⟩)] 73 (0, 0)), (w.heap.size + 1, Obj.cells #[.int .i64 0, .string ⟨#[]⟩, .slice none 0 0, .slice none 0 0, .slice none 0 0, .slice none 0 0, .int .i64 0] 38 (0, 0))]) 38 (mkTF kd ⟨nm.toArray⟩ (.slice none 0 0) tk.at_) 72 4 s7 [] (w9)) := Lib.hid (BI.li2 HB9.out (fun p hp => absurd hp (by simp)))
    have HCL : Hid (∀ (s1 : Rd.St) (out : List Sd.Fd) (w1 : World), LI w b g x (([] : List Box) ++ [(w.heap.size, Obj.cells #[.pointer (some ⟨b, 0, none⟩)] 73 (0, 0)), (w.heap.size + 1, Obj.cells #[.int .i64 0, .string ⟨#[]⟩, .slice none 0 0, .slice none 0 0, .slice none 0 0, .slice none 0 0, .int .i64 0] 38 (0, 0))]) 38 (mkTF kd ⟨nm.toArray⟩ (.slice none 0 0) tk.at_) 72 4 s1 (out.map Sd.Fd.d) w1 → s1.rest.length ≤ n → s1.deep = s.deep → out.length ≤ 1000000 →
        Calls Tryz.prog 74 #[.pointer (some ⟨x, 0, none⟩), .pointer (some ⟨w.heap.size, 0, none⟩)] w1 fun r w' => r = .returned (.tuple #[]) ∧ LI w b g x (([] : List Box) ++ [(w.heap.size, Obj.cells #[.pointer (some ⟨b, 0, none⟩)] 73 (0, 0)), (w.heap.size + 1, Obj.cells #[.int .i64 0, .string ⟨#[]⟩, .slice none 0 0, .slice none 0 0, .slice none 0 0, .slice none 0 0, .int .i64 0] 38 (0, 0))]) 38 (mkTF kd ⟨nm.toArray⟩ (.slice none 0 0) tk.at_) 72 4 (Sd.field (n + 1) s1).1 ((out ++ [(Sd.field (n + 1) s1).2]).map Sd.Fd.d) w') :=
      Lib.hid fun s1 out w1 hl hr hdp ho => by
        rw [List.map_append]
        exact defC1_any w b g x _ w.heap.size kd ⟨nm.toArray⟩ _ tk.at_ (n + 1) (List.mem_append_right _ HMB.out) s1 (out.map Sd.Fd.d) w1 (fun w2 hr2 => HFF.out s1 w2 hr hdp hr2) hl (by rw [List.length_map]; exact ho)
    have k2 : (w9).cell? ⟨w.heap.size, 0, none⟩ = some (.pointer (some ⟨b, 0, none⟩)) := HLI.out.cellx (List.mem_append_right _ HMB.out)
    go_wp2_with fail
    refine (within_any w b g x (([] : List Box) ++ [(w.heap.size, Obj.cells #[.pointer (some ⟨b, 0, none⟩)] 73 (0, 0)), (w.heap.size + 1, Obj.cells #[.int .i64 0, .string ⟨#[]⟩, .slice none 0 0, .slice none 0 0, .slice none 0 0, .slice none 0 0, .int .i64 0] 38 (0, 0))]) 38 (mkTF kd ⟨nm.toArray⟩ (.slice none 0 0) tk.at_) 72 4 Sd.Fd.d (Sd.field (n + 1)) n s.deep 74 _ (enters_D1 _) hnb HCL.out (Sd.field_deep (n + 1)) (Sd.ok_field (n + 1)) (Sd.field_goes (n + 1)) s7 _ HLI.out HN7.out HDP7.out).mono ?_
    rintro r wl ⟨rfl, hL⟩
    have HL := Lib.hid hL
    clear hL k2
    obtain ⟨L, hLL⟩ : ∃ z, z = Sd.between Rd.lbrc Rd.rbrc (Sd.field (n + 1)) (n + 1) s7 := ⟨_, rfl⟩
    rw [← hLL] at HL
    have HLL := Lib.hid hLL
    obtain ⟨va, vc, hbx, hrv⟩ := HL.out.bi (bx' := [(w.heap.size, Obj.cells #[.pointer (some ⟨b, 0, none⟩)] 73 (0, 0)), (w.heap.size + 1, Obj.cells #[.int .i64 0, .string ⟨#[]⟩, .slice none 0 0, .slice none 0 0, .slice none 0 0, .slice none 0 0, .int .i64 0] 38 (0, 0))]) (fun p hp => ⟨List.mem_append_right _ hp, (HB7.out.lx p hp).2⟩)
    obtain ⟨vl, hvl⟩ : ∃ z, z = (L.2.map Sd.Fd.d).length := ⟨_, rfl⟩
    rw [← hvl] at hbx hrv
    have HBx : Hid (BI w b g x [(w.heap.size, Obj.cells #[.pointer (some ⟨b, 0, none⟩)] 73 (0, 0)), (w.heap.size + 1, Obj.cells #[.int .i64 0, .string ⟨#[]⟩, .slice none 0 0, .slice none 0 0, .slice none 0 0, .slice none 0 0, .int .i64 0] 38 (0, 0))] 38 #[.int .i64 kd, .string ⟨nm.toArray⟩, .slice none 0 0, .slice va vl vc, .slice none 0 0, .slice none 0 0, .int .i64 tk.at_] L.1 wl) := Lib.hid hbx
    have HRV := Lib.hid hrv

    clear hbx hrv hvl hLL
    have y0 := blk_cell HBx.out.b6 0 (.int .i64 kd) rfl
    have yf0 := blk_free HBx.out.b6 0
    have y1 := blk_cell HBx.out.b6 1 (.string ⟨nm.toArray⟩) rfl
    have yf1 := blk_free HBx.out.b6 1
    have y2 := blk_cell HBx.out.b6 2 (.slice none 0 0) rfl
    have yf2 := blk_free HBx.out.b6 2
    have y3 := blk_cell HBx.out.b6 3 (.slice va vl vc) rfl
    have yf3 := blk_free HBx.out.b6 3
    have y4 := blk_cell HBx.out.b6 4 (.slice none 0 0) rfl
    have yf4 := blk_free HBx.out.b6 4
    have y5 := blk_cell HBx.out.b6 5 (.slice none 0 0) rfl
    have yf5 := blk_free HBx.out.b6 5
    have y6 := blk_cell HBx.out.b6 6 (.int .i64 tk.at_) rfl
    have yf6 := blk_free HBx.out.b6 6
    have z0 := blk_cell (HBx.out.cb _ HMR.out) 0 (.int .i64 0) rfl
    have zf0 := blk_free (HBx.out.cb _ HMR.out) 0
    have z1 := blk_cell (HBx.out.cb _ HMR.out) 1 (.string ⟨#[]⟩) rfl
    have zf1 := blk_free (HBx.out.cb _ HMR.out) 1
    have z2 := blk_cell (HBx.out.cb _ HMR.out) 2 (.slice none 0 0) rfl
    have zf2 := blk_free (HBx.out.cb _ HMR.out) 2
    have z3 := blk_cell (HBx.out.cb _ HMR.out) 3 (.slice none 0 0) rfl
    have zf3 := blk_free (HBx.out.cb _ HMR.out) 3
    have z4 := blk_cell (HBx.out.cb _ HMR.out) 4 (.slice none 0 0) rfl
    have zf4 := blk_free (HBx.out.cb _ HMR.out) 4
    have z5 := blk_cell (HBx.out.cb _ HMR.out) 5 (.slice none 0 0) rfl
    have zf5 := blk_free (HBx.out.cb _ HMR.out) 5
    have z6 := blk_cell (HBx.out.cb _ HMR.out) 6 (.int .i64 0) rfl
    have zf6 := blk_free (HBx.out.cb _ HMR.out) 6
    have HBz : Hid (BI w b g x [(w.heap.size, Obj.cells #[.pointer (some ⟨b, 0, none⟩)] 73 (0, 0)), (w.heap.size + 1, Obj.cells #[.int .i64 0, .string ⟨#[]⟩, .slice none 0 0, .slice none 0 0, .slice none 0 0, .slice none 0 0, .int .i64 0] 38 (0, 0))] 38 [.int .i64 kd, .string ⟨nm.toArray⟩, .slice none 0 0, .slice va vl vc, .slice none 0 0, .slice none 0 0, .int .i64 tk.at_].toArray L.1 (wl)) := HBx
    have HRS : Hid (Reads (wl) (fun z => x < z) (Sd.Td.d ⟨kd, nm, [], L.2, [], [], tk.at_⟩) [.int .i64 kd, .string ⟨nm.toArray⟩, .slice none 0 0, .slice va vl vc, .slice none 0 0, .slice none 0 0, .int .i64 tk.at_]) := by
      unfold Sd.Td.d
      exact Lib.hid (.obj (.cons (.int _) (.cons (.str _) (.cons (.seq (cap := 0) .nil) (.cons (HRV.out) (.cons (.seq (cap := 0) .nil) (.cons (.seq (cap := 0) .nil) (.cons (.int _) .nil))))))))
    have HE : Hid (Sd.def_ (n + 1) s = (L.1, ⟨kd, nm, [], L.2, [], [], tk.at_⟩)) := by rw [HDEF.out]; unfold Sd.body; rw [if_pos (Or.inl HKC.out)]; exact Lib.hid (by rw [HIM.out]; dsimp only; rw [← HLL.out])
    have hfin := HBz.out.fin HMR.out HRS.out (fun z hz => hz)
    simp only [putCells, Nat.reduceAdd, Nat.zero_add] at hfin
    have HFN := Lib.hid hfin
    clear hfin
    go_wp2_with fail
    refine bodyPost_ret (v := .agg #[.int .i64 kd, .string ⟨nm.toArray⟩, .slice none 0 0, .slice va vl vc, .slice none 0 0, .slice none 0 0, .int .i64 tk.at_]) (by simp [results, Tryz.results35, go_sem, z0, z1, z2, z3, z4, z5, z6, n1, n2, n3, n4]) rfl ?_
    rw [HE.out]
    exact ⟨_, rfl, HFN.out⟩
  · have HIM : Hid (Sd.impl s7 = Sd.names Sd.amp (Rd.next s7)) := by unfold Sd.impl; rw [if_pos HB.out.symm]; exact Lib.hid rfl
    have k2 : _ := HB9.out.cellx HMB.out
    go_wp2_with fail
    refine (rnext_any b g s7 w9 HB9.out.rd).mono ?_
    rintro r w10 ⟨rfl, h10, f10⟩
    have HB10 := Lib.hid (HB9.out.step h10 f10)
    clear h10 f10 k2
    have k2 : _ := HB10.out.cellx HMB.out
    go_wp2_with fail
    refine (rnames_any b g (Rd.next s7) Sd.amp _ HB10.out.rd).mono ?_
    rintro r w11 ⟨ia, ic, rfl, hrd, h11, f11⟩
    have HB11 := Lib.hid (HB10.out.step h11 f11)
    obtain ⟨NS, hNS⟩ : ∃ z, z = Sd.names Sd.amp (Rd.next s7) := ⟨_, rfl⟩
    rw [← hNS] at HB11 hrd
    rw [← hNS]
    have HNS := Lib.hid hNS
    obtain ⟨inn, hin⟩ : ∃ z, z = (sds NS.2).length := ⟨_, rfl⟩
    rw [← hin] at hrd ⊢
    obtain ⟨bx1, hx1, hx2⟩ := sds_boxes hrd
    have HX1 : Hid (∀ p ∈ bx1, x < p.1 ∧ w11.heap[p.1]? = some p.2) := Lib.hid fun p hp => ⟨by have h1 := (hx1 p hp).1; have h2 := block_lt HB10.out.b6; omega, (hx1 p hp).2⟩
    have HX2 : Hid (∀ w', (∀ p ∈ bx1, w'.heap[p.1]? = some p.2) → Reads w' (fun z => x < z) (.seq 1 (sds NS.2)) [.slice ia inn ic]) := Lib.hid fun w' h1 => (hx2 w' h1).to (Stands.sub w' (fun z _ hz => by have h2 := block_lt HB10.out.b6; have h3 : _ ≤ z := hz; show x < z; omega))
    have HB12 := Lib.hid (HB11.out.put 2 (.slice ia inn ic))
    have HOKN : Hid (Rd.Ok s NS.1) := by rw [HNS.out]; exact Lib.hid ((HOK7.out.trans (Rd.ok_next _)).trans (Sd.ok_names _ _))
    have HDPN : Hid (NS.1.deep = s.deep) := by rw [HNS.out, Sd.names_deep, Rd.next_deep, HDP7.out]; exact Lib.hid rfl
    have HNN : Hid (NS.1.err ≠ 0 ∨ NS.1.rest.length ≤ n) := by
      refine Lib.hid ?_
      rcases HN.out with h | h
      · left; rw [HOKN.out.err h]; exact h
      · right; exact Nat.le_trans HOKN.out.len h
    clear h11 f11 hrd hx1 hx2 hNS hin k2
    have y2 := blk_cell HB11.out.b6 2 (.slice none 0 0) rfl
    have yf2 := blk_free HB11.out.b6 2
    have k3 : _ := HB11.out.cellx HMB.out
    have HLI : Hid (LI w b g x (bx1 ++ [(w.heap.size, Obj.cells #[.pointer (some ⟨b, 0, none⟩)] 73 (0, 0)), (w.heap.size + 1, Obj.cells #[.int .i64 0, .string ⟨#[]⟩, .slice none 0 0, .slice none 0 0, .slice none 0 0, .slice none 0 0, .int .i64 0] 38 (0, 0))]) 38 (mkTF kd ⟨nm.toArray⟩ (.slice ia inn ic) tk.at_) 72 4 NS.1 [] (w11.setCell ⟨x, 2, none⟩ (.slice ia inn ic))) := Lib.hid (BI.li2 HB12.out (fun p hp => ⟨(HX1.out p hp).1, by rw [heap_set_ne (by have := (HX1.out p hp).1; omega)]; exact (HX1.out p hp).2⟩))
    have HCL : Hid (∀ (s1 : Rd.St) (out : List Sd.Fd) (w1 : World), LI w b g x (bx1 ++ [(w.heap.size, Obj.cells #[.pointer (some ⟨b, 0, none⟩)] 73 (0, 0)), (w.heap.size + 1, Obj.cells #[.int .i64 0, .string ⟨#[]⟩, .slice none 0 0, .slice none 0 0, .slice none 0 0, .slice none 0 0, .int .i64 0] 38 (0, 0))]) 38 (mkTF kd ⟨nm.toArray⟩ (.slice ia inn ic) tk.at_) 72 4 s1 (out.map Sd.Fd.d) w1 → s1.rest.length ≤ n → s1.deep = s.deep → out.length ≤ 1000000 →
        Calls Tryz.prog 74 #[.pointer (some ⟨x, 0, none⟩), .pointer (some ⟨w.heap.size, 0, none⟩)] w1 fun r w' => r = .returned (.tuple #[]) ∧ LI w b g x (bx1 ++ [(w.heap.size, Obj.cells #[.pointer (some ⟨b, 0, none⟩)] 73 (0, 0)), (w.heap.size + 1, Obj.cells #[.int .i64 0, .string ⟨#[]⟩, .slice none 0 0, .slice none 0 0, .slice none 0 0, .slice none 0 0, .int .i64 0] 38 (0, 0))]) 38 (mkTF kd ⟨nm.toArray⟩ (.slice ia inn ic) tk.at_) 72 4 (Sd.field (n + 1) s1).1 ((out ++ [(Sd.field (n + 1) s1).2]).map Sd.Fd.d) w') :=
      Lib.hid fun s1 out w1 hl hr hdp ho => by
        rw [List.map_append]
        exact defC1_any w b g x _ w.heap.size kd ⟨nm.toArray⟩ _ tk.at_ (n + 1) (List.mem_append_right _ HMB.out) s1 (out.map Sd.Fd.d) w1 (fun w2 hr2 => HFF.out s1 w2 hr hdp hr2) hl (by rw [List.length_map]; exact ho)
    have k2 : (w11.setCell ⟨x, 2, none⟩ (.slice ia inn ic)).cell? ⟨w.heap.size, 0, none⟩ = some (.pointer (some ⟨b, 0, none⟩)) := HLI.out.cellx (List.mem_append_right _ HMB.out)
    go_wp2_with fail
    clear y2 yf2 k3
    refine (within_any w b g x (bx1 ++ [(w.heap.size, Obj.cells #[.pointer (some ⟨b, 0, none⟩)] 73 (0, 0)), (w.heap.size + 1, Obj.cells #[.int .i64 0, .string ⟨#[]⟩, .slice none 0 0, .slice none 0 0, .slice none 0 0, .slice none 0 0, .int .i64 0] 38 (0, 0))]) 38 (mkTF kd ⟨nm.toArray⟩ (.slice ia inn ic) tk.at_) 72 4 Sd.Fd.d (Sd.field (n + 1)) n s.deep 74 _ (enters_D1 _) hnb HCL.out (Sd.field_deep (n + 1)) (Sd.ok_field (n + 1)) (Sd.field_goes (n + 1)) NS.1 _ HLI.out HNN.out HDPN.out).mono ?_
    rintro r wl ⟨rfl, hL⟩
    have HL := Lib.hid hL
    clear hL k2
    obtain ⟨L, hLL⟩ : ∃ z, z = Sd.between Rd.lbrc Rd.rbrc (Sd.field (n + 1)) (n + 1) NS.1 := ⟨_, rfl⟩
    rw [← hLL] at HL
    have HLL := Lib.hid hLL
    obtain ⟨va, vc, hbx, hrv⟩ := HL.out.bi (bx' := [(w.heap.size, Obj.cells #[.pointer (some ⟨b, 0, none⟩)] 73 (0, 0)), (w.heap.size + 1, Obj.cells #[.int .i64 0, .string ⟨#[]⟩, .slice none 0 0, .slice none 0 0, .slice none 0 0, .slice none 0 0, .int .i64 0] 38 (0, 0))]) (fun p hp => ⟨List.mem_append_right _ hp, (HB7.out.lx p hp).2⟩)
    obtain ⟨vl, hvl⟩ : ∃ z, z = (L.2.map Sd.Fd.d).length := ⟨_, rfl⟩
    rw [← hvl] at hbx hrv
    have HBx : Hid (BI w b g x [(w.heap.size, Obj.cells #[.pointer (some ⟨b, 0, none⟩)] 73 (0, 0)), (w.heap.size + 1, Obj.cells #[.int .i64 0, .string ⟨#[]⟩, .slice none 0 0, .slice none 0 0, .slice none 0 0, .slice none 0 0, .int .i64 0] 38 (0, 0))] 38 #[.int .i64 kd, .string ⟨nm.toArray⟩, .slice ia inn ic, .slice va vl vc, .slice none 0 0, .slice none 0 0, .int .i64 tk.at_] L.1 wl) := Lib.hid hbx
    have HRV := Lib.hid hrv
    have HIV := Lib.hid (HX2.out wl (fun p hp => HL.out.cb p (List.mem_append_left _ hp)))
    clear hbx hrv hvl hLL
    have y0 := blk_cell HBx.out.b6 0 (.int .i64 kd) rfl
    have yf0 := blk_free HBx.out.b6 0
    have y1 := blk_cell HBx.out.b6 1 (.string ⟨nm.toArray⟩) rfl
    have yf1 := blk_free HBx.out.b6 1
    have y2 := blk_cell HBx.out.b6 2 (.slice ia inn ic) rfl
    have yf2 := blk_free HBx.out.b6 2
    have y3 := blk_cell HBx.out.b6 3 (.slice va vl vc) rfl
    have yf3 := blk_free HBx.out.b6 3
    have y4 := blk_cell HBx.out.b6 4 (.slice none 0 0) rfl
    have yf4 := blk_free HBx.out.b6 4
    have y5 := blk_cell HBx.out.b6 5 (.slice none 0 0) rfl
    have yf5 := blk_free HBx.out.b6 5
    have y6 := blk_cell HBx.out.b6 6 (.int .i64 tk.at_) rfl
    have yf6 := blk_free HBx.out.b6 6
    have z0 := blk_cell (HBx.out.cb _ HMR.out) 0 (.int .i64 0) rfl
    have zf0 := blk_free (HBx.out.cb _ HMR.out) 0
    have z1 := blk_cell (HBx.out.cb _ HMR.out) 1 (.string ⟨#[]⟩) rfl
    have zf1 := blk_free (HBx.out.cb _ HMR.out) 1
    have z2 := blk_cell (HBx.out.cb _ HMR.out) 2 (.slice none 0 0) rfl
    have zf2 := blk_free (HBx.out.cb _ HMR.out) 2
    have z3 := blk_cell (HBx.out.cb _ HMR.out) 3 (.slice none 0 0) rfl
    have zf3 := blk_free (HBx.out.cb _ HMR.out) 3
    have z4 := blk_cell (HBx.out.cb _ HMR.out) 4 (.slice none 0 0) rfl
    have zf4 := blk_free (HBx.out.cb _ HMR.out) 4
    have z5 := blk_cell (HBx.out.cb _ HMR.out) 5 (.slice none 0 0) rfl
    have zf5 := blk_free (HBx.out.cb _ HMR.out) 5
    have z6 := blk_cell (HBx.out.cb _ HMR.out) 6 (.int .i64 0) rfl
    have zf6 := blk_free (HBx.out.cb _ HMR.out) 6
    have HBz : Hid (BI w b g x [(w.heap.size, Obj.cells #[.pointer (some ⟨b, 0, none⟩)] 73 (0, 0)), (w.heap.size + 1, Obj.cells #[.int .i64 0, .string ⟨#[]⟩, .slice none 0 0, .slice none 0 0, .slice none 0 0, .slice none 0 0, .int .i64 0] 38 (0, 0))] 38 [.int .i64 kd, .string ⟨nm.toArray⟩, .slice ia inn ic, .slice va vl vc, .slice none 0 0, .slice none 0 0, .int .i64 tk.at_].toArray L.1 (wl)) := HBx
    have HRS : Hid (Reads (wl) (fun z => x < z) (Sd.Td.d ⟨kd, nm, NS.2, L.2, [], [], tk.at_⟩) [.int .i64 kd, .string ⟨nm.toArray⟩, .slice ia inn ic, .slice va vl vc, .slice none 0 0, .slice none 0 0, .int .i64 tk.at_]) := by
      unfold Sd.Td.d
      exact Lib.hid (.obj (.cons (.int _) (.cons (.str _) (.cons (HIV.out) (.cons (HRV.out) (.cons (.seq (cap := 0) .nil) (.cons (.seq (cap := 0) .nil) (.cons (.int _) .nil))))))))
    have HE : Hid (Sd.def_ (n + 1) s = (L.1, ⟨kd, nm, NS.2, L.2, [], [], tk.at_⟩)) := by rw [HDEF.out]; unfold Sd.body; rw [if_pos (Or.inl HKC.out)]; exact Lib.hid (by rw [HIM.out, ← HNS.out]; dsimp only; rw [← HLL.out])
    have hfin := HBz.out.fin HMR.out HRS.out (fun z hz => hz)
    simp only [putCells, Nat.reduceAdd, Nat.zero_add] at hfin
    have HFN := Lib.hid hfin
    clear hfin
    go_wp2_with fail
    refine bodyPost_ret (v := .agg #[.int .i64 kd, .string ⟨nm.toArray⟩, .slice ia inn ic, .slice va vl vc, .slice none 0 0, .slice none 0 0, .int .i64 tk.at_]) (by simp [results, Tryz.results35, go_sem, z0, z1, z2, z3, z4, z5, z6, n1, n2, n3, n4]) rfl ?_
    rw [HE.out]
    exact ⟨_, rfl, HFN.out⟩
set_option maxHeartbeats 2000000 in
set_option maxRecDepth 100000 in
theorem def_tail3 (b g n : Nat) (hnb : n ≤ 1600) (s : Rd.St) (w : World) (hlb : b < w.heap.size ∧ g < w.heap.size) (HN : Hid (s.err ≠ 0 ∨ s.rest.length ≤ n)) (d0 : 0 ≤ s.deep) (d1 : s.deep + n ≤ 900000) (kd x : Nat) (tk : Lx.Tok) (s5 : Rd.St) (w6 : World)
    (HB6 : Hid (BI w b g x [(w.heap.size, Obj.cells #[.pointer (some ⟨b, 0, none⟩)] 73 (0, 0)), (w.heap.size + 1, Obj.cells #[.int .i64 0, .string ⟨#[]⟩, .slice none 0 0, .slice none 0 0, .slice none 0 0, .slice none 0 0, .int .i64 0] 38 (0, 0))] 38 #[.int .i64 kd, .string ⟨#[]⟩, .slice none 0 0, .slice none 0 0, .slice none 0 0, .slice none 0 0, .int .i64 tk.at_] s5 w6)) (HDEF5 : Hid (Sd.def_ (n + 1) s = Sd.body (n + 1) kd (Rd.name s5).2 tk.at_ (Rd.name s5).1)) (HOK5 : Hid (Rd.Ok s s5)) (HDP5 : Hid (s5.deep = s.deep)) (hkl : kd ≤ 6) (hkc : kd = 3) (c3 c5 c6 c7 c8 c9 c10 c11 c12 c13 c14 c15 c16 c17 c18 c19 c20 c21 c22 c23 c24 c25 c26 c27 c28 : Value) :
    Code.wp Tryz.prog defRest (bodyPost Tryz.prog Tryz.f35 (Got b g w (Sd.def_ (n + 1) s).2.d (Sd.def_ (n + 1) s).1)) ⟨#[(.pointer (some ⟨b, 0, none⟩)), .pointer (some ⟨w.heap.size, 0, none⟩), .pointer (some ⟨w.heap.size + 1, 0, none⟩), c3, .pointer (some ⟨x, 0, none⟩), c5, c6, c7, c8, c9, c10, c11, c12, c13, c14, c15, c16, c17, c18, c19, c20, c21, c22, c23, c24, c25, c26, c27, c28, undef, undef, undef, undef, undef, undef, undef, undef, undef, undef, undef, undef, undef, undef, undef, undef, undef, undef, undef, undef, undef, undef, undef, undef, undef, undef, undef, undef, undef, undef, undef, undef, undef, undef, undef, undef, undef, undef, undef, undef, undef, undef, undef, undef, undef], []⟩ w6 := by
  have HMB : Hid ((w.heap.size, Obj.cells #[.pointer (some ⟨b, 0, none⟩)] 73 (0, 0)) ∈ [(w.heap.size, Obj.cells #[.pointer (some ⟨b, 0, none⟩)] 73 (0, 0)), (w.heap.size + 1, Obj.cells #[.int .i64 0, .string ⟨#[]⟩, .slice none 0 0, .slice none 0 0, .slice none 0 0, .slice none 0 0, .int .i64 0] 38 (0, 0))]) := Lib.hid List.mem_cons_self
  have HMR : Hid ((w.heap.size + 1, Obj.cells #[.int .i64 0, .string ⟨#[]⟩, .slice none 0 0, .slice none 0 0, .slice none 0 0, .slice none 0 0, .int .i64 0] 38 (0, 0)) ∈ [(w.heap.size, Obj.cells #[.pointer (some ⟨b, 0, none⟩)] 73 (0, 0)), (w.heap.size + 1, Obj.cells #[.int .i64 0, .string ⟨#[]⟩, .slice none 0 0, .slice none 0 0, .slice none 0 0, .slice none 0 0, .int .i64 0] 38 (0, 0))]) := Lib.hid (List.mem_cons_of_mem _ List.mem_cons_self)
  conv => arg 2; whnf
  have k2 : _ := HB6.out.cellx HMB.out
  go_wp2_with fail
  refine (rname_any b g s5 w6 HB6.out.rd).mono ?_
  rintro r w7 ⟨rfl, h7, f7⟩
  have hB7 := HB6.out.step h7 f7
  obtain ⟨s7, hs7⟩ : ∃ z, z = (Rd.name s5).1 := ⟨_, rfl⟩
  obtain ⟨nm, hnm⟩ : ∃ z, z = (Rd.name s5).2 := ⟨_, rfl⟩
  rw [← hs7] at hB7
  rw [← hnm]
  have HS7 := Lib.hid hs7
  have HNM := Lib.hid hnm
  have HB7 := Lib.hid hB7
  clear h7 f7 hB7 hs7 hnm k2
  have y0 := blk_cell HB7.out.b6 0 (.int .i64 kd) rfl
  have yf0 := blk_free HB7.out.b6 0
  have y1 := blk_cell HB7.out.b6 1 (.string ⟨#[]⟩) rfl
  have yf1 := blk_free HB7.out.b6 1
  have HB8 := Lib.hid (HB7.out.put 1 (.string ⟨nm.toArray⟩))
  have l6 := HB7.out.lx _ HMR.out
  simp only at l6
  have n1 : ¬ x = w.heap.size := by omega
  have n2 : ¬ w.heap.size = x := by omega
  have n3 : ¬ x = w.heap.size + 1 := by omega
  have n4 : ¬ w.heap.size + 1 = x := by omega
  have HDEF : Hid (Sd.def_ (n + 1) s = Sd.body (n + 1) kd nm tk.at_ s7) := by
    rw [HDEF5.out, ← HS7.out, ← HNM.out]
    exact Lib.hid rfl
  have HOK7 : Hid (Rd.Ok s s7) := by
    rw [HS7.out]
    exact Lib.hid (HOK5.out.trans (Rd.ok_name _))
  have HDP7 : Hid (s7.deep = s.deep) := by
    rw [HS7.out, Rd.name_deep]
    exact HDP5
  have HN7 : Hid (s7.err ≠ 0 ∨ s7.rest.length ≤ n) := by
    refine Lib.hid ?_
    rcases HN.out with h | h
    · left; rw [HOK7.out.err h]; exact h
    · right; exact Nat.le_trans HOK7.out.len h
  have HFI := Lib.hid (fun (s1 : Rd.St) (w2 : World) (hr : s1.rest.length ≤ n) (hdp : s1.deep = s.deep) (hr2 : RdAt w2 b g s1) => input_any b g n hnb s1 w2 hr2 (.inr hr) (by rw [hdp]; omega))
  have HFF := Lib.hid (fun (s1 : Rd.St) (w2 : World) (hr : s1.rest.length ≤ n) (hdp : s1.deep = s.deep) (hr2 : RdAt w2 b g s1) => field_any b g n hnb s1 w2 hr2 (.inr hr) (by rw [hdp]; omega))
  have e2 := eqF (n := kd) (k := 2) (by omega)
  have e3 := eqT (n := kd) (k := 3) (by omega)
  have e4 := eqF (n := kd) (k := 4) (by omega)
  have e5 := eqF (n := kd) (k := 5) (by omega)
  have e6 := eqF (n := kd) (k := 6) (by omega)
  have HKC : Hid (kd = 3) := Lib.hid hkc
  clear hkc hkl
  have HBL : Hid (Below (w7.setCell ⟨x, 1, none⟩ (.string ⟨nm.toArray⟩)).heap.size (w7.setCell ⟨x, 1, none⟩ (.string ⟨nm.toArray⟩)) ((w7.setCell ⟨x, 1, none⟩ (.string ⟨nm.toArray⟩)).alloc (.cells #[.string ⟨#[105, 109, 112, 108, 101, 109, 101, 110, 116, 115]⟩] 9))) := Lib.hid ((Below.refl _ _).alloc (Nat.le_refl _) _)
  have HTX : Hid (Txts ((w7.setCell ⟨x, 1, none⟩ (.string ⟨nm.toArray⟩)).alloc (.cells #[.string ⟨#[105, 109, 112, 108, 101, 109, 101, 110, 116, 115]⟩] 9)) (.slice (some ⟨w7.heap.size, 0, none⟩) 1 1) [Sd.sImpl]) := by
    have h1 := txts_lit (w7.setCell ⟨x, 1, none⟩ (.string ⟨nm.toArray⟩)) [Sd.sImpl] #[.string ⟨#[105, 109, 112, 108, 101, 109, 101, 110, 116, 115]⟩] 9 rfl
    rw [size_set] at h1
    exact Lib.hid h1
  have k2 : _ := HB7.out.cellx HMB.out
  go_wp2_with fail
  refine (rword_any b g s7 _ [Sd.sImpl] _ ((HB8.out.below HBL.out).rd) HTX.out (by simp)).mono ?_
  rintro r w9 ⟨rfl, hb9⟩
  have HB9 := Lib.hid ((HB8.out.below HBL.out).below hb9)
  obtain ⟨B, hB⟩ : ∃ B, B = Rd.isW s7 [Sd.sImpl] := ⟨_, rfl⟩
  have HB := Lib.hid hB
  rw [← hB]
  clear hB hb9 k2 y0 yf0 y1 yf1
  cases B
  · have HIM : Hid (Sd.impl s7 = (s7, [])) := by unfold Sd.impl; rw [if_neg (by rw [← HB.out]; simp)]; exact Lib.hid rfl
    have HLI : Hid (LI w b g x (([] : List Box) ++ [(w.heap.size, Obj.cells #[.pointer (some ⟨b, 0, none⟩)] 73 (0, 0)), (w.heap.size + 1, Obj.cells #[.int .i64 0, .string ⟨#[]⟩, .slice none 0 0, .slice none 0 0, .slice none 0 0, .slice none 0 0, .int .i64 0] 38 (0, 0))]) 38 (mkTF kd ⟨nm.toArray⟩ (.slice none 0 0) tk.at_) 72 4 s7 [] (w9)) := Lib.hid (BI.li2 HB9.out (fun p hp => absurd hp (by simp)))
    have HCL : Hid (∀ (s1 : Rd.St) (out : List Sd.Fd) (w1 : World), LI w b g x (([] : List Box) ++ [(w.heap.size, Obj.cells #[.pointer (some ⟨b, 0, none⟩)] 73 (0, 0)), (w.heap.size + 1, Obj.cells #[.int .i64 0, .string ⟨#[]⟩, .slice none 0 0, .slice none 0 0, .slice none 0 0, .slice none 0 0, .int .i64 0] 38 (0, 0))]) 38 (mkTF kd ⟨nm.toArray⟩ (.slice none 0 0) tk.at_) 72 4 s1 (out.map Sd.Fd.d) w1 → s1.rest.length ≤ n → s1.deep = s.deep → out.length ≤ 1000000 →
        Calls Tryz.prog 74 #[.pointer (some ⟨x, 0, none⟩), .pointer (some ⟨w.heap.size, 0, none⟩)] w1 fun r w' => r = .returned (.tuple #[]) ∧ LI w b g x (([] : List Box) ++ [(w.heap.size, Obj.cells #[.pointer (some ⟨b, 0, none⟩)] 73 (0, 0)), (w.heap.size + 1, Obj.cells #[.int .i64 0, .string ⟨#[]⟩, .slice none 0 0, .slice none 0 0, .slice none 0 0, .slice none 0 0, .int .i64 0] 38 (0, 0))]) 38 (mkTF kd ⟨nm.toArray⟩ (.slice none 0 0) tk.at_) 72 4 (Sd.field (n + 1) s1).1 ((out ++ [(Sd.field (n + 1) s1).2]).map Sd.Fd.d) w') :=
      Lib.hid fun s1 out w1 hl hr hdp ho => by
        rw [List.map_append]
        exact defC1_any w b g x _ w.heap.size kd ⟨nm.toArray⟩ _ tk.at_ (n + 1) (List.mem_append_right _ HMB.out) s1 (out.map Sd.Fd.d) w1 (fun w2 hr2 => HFF.out s1 w2 hr hdp hr2) hl (by rw [List.length_map]; exact ho)
    have k2 : (w9).cell? ⟨w.heap.size, 0, none⟩ = some (.pointer (some ⟨b, 0, none⟩)) := HLI.out.cellx (List.mem_append_right _ HMB.out)
    go_wp2_with fail
    refine (within_any w b g x (([] : List Box) ++ [(w.heap.size, Obj.cells #[.pointer (some ⟨b, 0, none⟩)] 73 (0, 0)), (w.heap.size + 1, Obj.cells #[.int .i64 0, .string ⟨#[]⟩, .slice none 0 0, .slice none 0 0, .slice none 0 0, .slice none 0 0, .int .i64 0] 38 (0, 0))]) 38 (mkTF kd ⟨nm.toArray⟩ (.slice none 0 0) tk.at_) 72 4 Sd.Fd.d (Sd.field (n + 1)) n s.deep 74 _ (enters_D1 _) hnb HCL.out (Sd.field_deep (n + 1)) (Sd.ok_field (n + 1)) (Sd.field_goes (n + 1)) s7 _ HLI.out HN7.out HDP7.out).mono ?_
    rintro r wl ⟨rfl, hL⟩
    have HL := Lib.hid hL
    clear hL k2
    obtain ⟨L, hLL⟩ : ∃ z, z = Sd.between Rd.lbrc Rd.rbrc (Sd.field (n + 1)) (n + 1) s7 := ⟨_, rfl⟩
    rw [← hLL] at HL
    have HLL := Lib.hid hLL
    obtain ⟨va, vc, hbx, hrv⟩ := HL.out.bi (bx' := [(w.heap.size, Obj.cells #[.pointer (some ⟨b, 0, none⟩)] 73 (0, 0)), (w.heap.size + 1, Obj.cells #[.int .i64 0, .string ⟨#[]⟩, .slice none 0 0, .slice none 0 0, .slice none 0 0, .slice none 0 0, .int .i64 0] 38 (0, 0))]) (fun p hp => ⟨List.mem_append_right _ hp, (HB7.out.lx p hp).2⟩)
    obtain ⟨vl, hvl⟩ : ∃ z, z = (L.2.map Sd.Fd.d).length := ⟨_, rfl⟩
    rw [← hvl] at hbx hrv
    have HBx : Hid (BI w b g x [(w.heap.size, Obj.cells #[.pointer (some ⟨b, 0, none⟩)] 73 (0, 0)), (w.heap.size + 1, Obj.cells #[.int .i64 0, .string ⟨#[]⟩, .slice none 0 0, .slice none 0 0, .slice none 0 0, .slice none 0 0, .int .i64 0] 38 (0, 0))] 38 #[.int .i64 kd, .string ⟨nm.toArray⟩, .slice none 0 0, .slice va vl vc, .slice none 0 0, .slice none 0 0, .int .i64 tk.at_] L.1 wl) := Lib.hid hbx
    have HRV := Lib.hid hrv

    clear hbx hrv hvl hLL
    have y0 := blk_cell HBx.out.b6 0 (.int .i64 kd) rfl
    have yf0 := blk_free HBx.out.b6 0
    have y1 := blk_cell HBx.out.b6 1 (.string ⟨nm.toArray⟩) rfl
    have yf1 := blk_free HBx.out.b6 1
    have y2 := blk_cell HBx.out.b6 2 (.slice none 0 0) rfl
    have yf2 := blk_free HBx.out.b6 2
    have y3 := blk_cell HBx.out.b6 3 (.slice va vl vc) rfl
    have yf3 := blk_free HBx.out.b6 3
    have y4 := blk_cell HBx.out.b6 4 (.slice none 0 0) rfl
    have yf4 := blk_free HBx.out.b6 4
    have y5 := blk_cell HBx.out.b6 5 (.slice none 0 0) rfl
    have yf5 := blk_free HBx.out.b6 5
    have y6 := blk_cell HBx.out.b6 6 (.int .i64 tk.at_) rfl
    have yf6 := blk_free HBx.out.b6 6
    have z0 := blk_cell (HBx.out.cb _ HMR.out) 0 (.int .i64 0) rfl
    have zf0 := blk_free (HBx.out.cb _ HMR.out) 0
    have z1 := blk_cell (HBx.out.cb _ HMR.out) 1 (.string ⟨#[]⟩) rfl
    have zf1 := blk_free (HBx.out.cb _ HMR.out) 1
    have z2 := blk_cell (HBx.out.cb _ HMR.out) 2 (.slice none 0 0) rfl
    have zf2 := blk_free (HBx.out.cb _ HMR.out) 2
    have z3 := blk_cell (HBx.out.cb _ HMR.out) 3 (.slice none 0 0) rfl
    have zf3 := blk_free (HBx.out.cb _ HMR.out) 3
    have z4 := blk_cell (HBx.out.cb _ HMR.out) 4 (.slice none 0 0) rfl
    have zf4 := blk_free (HBx.out.cb _ HMR.out) 4
    have z5 := blk_cell (HBx.out.cb _ HMR.out) 5 (.slice none 0 0) rfl
    have zf5 := blk_free (HBx.out.cb _ HMR.out) 5
    have z6 := blk_cell (HBx.out.cb _ HMR.out) 6 (.int .i64 0) rfl
    have zf6 := blk_free (HBx.out.cb _ HMR.out) 6
    have HBz : Hid (BI w b g x [(w.heap.size, Obj.cells #[.pointer (some ⟨b, 0, none⟩)] 73 (0, 0)), (w.heap.size + 1, Obj.cells #[.int .i64 0, .string ⟨#[]⟩, .slice none 0 0, .slice none 0 0, .slice none 0 0, .slice none 0 0, .int .i64 0] 38 (0, 0))] 38 [.int .i64 kd, .string ⟨nm.toArray⟩, .slice none 0 0, .slice va vl vc, .slice none 0 0, .slice none 0 0, .int .i64 tk.at_].toArray L.1 (wl)) := HBx
    have HRS : Hid (Reads (wl) (fun z => x < z) (Sd.Td.d ⟨kd, nm, [], L.2, [], [], tk.at_⟩) [.int .i64 kd, .string ⟨nm.toArray⟩, .slice none 0 0, .slice va vl vc, .slice none 0 0, .slice none 0 0, .int .i64 tk.at_]) := by
      unfold Sd.Td.d
      exact Lib.hid (.obj (.cons (.int _) (.cons (.str _) (.cons (.seq (cap := 0) .nil) (.cons (HRV.out) (.cons (.seq (cap := 0) .nil) (.cons (.seq (cap := 0) .nil) (.cons (.int _) .nil))))))))
    have HE : Hid (Sd.def_ (n + 1) s = (L.1, ⟨kd, nm, [], L.2, [], [], tk.at_⟩)) := by rw [HDEF.out]; unfold Sd.body; rw [if_pos (Or.inr HKC.out)]; exact Lib.hid (by rw [HIM.out]; dsimp only; rw [← HLL.out])
    have hfin := HBz.out.fin HMR.out HRS.out (fun z hz => hz)
    simp only [putCells, Nat.reduceAdd, Nat.zero_add] at hfin
    have HFN := Lib.hid hfin
    clear hfin
    go_wp2_with fail
    refine bodyPost_ret (v := .agg #[.int .i64 kd, .string ⟨nm.toArray⟩, .slice none 0 0, .slice va vl vc, .slice none 0 0, .slice none 0 0, .int .i64 tk.at_]) (by simp [results, Tryz.results35, go_sem, z0, z1, z2, z3, z4, z5, z6, n1, n2, n3, n4]) rfl ?_
    rw [HE.out]
    exact ⟨_, rfl, HFN.out⟩
  · have HIM : Hid (Sd.impl s7 = Sd.names Sd.amp (Rd.next s7)) := by unfold Sd.impl; rw [if_pos HB.out.symm]; exact Lib.hid rfl
    have k2 : _ := HB9.out.cellx HMB.out
    go_wp2_with fail
    refine (rnext_any b g s7 w9 HB9.out.rd).mono ?_
    rintro r w10 ⟨rfl, h10, f10⟩
    have HB10 := Lib.hid (HB9.out.step h10 f10)
    clear h10 f10 k2
    have k2 : _ := HB10.out.cellx HMB.out
    go_wp2_with fail
    refine (rnames_any b g (Rd.next s7) Sd.amp _ HB10.out.rd).mono ?_
    rintro r w11 ⟨ia, ic, rfl, hrd, h11, f11⟩
    have HB11 := Lib.hid (HB10.out.step h11 f11)
    obtain ⟨NS, hNS⟩ : ∃ z, z = Sd.names Sd.amp (Rd.next s7) := ⟨_, rfl⟩
    rw [← hNS] at HB11 hrd
    rw [← hNS]
    have HNS := Lib.hid hNS
    obtain ⟨inn, hin⟩ : ∃ z, z = (sds NS.2).length := ⟨_, rfl⟩
    rw [← hin] at hrd ⊢
    obtain ⟨bx1, hx1, hx2⟩ := sds_boxes hrd
    have HX1 : Hid (∀ p ∈ bx1, x < p.1 ∧ w11.heap[p.1]? = some p.2) := Lib.hid fun p hp => ⟨by have h1 := (hx1 p hp).1; have h2 := block_lt HB10.out.b6; omega, (hx1 p hp).2⟩
    have HX2 : Hid (∀ w', (∀ p ∈ bx1, w'.heap[p.1]? = some p.2) → Reads w' (fun z => x < z) (.seq 1 (sds NS.2)) [.slice ia inn ic]) := Lib.hid fun w' h1 => (hx2 w' h1).to (Stands.sub w' (fun z _ hz => by have h2 := block_lt HB10.out.b6; have h3 : _ ≤ z := hz; show x < z; omega))
    have HB12 := Lib.hid (HB11.out.put 2 (.slice ia inn ic))
    have HOKN : Hid (Rd.Ok s NS.1) := by rw [HNS.out]; exact Lib.hid ((HOK7.out.trans (Rd.ok_next _)).trans (Sd.ok_names _ _))
    have HDPN : Hid (NS.1.deep = s.deep) := by rw [HNS.out, Sd.names_deep, Rd.next_deep, HDP7.out]; exact Lib.hid rfl
    have HNN : Hid (NS.1.err ≠ 0 ∨ NS.1.rest.length ≤ n) := by
      refine Lib.hid ?_
      rcases HN.out with h | h
      · left; rw [HOKN.out.err h]; exact h
      · right; exact Nat.le_trans HOKN.out.len h
    clear h11 f11 hrd hx1 hx2 hNS hin k2
    have y2 := blk_cell HB11.out.b6 2 (.slice none 0 0) rfl
    have yf2 := blk_free HB11.out.b6 2
    have k3 : _ := HB11.out.cellx HMB.out
    have HLI : Hid (LI w b g x (bx1 ++ [(w.heap.size, Obj.cells #[.pointer (some ⟨b, 0, none⟩)] 73 (0, 0)), (w.heap.size + 1, Obj.cells #[.int .i64 0, .string ⟨#[]⟩, .slice none 0 0, .slice none 0 0, .slice none 0 0, .slice none 0 0, .int .i64 0] 38 (0, 0))]) 38 (mkTF kd ⟨nm.toArray⟩ (.slice ia inn ic) tk.at_) 72 4 NS.1 [] (w11.setCell ⟨x, 2, none⟩ (.slice ia inn ic))) := Lib.hid (BI.li2 HB12.out (fun p hp => ⟨(HX1.out p hp).1, by rw [heap_set_ne (by have := (HX1.out p hp).1; omega)]; exact (HX1.out p hp).2⟩))
    have HCL : Hid (∀ (s1 : Rd.St) (out : List Sd.Fd) (w1 : World), LI w b g x (bx1 ++ [(w.heap.size, Obj.cells #[.pointer (some ⟨b, 0, none⟩)] 73 (0, 0)), (w.heap.size + 1, Obj.cells #[.int .i64 0, .string ⟨#[]⟩, .slice none 0 0, .slice none 0 0, .slice none 0 0, .slice none 0 0, .int .i64 0] 38 (0, 0))]) 38 (mkTF kd ⟨nm.toArray⟩ (.slice ia inn ic) tk.at_) 72 4 s1 (out.map Sd.Fd.d) w1 → s1.rest.length ≤ n → s1.deep = s.deep → out.length ≤ 1000000 →
        Calls Tryz.prog 74 #[.pointer (some ⟨x, 0, none⟩), .pointer (some ⟨w.heap.size, 0, none⟩)] w1 fun r w' => r = .returned (.tuple #[]) ∧ LI w b g x (bx1 ++ [(w.heap.size, Obj.cells #[.pointer (some ⟨b, 0, none⟩)] 73 (0, 0)), (w.heap.size + 1, Obj.cells #[.int .i64 0, .string ⟨#[]⟩, .slice none 0 0, .slice none 0 0, .slice none 0 0, .slice none 0 0, .int .i64 0] 38 (0, 0))]) 38 (mkTF kd ⟨nm.toArray⟩ (.slice ia inn ic) tk.at_) 72 4 (Sd.field (n + 1) s1).1 ((out ++ [(Sd.field (n + 1) s1).2]).map Sd.Fd.d) w') :=
      Lib.hid fun s1 out w1 hl hr hdp ho => by
        rw [List.map_append]
        exact defC1_any w b g x _ w.heap.size kd ⟨nm.toArray⟩ _ tk.at_ (n + 1) (List.mem_append_right _ HMB.out) s1 (out.map Sd.Fd.d) w1 (fun w2 hr2 => HFF.out s1 w2 hr hdp hr2) hl (by rw [List.length_map]; exact ho)
    have k2 : (w11.setCell ⟨x, 2, none⟩ (.slice ia inn ic)).cell? ⟨w.heap.size, 0, none⟩ = some (.pointer (some ⟨b, 0, none⟩)) := HLI.out.cellx (List.mem_append_right _ HMB.out)
    go_wp2_with fail
    clear y2 yf2 k3
    refine (within_any w b g x (bx1 ++ [(w.heap.size, Obj.cells #[.pointer (some ⟨b, 0, none⟩)] 73 (0, 0)), (w.heap.size + 1, Obj.cells #[.int .i64 0, .string ⟨#[]⟩, .slice none 0 0, .slice none 0 0, .slice none 0 0, .slice none 0 0, .int .i64 0] 38 (0, 0))]) 38 (mkTF kd ⟨nm.toArray⟩ (.slice ia inn ic) tk.at_) 72 4 Sd.Fd.d (Sd.field (n + 1)) n s.deep 74 _ (enters_D1 _) hnb HCL.out (Sd.field_deep (n + 1)) (Sd.ok_field (n + 1)) (Sd.field_goes (n + 1)) NS.1 _ HLI.out HNN.out HDPN.out).mono ?_
    rintro r wl ⟨rfl, hL⟩
    have HL := Lib.hid hL
    clear hL k2
    obtain ⟨L, hLL⟩ : ∃ z, z = Sd.between Rd.lbrc Rd.rbrc (Sd.field (n + 1)) (n + 1) NS.1 := ⟨_, rfl⟩
    rw [← hLL] at HL
    have HLL := Lib.hid hLL
    obtain ⟨va, vc, hbx, hrv⟩ := HL.out.bi (bx' := [(w.heap.size, Obj.cells #[.pointer (some ⟨b, 0, none⟩)] 73 (0, 0)), (w.heap.size + 1, Obj.cells #[.int .i64 0, .string ⟨#[]⟩, .slice none 0 0, .slice none 0 0, .slice none 0 0, .slice none 0 0, .int .i64 0] 38 (0, 0))]) (fun p hp => ⟨List.mem_append_right _ hp, (HB7.out.lx p hp).2⟩)
    obtain ⟨vl, hvl⟩ : ∃ z, z = (L.2.map Sd.Fd.d).length := ⟨_, rfl⟩
    rw [← hvl] at hbx hrv
    have HBx : Hid (BI w b g x [(w.heap.size, Obj.cells #[.pointer (some ⟨b, 0, none⟩)] 73 (0, 0)), (w.heap.size + 1, Obj.cells #[.int .i64 0, .string ⟨#[]⟩, .slice none 0 0, .slice none 0 0, .slice none 0 0, .slice none 0 0, .int .i64 0] 38 (0, 0))] 38 #[.int .i64 kd, .string ⟨nm.toArray⟩, .slice ia inn ic, .slice va vl vc, .slice none 0 0, .slice none 0 0, .int .i64 tk.at_] L.1 wl) := Lib.hid hbx
    have HRV := Lib.hid hrv
    have HIV := Lib.hid (HX2.out wl (fun p hp => HL.out.cb p (List.mem_append_left _ hp)))
    clear hbx hrv hvl hLL
    have y0 := blk_cell HBx.out.b6 0 (.int .i64 kd) rfl
    have yf0 := blk_free HBx.out.b6 0
    have y1 := blk_cell HBx.out.b6 1 (.string ⟨nm.toArray⟩) rfl
    have yf1 := blk_free HBx.out.b6 1
    have y2 := blk_cell HBx.out.b6 2 (.slice ia inn ic) rfl
    have yf2 := blk_free HBx.out.b6 2
    have y3 := blk_cell HBx.out.b6 3 (.slice va vl vc) rfl
    have yf3 := blk_free HBx.out.b6 3
    have y4 := blk_cell HBx.out.b6 4 (.slice none 0 0) rfl
    have yf4 := blk_free HBx.out.b6 4
    have y5 := blk_cell HBx.out.b6 5 (.slice none 0 0) rfl
    have yf5 := blk_free HBx.out.b6 5
    have y6 := blk_cell HBx.out.b6 6 (.int .i64 tk.at_) rfl
    have yf6 := blk_free HBx.out.b6 6
    have z0 := blk_cell (HBx.out.cb _ HMR.out) 0 (.int .i64 0) rfl
    have zf0 := blk_free (HBx.out.cb _ HMR.out) 0
    have z1 := blk_cell (HBx.out.cb _ HMR.out) 1 (.string ⟨#[]⟩) rfl
    have zf1 := blk_free (HBx.out.cb _ HMR.out) 1
    have z2 := blk_cell (HBx.out.cb _ HMR.out) 2 (.slice none 0 0) rfl
    have zf2 := blk_free (HBx.out.cb _ HMR.out) 2
    have z3 := blk_cell (HBx.out.cb _ HMR.out) 3 (.slice none 0 0) rfl
    have zf3 := blk_free (HBx.out.cb _ HMR.out) 3
    have z4 := blk_cell (HBx.out.cb _ HMR.out) 4 (.slice none 0 0) rfl
    have zf4 := blk_free (HBx.out.cb _ HMR.out) 4
    have z5 := blk_cell (HBx.out.cb _ HMR.out) 5 (.slice none 0 0) rfl
    have zf5 := blk_free (HBx.out.cb _ HMR.out) 5
    have z6 := blk_cell (HBx.out.cb _ HMR.out) 6 (.int .i64 0) rfl
    have zf6 := blk_free (HBx.out.cb _ HMR.out) 6
    have HBz : Hid (BI w b g x [(w.heap.size, Obj.cells #[.pointer (some ⟨b, 0, none⟩)] 73 (0, 0)), (w.heap.size + 1, Obj.cells #[.int .i64 0, .string ⟨#[]⟩, .slice none 0 0, .slice none 0 0, .slice none 0 0, .slice none 0 0, .int .i64 0] 38 (0, 0))] 38 [.int .i64 kd, .string ⟨nm.toArray⟩, .slice ia inn ic, .slice va vl vc, .slice none 0 0, .slice none 0 0, .int .i64 tk.at_].toArray L.1 (wl)) := HBx
    have HRS : Hid (Reads (wl) (fun z => x < z) (Sd.Td.d ⟨kd, nm, NS.2, L.2, [], [], tk.at_⟩) [.int .i64 kd, .string ⟨nm.toArray⟩, .slice ia inn ic, .slice va vl vc, .slice none 0 0, .slice none 0 0, .int .i64 tk.at_]) := by
      unfold Sd.Td.d
      exact Lib.hid (.obj (.cons (.int _) (.cons (.str _) (.cons (HIV.out) (.cons (HRV.out) (.cons (.seq (cap := 0) .nil) (.cons (.seq (cap := 0) .nil) (.cons (.int _) .nil))))))))
    have HE : Hid (Sd.def_ (n + 1) s = (L.1, ⟨kd, nm, NS.2, L.2, [], [], tk.at_⟩)) := by rw [HDEF.out]; unfold Sd.body; rw [if_pos (Or.inr HKC.out)]; exact Lib.hid (by rw [HIM.out, ← HNS.out]; dsimp only; rw [← HLL.out])
    have hfin := HBz.out.fin HMR.out HRS.out (fun z hz => hz)
    simp only [putCells, Nat.reduceAdd, Nat.zero_add] at hfin
    have HFN := Lib.hid hfin
    clear hfin
    go_wp2_with fail
    refine bodyPost_ret (v := .agg #[.int .i64 kd, .string ⟨nm.toArray⟩, .slice ia inn ic, .slice va vl vc, .slice none 0 0, .slice none 0 0, .int .i64 tk.at_]) (by simp [results, Tryz.results35, go_sem, z0, z1, z2, z3, z4, z5, z6, n1, n2, n3, n4]) rfl ?_
    rw [HE.out]
    exact ⟨_, rfl, HFN.out⟩
end Go.Proofs.YtabcaljnpahgpaaGreatDoor
