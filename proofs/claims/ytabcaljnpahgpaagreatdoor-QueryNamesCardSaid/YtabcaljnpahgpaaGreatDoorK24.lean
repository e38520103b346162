/-
  The reader of documents: a fragment, walked.
-/
import Derived.Test.YtabcaljnpahgpaaGreatDoorK23
namespace Go.Proofs.YtabcaljnpahgpaaGreatDoor
set_option linter.unusedSimpArgs false
set_option linter.unusedVariables false
open Go Go.RowKit

set_option maxHeartbeats 4000000 in
set_option maxRecDepth 100000 in
theorem frag_any (b g n : Nat) (hnb : n ≤ 1600) (s : Rd.St) (w : World) (h : RdAt w b g s) (hn : s.rest.length ≤ n) (hd : 0 ≤ s.deep ∧ s.deep ≤ 700000) :
    Calls Tryz.prog 83 #[.pointer (some ⟨b, 0, none⟩)] w (Got b g w (Qr.frag (n + 1) s).2.d (Qr.frag (n + 1) s).1) := by
  have hlb := h.lt
  have HN := Lib.hid hn
  have H := Lib.hid h
  have HOK0 : Hid (Rd.Ok s (Rd.next s)) := Lib.hid (Rd.ok_next s)
  have HDP0 : Hid ((Rd.next s).deep = s.deep) := Lib.hid (Rd.next_deep s)
  obtain ⟨d0, d1⟩ := hd
  have hba : Below w.heap.size w (w.alloc (.cells #[.string ⟨#[]⟩, .string ⟨#[]⟩, .slice none 0 0, .slice none 0 0, .int .i64 0] 99)) := (Below.refl _ _).alloc (Nat.le_refl _) _
  have HBA := Lib.hid hba
  clear h hn hba
  go_enter Tryz.func83, Tryz.ntmps83
  go_wp2_with fail
  refine (rnext_any b g s _ (H.out.below HBA.out)).mono ?_
  rintro r w2 ⟨rfl, h2, f2⟩
  obtain ⟨pa, hpa⟩ : ∃ x, x = (Rd.peek s).at_ := ⟨_, rfl⟩
  rw [← hpa]
  have HPA := Lib.hid hpa
  have HF0 : Hid (FJ w b g w2.heap.size (w2.heap.size + 1) [(w.heap.size, Obj.cells #[.string ⟨#[]⟩, .string ⟨#[]⟩, .slice none 0 0, .slice none 0 0, .int .i64 0] 99 (0, 0))] 99 [.str [], .str [], .seq 3 [], .seq 7 [], .int pa] [.string ⟨#[]⟩, .string ⟨#[]⟩, .slice none 0 0, .slice none 0 0, .int .i64 pa] (Rd.next s) (w2.alloc (.cells #[.string ⟨#[]⟩, .string ⟨#[]⟩, .slice none 0 0, .slice none 0 0, .int .i64 pa] 99))) := by
    have hbb : Below w2.heap.size w2 (w2.alloc (.cells #[.string ⟨#[]⟩, .string ⟨#[]⟩, .slice none 0 0, .slice none 0 0, .int .i64 pa] 99)) := (Below.refl _ _).alloc (Nat.le_refl _) _
    have hsz : (w.alloc (.cells #[.string ⟨#[]⟩, .string ⟨#[]⟩, .slice none 0 0, .slice none 0 0, .int .i64 0] 99)).heap.size = w.heap.size + 1 := by simp
    have hs2 := f2.size
    refine Lib.hid ⟨h2.below hbb, fun p hp => ?_, heap_at_new _ _, ((But.of_below HBA.out).trans f2).trans (But.of_below hbb), hlb.1, hlb.2, fun p hp => ?_, ⟨by omega, by omega⟩, by simp, .cons (.str []) (.cons (.str []) (.cons (.seq (cap := 0) .nil) (.cons (.seq (cap := 0) .nil) (.cons (.int _) .nil))))⟩
    · rw [List.mem_singleton.1 hp]
      show (w2.alloc _).heap[w.heap.size]? = _
      rw [hbb.block w.heap.size (by omega), f2.block w.heap.size (by omega) (by omega)]
      exact heap_at_new _ _
    · rw [List.mem_singleton.1 hp]
      simp only
      omega
  have hl6 : w.heap.size < w2.heap.size := by have := f2.size; simp at this; omega
  obtain ⟨t6, ht6⟩ : ∃ x, x = w2.heap.size := ⟨_, rfl⟩
  obtain ⟨lo, hlo⟩ : ∃ x, x = w2.heap.size + 1 := ⟨_, rfl⟩
  have n1 : ¬ t6 = w.heap.size := by omega
  have n2 : ¬ w.heap.size = t6 := by omega
  clear h2 f2 hpa
  go_wp2_with fail
  refine (but_any b g (Rd.next s) _ HF0.out.rd).mono ?_
  rintro r w3 ⟨rfl, h3, f3⟩
  have hF1 := HF0.out.step h3 f3
  rw [← hlo, ← ht6] at hF1
  rw [← ht6]
  obtain ⟨st1, hs1⟩ : ∃ x, x = (Qr.but (Rd.next s)).1 := ⟨_, rfl⟩
  obtain ⟨nm1, hnm1⟩ : ∃ x, x = (Qr.but (Rd.next s)).2 := ⟨_, rfl⟩
  rw [← hs1] at hF1
  rw [← hnm1]
  have HST1 := Lib.hid hs1
  have HNM1 := Lib.hid hnm1
  have HF1 := Lib.hid hF1
  have HOK1 : Hid (Rd.Ok s st1) := by rw [HST1.out]; exact Lib.hid (HOK0.out.trans (Qr.ok_but _))
  have HDP1 : Hid (st1.deep = s.deep) := by rw [HST1.out, Qr.but_deep]; exact HDP0
  clear h3 f3 hF1 ht6 hlo hl6 HF0 hs1 hnm1
  have y0 := blk_cell HF1.out.b6 0 (.string ⟨#[]⟩) rfl
  have yf0 := blk_free HF1.out.b6 0
  have HP1 : Hid (FJ w b g t6 lo [(w.heap.size, Obj.cells #[.string ⟨#[]⟩, .string ⟨#[]⟩, .slice none 0 0, .slice none 0 0, .int .i64 0] 99 (0, 0))] 99 [.str nm1, .str [], .seq 3 [], .seq 7 [], .int pa] [.string ⟨nm1.toArray⟩, .string ⟨#[]⟩, .slice none 0 0, .slice none 0 0, .int .i64 pa] st1 ((w3).setCell ⟨t6, 0, none⟩ (.string ⟨nm1.toArray⟩))) := Lib.hid (HF1.out.put 0 (.str nm1) rfl)
  have HBL4 : Hid (Below ((w3).setCell ⟨t6, 0, none⟩ (.string ⟨nm1.toArray⟩)).heap.size ((w3).setCell ⟨t6, 0, none⟩ (.string ⟨nm1.toArray⟩)) (((w3).setCell ⟨t6, 0, none⟩ (.string ⟨nm1.toArray⟩)).alloc (.cells #[.string ⟨#[111, 110]⟩] 9))) := Lib.hid ((Below.refl _ _).alloc (Nat.le_refl _) _)
  obtain ⟨sz4, hsz4⟩ : ∃ x, x = ((w3).setCell ⟨t6, 0, none⟩ (.string ⟨nm1.toArray⟩)).heap.size := ⟨_, rfl⟩
  have HTX4 : Hid (Txts (((w3).setCell ⟨t6, 0, none⟩ (.string ⟨nm1.toArray⟩)).alloc (.cells #[.string ⟨#[111, 110]⟩] 9)) (.slice (some ⟨sz4, 0, none⟩) 1 1) [Qr.sOn]) := by
    rw [hsz4]; exact Lib.hid (txts_one _ Qr.sOn ⟨#[111, 110]⟩ 9 rfl)
  try simp only [size_set] at hsz4
  subst hsz4
  go_wp2_with fail
  refine (rword_any b g st1 _ [Qr.sOn] _ ((HP1.out.below HBL4.out).rd) HTX4.out (by simp)).mono ?_
  rintro r w4x ⟨rfl, hb4⟩
  have HC4 : Hid (FJ w b g t6 lo [(w.heap.size, Obj.cells #[.string ⟨#[]⟩, .string ⟨#[]⟩, .slice none 0 0, .slice none 0 0, .int .i64 0] 99 (0, 0))] 99 [.str nm1, .str [], .seq 3 [], .seq 7 [], .int pa] [.string ⟨nm1.toArray⟩, .string ⟨#[]⟩, .slice none 0 0, .slice none 0 0, .int .i64 pa] st1 (w4x)) := Lib.hid ((HP1.out.below HBL4.out).below hb4)
  obtain ⟨B, hB⟩ : ∃ B, B = Rd.isW st1 [Qr.sOn] := ⟨_, rfl⟩
  have HB := Lib.hid hB
  rw [← hB]
  clear hB hb4
  clear y0 yf0
  cases B
  · go_wp2_with fail
    refine (rwrong_any b g st1 _ HC4.out.rd).mono ?_
    rintro r w21x ⟨rfl, h21, f21⟩
    obtain ⟨st21, hs21⟩ : ∃ x, x = Rd.wrong st1 := ⟨_, rfl⟩
    rw [← hs21] at h21
    have HST21 := Lib.hid hs21
    have HOK21x : Hid (Rd.Ok s st21) := by rw [HST21.out]; exact Lib.hid (HOK1.out.trans (Rd.ok_wrong _))
    have HDP21x : Hid (st21.deep = s.deep) := by rw [HST21.out, Rd.wrong_deep]; exact HDP1
    have HC21 : Hid (FJ w b g t6 lo [(w.heap.size, Obj.cells #[.string ⟨#[]⟩, .string ⟨#[]⟩, .slice none 0 0, .slice none 0 0, .int .i64 0] 99 (0, 0))] 99 [.str nm1, .str [], .seq 3 [], .seq 7 [], .int pa] [.string ⟨nm1.toArray⟩, .string ⟨#[]⟩, .slice none 0 0, .slice none 0 0, .int .i64 pa] st21 (w21x)) := Lib.hid (HC4.out.step h21 f21)
    clear h21 f21 hs21
    go_wp2_with fail
    refine (rnext_any b g st21 _ HC21.out.rd).mono ?_
    rintro r w22x ⟨rfl, h22, f22⟩
    obtain ⟨st22, hs22⟩ : ∃ x, x = Rd.next st21 := ⟨_, rfl⟩
    rw [← hs22] at h22
    have HST22 := Lib.hid hs22
    have HOK22x : Hid (Rd.Ok s st22) := by rw [HST22.out]; exact Lib.hid (HOK21x.out.trans (Rd.ok_next _))
    have HDP22x : Hid (st22.deep = s.deep) := by rw [HST22.out, Rd.next_deep]; exact HDP21x
    have HC22 : Hid (FJ w b g t6 lo [(w.heap.size, Obj.cells #[.string ⟨#[]⟩, .string ⟨#[]⟩, .slice none 0 0, .slice none 0 0, .int .i64 0] 99 (0, 0))] 99 [.str nm1, .str [], .seq 3 [], .seq 7 [], .int pa] [.string ⟨nm1.toArray⟩, .string ⟨#[]⟩, .slice none 0 0, .slice none 0 0, .int .i64 pa] st22 (w22x)) := Lib.hid (HC21.out.step h22 f22)
    clear h22 f22 hs22
    go_wp2_with fail
    refine (rname_any b g st22 _ HC22.out.rd).mono ?_
    rintro r w23x ⟨rfl, h23, f23⟩
    obtain ⟨st23, hs23⟩ : ∃ x, x = (Rd.name st22).1 := ⟨_, rfl⟩
    rw [← hs23] at h23
    have HST23 := Lib.hid hs23
    have HOK23x : Hid (Rd.Ok s st23) := by rw [HST23.out]; exact Lib.hid (HOK22x.out.trans (Rd.ok_name _))
    have HDP23x : Hid (st23.deep = s.deep) := by rw [HST23.out, Rd.name_deep]; exact HDP22x
    obtain ⟨nm23, hnm23⟩ : ∃ x, x = (Rd.name st22).2 := ⟨_, rfl⟩
    rw [← hnm23]
    have HNM23 := Lib.hid hnm23
    clear hnm23
    have HC23 : Hid (FJ w b g t6 lo [(w.heap.size, Obj.cells #[.string ⟨#[]⟩, .string ⟨#[]⟩, .slice none 0 0, .slice none 0 0, .int .i64 0] 99 (0, 0))] 99 [.str nm1, .str [], .seq 3 [], .seq 7 [], .int pa] [.string ⟨nm1.toArray⟩, .string ⟨#[]⟩, .slice none 0 0, .slice none 0 0, .int .i64 pa] st23 (w23x)) := Lib.hid (HC22.out.step h23 f23)
    clear h23 f23 hs23
    have y1 := blk_cell HC23.out.b6 1 (.string ⟨#[]⟩) rfl
    have yf1 := blk_free HC23.out.b6 1
    have HP24 : Hid (FJ w b g t6 lo [(w.heap.size, Obj.cells #[.string ⟨#[]⟩, .string ⟨#[]⟩, .slice none 0 0, .slice none 0 0, .int .i64 0] 99 (0, 0))] 99 [.str nm1, .str nm23, .seq 3 [], .seq 7 [], .int pa] [.string ⟨nm1.toArray⟩, .string ⟨nm23.toArray⟩, .slice none 0 0, .slice none 0 0, .int .i64 pa] st23 ((w23x).setCell ⟨t6, 1, none⟩ (.string ⟨nm23.toArray⟩))) := Lib.hid (HC23.out.put 1 (.str nm23) rfl)
    go_wp2_with fail
    refine (dirs_any b g n hnb st23 _ HP24.out.rd (Nat.le_trans HOK23x.out.len HN.out) (by rw [HDP23x.out]; omega)).mono ?_
    rintro r w25x ⟨ra25, rc25, rfl, hrd, h25, f25⟩
    obtain ⟨q25, hq25⟩ : ∃ x, x = Qr.dirs (n + 1) st23 := ⟨_, rfl⟩
    rw [← hq25] at hrd h25 ⊢
    have HQ25 := Lib.hid hq25
    have hda := HP24.out.data hrd
    obtain ⟨ln25, hln⟩ : ∃ x, x = q25.2.length := ⟨_, rfl⟩
    rw [List.length_map, ← hln] at hda ⊢
    have HOK25x : Hid (Rd.Ok s q25.1) := by rw [HQ25.out]; exact Lib.hid (HOK23x.out.trans (Qr.ok_dirs (n + 1) _))
    have HDP25x : Hid (q25.1.deep = s.deep) := by rw [HQ25.out, Qr.dirs_deep]; exact HDP23x
    have HC25 : Hid (FJ w b g t6 lo [(w.heap.size, Obj.cells #[.string ⟨#[]⟩, .string ⟨#[]⟩, .slice none 0 0, .slice none 0 0, .int .i64 0] 99 (0, 0))] 99 [.str nm1, .str nm23, .seq 3 [], .seq 7 [], .int pa] [.string ⟨nm1.toArray⟩, .string ⟨nm23.toArray⟩, .slice none 0 0, .slice none 0 0, .int .i64 pa] q25.1 (w25x)) := Lib.hid (HP24.out.step h25 f25)
    have HDA25 := Lib.hid hda
    clear hrd h25 f25 hq25 hda hln
    have y2 := blk_cell HC25.out.b6 2 (.slice none 0 0) rfl
    have yf2 := blk_free HC25.out.b6 2
    have HP26 : Hid (FJ w b g t6 lo [(w.heap.size, Obj.cells #[.string ⟨#[]⟩, .string ⟨#[]⟩, .slice none 0 0, .slice none 0 0, .int .i64 0] 99 (0, 0))] 99 [.str nm1, .str nm23, .seq 3 (q25.2.map Qr.Dir.d), .seq 7 [], .int pa] [.string ⟨nm1.toArray⟩, .string ⟨nm23.toArray⟩, .slice ra25 ln25 rc25, .slice none 0 0, .int .i64 pa] q25.1 ((w25x).setCell ⟨t6, 2, none⟩ (.slice ra25 ln25 rc25))) := Lib.hid (HC25.out.put 2 (HDA25.out) rfl)
    clear y1 yf1
    go_wp2_with fail
    refine (sels_any b g n hnb q25.1 _ HP26.out.rd (Nat.le_trans HOK25x.out.len HN.out) (by rw [HDP25x.out]; omega)).mono ?_
    rintro r w27x ⟨ra27, rc27, rfl, hrd, h27, f27⟩
    obtain ⟨q27, hq27⟩ : ∃ x, x = Qr.sels (n + 1) (n + 1) q25.1 := ⟨_, rfl⟩
    rw [← hq27] at hrd h27 ⊢
    have HQ27 := Lib.hid hq27
    have hda := HP26.out.data hrd
    obtain ⟨ln27, hln⟩ : ∃ x, x = q27.2.length := ⟨_, rfl⟩
    rw [List.length_map, ← hln] at hda ⊢
    have HOK27x : Hid (Rd.Ok s q27.1) := by rw [HQ27.out]; exact Lib.hid (HOK25x.out.trans (Qr.ok_selsOf _ (Qr.ok_sel (n + 1) (n + 1)) _))
    have HDP27x : Hid (q27.1.deep = s.deep) := by rw [HQ27.out, show (Qr.sels (n + 1) (n + 1) _).1.deep = _ from Qr.selsOf_deep _ (Qr.sel_deep (n + 1) (n + 1)) _]; exact HDP25x
    have HC27 : Hid (FJ w b g t6 lo [(w.heap.size, Obj.cells #[.string ⟨#[]⟩, .string ⟨#[]⟩, .slice none 0 0, .slice none 0 0, .int .i64 0] 99 (0, 0))] 99 [.str nm1, .str nm23, .seq 3 (q25.2.map Qr.Dir.d), .seq 7 [], .int pa] [.string ⟨nm1.toArray⟩, .string ⟨nm23.toArray⟩, .slice ra25 ln25 rc25, .slice none 0 0, .int .i64 pa] q27.1 (w27x)) := Lib.hid (HP26.out.step h27 f27)
    have HDA27 := Lib.hid hda
    clear hrd h27 f27 hq27 hda hln
    have y3 := blk_cell HC27.out.b6 3 (.slice none 0 0) rfl
    have yf3 := blk_free HC27.out.b6 3
    have HP28 : Hid (FJ w b g t6 lo [(w.heap.size, Obj.cells #[.string ⟨#[]⟩, .string ⟨#[]⟩, .slice none 0 0, .slice none 0 0, .int .i64 0] 99 (0, 0))] 99 [.str nm1, .str nm23, .seq 3 (q25.2.map Qr.Dir.d), .seq 7 (q27.2.map Qr.Sel.d), .int pa] [.string ⟨nm1.toArray⟩, .string ⟨nm23.toArray⟩, .slice ra25 ln25 rc25, .slice ra27 ln27 rc27, .int .i64 pa] q27.1 ((w27x).setCell ⟨t6, 3, none⟩ (.slice ra27 ln27 rc27))) := Lib.hid (HC27.out.put 3 (HDA27.out) rfl)
    have HR : Hid (Qr.frag (n + 1) s = (q27.1, ⟨nm1, nm23, q25.2, q27.2, pa⟩)) := by
      refine Lib.hid ?_
      unfold Qr.frag
      dsimp only
      rw [← HST1.out, ← HNM1.out, if_neg (by rw [← HB.out]; simp), ← HST21.out, ← HST22.out, ← HST23.out, ← HNM23.out, ← HQ25.out, ← HQ27.out, ← HPA.out]
    clear y2 yf2
    have y0 := blk_cell HC27.out.b6 0 (.string ⟨nm1.toArray⟩) rfl
    have yf0 := blk_free HC27.out.b6 0
    have y1 := blk_cell HC27.out.b6 1 (.string ⟨nm23.toArray⟩) rfl
    have yf1 := blk_free HC27.out.b6 1
    have y2 := blk_cell HC27.out.b6 2 (.slice ra25 ln25 rc25) rfl
    have yf2 := blk_free HC27.out.b6 2
    have y4 := blk_cell HC27.out.b6 4 (.int .i64 pa) rfl
    have yf4 := blk_free HC27.out.b6 4
    have z0 := blk_cell (HC27.out.cb _ (List.mem_singleton.2 rfl)) 0 (.string ⟨#[]⟩) rfl
    have zf0 := blk_free (HC27.out.cb _ (List.mem_singleton.2 rfl)) 0
    have z1 := blk_cell (HC27.out.cb _ (List.mem_singleton.2 rfl)) 1 (.string ⟨#[]⟩) rfl
    have zf1 := blk_free (HC27.out.cb _ (List.mem_singleton.2 rfl)) 1
    have z2 := blk_cell (HC27.out.cb _ (List.mem_singleton.2 rfl)) 2 (.slice none 0 0) rfl
    have zf2 := blk_free (HC27.out.cb _ (List.mem_singleton.2 rfl)) 2
    have z3 := blk_cell (HC27.out.cb _ (List.mem_singleton.2 rfl)) 3 (.slice none 0 0) rfl
    have zf3 := blk_free (HC27.out.cb _ (List.mem_singleton.2 rfl)) 3
    have z4 := blk_cell (HC27.out.cb _ (List.mem_singleton.2 rfl)) 4 (.int .i64 0) rfl
    have zf4 := blk_free (HC27.out.cb _ (List.mem_singleton.2 rfl)) 4
    have hfin := HP28.out.fin (r := w.heap.size) (List.mem_singleton.2 rfl)
    simp only [putCells, Nat.reduceAdd, Nat.zero_add] at hfin
    have HFN := Lib.hid hfin
    clear hfin
    go_wp2_with fail
    refine bodyPost_ret (v := .agg #[.string ⟨nm1.toArray⟩, .string ⟨nm23.toArray⟩, .slice ra25 ln25 rc25, .slice ra27 ln27 rc27, .int .i64 pa]) (by simp [results, Tryz.results83, go_sem, z0, z1, z2, z3, z4, n1, n2]) rfl ?_
    rw [HR.out]
    exact ⟨_, rfl, HFN.out⟩
  · go_wp2_with fail
    refine (rnext_any b g st1 _ HC4.out.rd).mono ?_
    rintro r w21x ⟨rfl, h21, f21⟩
    obtain ⟨st21, hs21⟩ : ∃ x, x = Rd.next st1 := ⟨_, rfl⟩
    rw [← hs21] at h21
    have HST21 := Lib.hid hs21
    have HOK21x : Hid (Rd.Ok s st21) := by rw [HST21.out]; exact Lib.hid (HOK1.out.trans (Rd.ok_next _))
    have HDP21x : Hid (st21.deep = s.deep) := by rw [HST21.out, Rd.next_deep]; exact HDP1
    have HC21 : Hid (FJ w b g t6 lo [(w.heap.size, Obj.cells #[.string ⟨#[]⟩, .string ⟨#[]⟩, .slice none 0 0, .slice none 0 0, .int .i64 0] 99 (0, 0))] 99 [.str nm1, .str [], .seq 3 [], .seq 7 [], .int pa] [.string ⟨nm1.toArray⟩, .string ⟨#[]⟩, .slice none 0 0, .slice none 0 0, .int .i64 pa] st21 (w21x)) := Lib.hid (HC4.out.step h21 f21)
    clear h21 f21 hs21
    go_wp2_with fail
    refine (rname_any b g st21 _ HC21.out.rd).mono ?_
    rintro r w22x ⟨rfl, h22, f22⟩
    obtain ⟨st22, hs22⟩ : ∃ x, x = (Rd.name st21).1 := ⟨_, rfl⟩
    rw [← hs22] at h22
    have HST22 := Lib.hid hs22
    have HOK22x : Hid (Rd.Ok s st22) := by rw [HST22.out]; exact Lib.hid (HOK21x.out.trans (Rd.ok_name _))
    have HDP22x : Hid (st22.deep = s.deep) := by rw [HST22.out, Rd.name_deep]; exact HDP21x
    obtain ⟨nm22, hnm22⟩ : ∃ x, x = (Rd.name st21).2 := ⟨_, rfl⟩
    rw [← hnm22]
    have HNM22 := Lib.hid hnm22
    clear hnm22
    have HC22 : Hid (FJ w b g t6 lo [(w.heap.size, Obj.cells #[.string ⟨#[]⟩, .string ⟨#[]⟩, .slice none 0 0, .slice none 0 0, .int .i64 0] 99 (0, 0))] 99 [.str nm1, .str [], .seq 3 [], .seq 7 [], .int pa] [.string ⟨nm1.toArray⟩, .string ⟨#[]⟩, .slice none 0 0, .slice none 0 0, .int .i64 pa] st22 (w22x)) := Lib.hid (HC21.out.step h22 f22)
    clear h22 f22 hs22
    have y1 := blk_cell HC22.out.b6 1 (.string ⟨#[]⟩) rfl
    have yf1 := blk_free HC22.out.b6 1
    have HP23 : Hid (FJ w b g t6 lo [(w.heap.size, Obj.cells #[.string ⟨#[]⟩, .string ⟨#[]⟩, .slice none 0 0, .slice none 0 0, .int .i64 0] 99 (0, 0))] 99 [.str nm1, .str nm22, .seq 3 [], .seq 7 [], .int pa] [.string ⟨nm1.toArray⟩, .string ⟨nm22.toArray⟩, .slice none 0 0, .slice none 0 0, .int .i64 pa] st22 ((w22x).setCell ⟨t6, 1, none⟩ (.string ⟨nm22.toArray⟩))) := Lib.hid (HC22.out.put 1 (.str nm22) rfl)
    go_wp2_with fail
    refine (dirs_any b g n hnb st22 _ HP23.out.rd (Nat.le_trans HOK22x.out.len HN.out) (by rw [HDP22x.out]; omega)).mono ?_
    rintro r w24x ⟨ra24, rc24, rfl, hrd, h24, f24⟩
    obtain ⟨q24, hq24⟩ : ∃ x, x = Qr.dirs (n + 1) st22 := ⟨_, rfl⟩
    rw [← hq24] at hrd h24 ⊢
    have HQ24 := Lib.hid hq24
    have hda := HP23.out.data hrd
    obtain ⟨ln24, hln⟩ : ∃ x, x = q24.2.length := ⟨_, rfl⟩
    rw [List.length_map, ← hln] at hda ⊢
    have HOK24x : Hid (Rd.Ok s q24.1) := by rw [HQ24.out]; exact Lib.hid (HOK22x.out.trans (Qr.ok_dirs (n + 1) _))
    have HDP24x : Hid (q24.1.deep = s.deep) := by rw [HQ24.out, Qr.dirs_deep]; exact HDP22x
    have HC24 : Hid (FJ w b g t6 lo [(w.heap.size, Obj.cells #[.string ⟨#[]⟩, .string ⟨#[]⟩, .slice none 0 0, .slice none 0 0, .int .i64 0] 99 (0, 0))] 99 [.str nm1, .str nm22, .seq 3 [], .seq 7 [], .int pa] [.string ⟨nm1.toArray⟩, .string ⟨nm22.toArray⟩, .slice none 0 0, .slice none 0 0, .int .i64 pa] q24.1 (w24x)) := Lib.hid (HP23.out.step h24 f24)
    have HDA24 := Lib.hid hda
    clear hrd h24 f24 hq24 hda hln
    have y2 := blk_cell HC24.out.b6 2 (.slice none 0 0) rfl
    have yf2 := blk_free HC24.out.b6 2
    have HP25 : Hid (FJ w b g t6 lo [(w.heap.size, Obj.cells #[.string ⟨#[]⟩, .string ⟨#[]⟩, .slice none 0 0, .slice none 0 0, .int .i64 0] 99 (0, 0))] 99 [.str nm1, .str nm22, .seq 3 (q24.2.map Qr.Dir.d), .seq 7 [], .int pa] [.string ⟨nm1.toArray⟩, .string ⟨nm22.toArray⟩, .slice ra24 ln24 rc24, .slice none 0 0, .int .i64 pa] q24.1 ((w24x).setCell ⟨t6, 2, none⟩ (.slice ra24 ln24 rc24))) := Lib.hid (HC24.out.put 2 (HDA24.out) rfl)
    clear y1 yf1
    go_wp2_with fail
    refine (sels_any b g n hnb q24.1 _ HP25.out.rd (Nat.le_trans HOK24x.out.len HN.out) (by rw [HDP24x.out]; omega)).mono ?_
    rintro r w26x ⟨ra26, rc26, rfl, hrd, h26, f26⟩
    obtain ⟨q26, hq26⟩ : ∃ x, x = Qr.sels (n + 1) (n + 1) q24.1 := ⟨_, rfl⟩
    rw [← hq26] at hrd h26 ⊢
    have HQ26 := Lib.hid hq26
    have hda := HP25.out.data hrd
    obtain ⟨ln26, hln⟩ : ∃ x, x = q26.2.length := ⟨_, rfl⟩
    rw [List.length_map, ← hln] at hda ⊢
    have HOK26x : Hid (Rd.Ok s q26.1) := by rw [HQ26.out]; exact Lib.hid (HOK24x.out.trans (Qr.ok_selsOf _ (Qr.ok_sel (n + 1) (n + 1)) _))
    have HDP26x : Hid (q26.1.deep = s.deep) := by rw [HQ26.out, show (Qr.sels (n + 1) (n + 1) _).1.deep = _ from Qr.selsOf_deep _ (Qr.sel_deep (n + 1) (n + 1)) _]; exact HDP24x
    have HC26 : Hid (FJ w b g t6 lo [(w.heap.size, Obj.cells #[.string ⟨#[]⟩, .string ⟨#[]⟩, .slice none 0 0, .slice none 0 0, .int .i64 0] 99 (0, 0))] 99 [.str nm1, .str nm22, .seq 3 (q24.2.map Qr.Dir.d), .seq 7 [], .int pa] [.string ⟨nm1.toArray⟩, .string ⟨nm22.toArray⟩, .slice ra24 ln24 rc24, .slice none 0 0, .int .i64 pa] q26.1 (w26x)) := Lib.hid (HP25.out.step h26 f26)
    have HDA26 := Lib.hid hda
    clear hrd h26 f26 hq26 hda hln
    have y3 := blk_cell HC26.out.b6 3 (.slice none 0 0) rfl
    have yf3 := blk_free HC26.out.b6 3
    have HP27 : Hid (FJ w b g t6 lo [(w.heap.size, Obj.cells #[.string ⟨#[]⟩, .string ⟨#[]⟩, .slice none 0 0, .slice none 0 0, .int .i64 0] 99 (0, 0))] 99 [.str nm1, .str nm22, .seq 3 (q24.2.map Qr.Dir.d), .seq 7 (q26.2.map Qr.Sel.d), .int pa] [.string ⟨nm1.toArray⟩, .string ⟨nm22.toArray⟩, .slice ra24 ln24 rc24, .slice ra26 ln26 rc26, .int .i64 pa] q26.1 ((w26x).setCell ⟨t6, 3, none⟩ (.slice ra26 ln26 rc26))) := Lib.hid (HC26.out.put 3 (HDA26.out) rfl)
    have HR : Hid (Qr.frag (n + 1) s = (q26.1, ⟨nm1, nm22, q24.2, q26.2, pa⟩)) := by
      refine Lib.hid ?_
      unfold Qr.frag
      dsimp only
      rw [← HST1.out, ← HNM1.out, if_pos HB.out.symm, ← HST21.out, ← HST22.out, ← HNM22.out, ← HQ24.out, ← HQ26.out, ← HPA.out]
    clear y2 yf2
    have y0 := blk_cell HC26.out.b6 0 (.string ⟨nm1.toArray⟩) rfl
    have yf0 := blk_free HC26.out.b6 0
    have y1 := blk_cell HC26.out.b6 1 (.string ⟨nm22.toArray⟩) rfl
    have yf1 := blk_free HC26.out.b6 1
    have y2 := blk_cell HC26.out.b6 2 (.slice ra24 ln24 rc24) rfl
    have yf2 := blk_free HC26.out.b6 2
    have y4 := blk_cell HC26.out.b6 4 (.int .i64 pa) rfl
    have yf4 := blk_free HC26.out.b6 4
    have z0 := blk_cell (HC26.out.cb _ (List.mem_singleton.2 rfl)) 0 (.string ⟨#[]⟩) rfl
    have zf0 := blk_free (HC26.out.cb _ (List.mem_singleton.2 rfl)) 0
    have z1 := blk_cell (HC26.out.cb _ (List.mem_singleton.2 rfl)) 1 (.string ⟨#[]⟩) rfl
    have zf1 := blk_free (HC26.out.cb _ (List.mem_singleton.2 rfl)) 1
    have z2 := blk_cell (HC26.out.cb _ (List.mem_singleton.2 rfl)) 2 (.slice none 0 0) rfl
    have zf2 := blk_free (HC26.out.cb _ (List.mem_singleton.2 rfl)) 2
    have z3 := blk_cell (HC26.out.cb _ (List.mem_singleton.2 rfl)) 3 (.slice none 0 0) rfl
    have zf3 := blk_free (HC26.out.cb _ (List.mem_singleton.2 rfl)) 3
    have z4 := blk_cell (HC26.out.cb _ (List.mem_singleton.2 rfl)) 4 (.int .i64 0) rfl
    have zf4 := blk_free (HC26.out.cb _ (List.mem_singleton.2 rfl)) 4
    have hfin := HP27.out.fin (r := w.heap.size) (List.mem_singleton.2 rfl)
    simp only [putCells, Nat.reduceAdd, Nat.zero_add] at hfin
    have HFN := Lib.hid hfin
    clear hfin
    go_wp2_with fail
    refine bodyPost_ret (v := .agg #[.string ⟨nm1.toArray⟩, .string ⟨nm22.toArray⟩, .slice ra24 ln24 rc24, .slice ra26 ln26 rc26, .int .i64 pa]) (by simp [results, Tryz.results83, go_sem, z0, z1, z2, z3, z4, n1, n2]) rfl ?_
    rw [HR.out]
    exact ⟨_, rfl, HFN.out⟩
end Go.Proofs.YtabcaljnpahgpaaGreatDoor
