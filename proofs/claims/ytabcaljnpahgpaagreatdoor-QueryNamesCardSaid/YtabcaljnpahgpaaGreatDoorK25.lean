/-
  The reader of documents: an operation behind its kind, walked. The reader of documents: an operation, walked. Two rows that grow, in one block, beside the reader.
-/
import Derived.Test.YtabcaljnpahgpaaGreatDoorK24
import Derived.Test.YtabcaljnpahgpaaGreatDoorK16b
import Derived.Test.YtabcaljnpahgpaaGreatDoorK14
namespace Go.Proofs.YtabcaljnpahgpaaGreatDoor
set_option linter.unusedSimpArgs false
set_option linter.unusedVariables false
open Go Go.RowKit

theorem enters_OC (cap : Array Value) (w : World) : Sem.run Tryz.prog (callFunc 117 cap) w = .ok (.enter 117 cap) w := by kernel_rfl
noncomputable def opTail : Code := (Tryz.f86.body.map (fun c => sndC (sndC (sndC (sndC c))))).getD .skip
theorem FJ.li {w0 w : World} {b g t6 k : Nat} {bx : List Box} {T6 E : TypeId} {mk : Value → Array Value} {ds : List D} {cs : List Value} {s : Rd.St} (h : FJ w0 b g t6 (t6 + 1) bx T6 ds cs s w) (hm : cs.toArray = mk (.slice none 0 0)) : LI w0 b g t6 bx T6 mk E k s [] w :=
  ⟨h.rd, h.cb, ⟨_, by rw [← hm]; exact h.b6, Grows.nil _ _ _ _ _⟩, h.fr, h.lb, h.lg, fun p hp => ⟨(h.lx p hp).1, (h.lx p hp).2.2⟩, h.l6.1⟩
set_option maxHeartbeats 4000000 in
set_option maxRecDepth 100000 in
theorem op_tail (b g n : Nat) (hnb : n ≤ 1600) (s : Rd.St) (w : World) (HN : Hid (s.rest.length ≤ n)) (d0 : 0 ≤ s.deep) (d1 : s.deep ≤ 700000) (kd pa t6 : Nat) (st0 : Rd.St) (w6 : World) (hl6 : w.heap.size + 2 ≤ t6)
    (HF0 : Hid (FJ w b g t6 (t6 + 1) [(w.heap.size, Obj.cells #[(.pointer (some ⟨b, 0, none⟩))] 141 (0, 0)), (w.heap.size + 1, Obj.cells #[.int .i64 0, .string ⟨#[]⟩, .slice none 0 0, .slice none 0 0, .slice none 0 0, .int .i64 0] 49 (0, 0))] 49 [.int kd, .str [], .seq 9 [], .seq 3 [], .seq 7 [], .int pa] [.int .i64 kd, .string ⟨#[]⟩, .slice none 0 0, .slice none 0 0, .slice none 0 0, .int .i64 pa] st0 w6)) (HOK0 : Hid (Rd.Ok s st0)) (HDP0 : Hid (st0.deep = s.deep)) (HOP : Hid (Qr.op (n + 1) s = Qr.opRest (n + 1) kd pa st0)) (c4 c5 c6 c7 c8 c9 c10 c11 c12 c13 c14 c15 c16 c17 c18 c19 c20 c21 c22 c23 c24 c25 c26 c27 : Value) :
    Code.wp Tryz.prog opTail (bodyPost Tryz.prog Tryz.f86 (Got b g w (Qr.op (n + 1) s).2.d (Qr.op (n + 1) s).1)) ⟨#[.pointer (some ⟨b, 0, none⟩), .pointer (some ⟨w.heap.size, 0, none⟩), .pointer (some ⟨w.heap.size + 1, 0, none⟩), .pointer (some ⟨t6, 0, none⟩), c4, c5, c6, c7, c8, c9, c10, c11, c12, c13, c14, c15, c16, c17, c18, c19, c20, c21, c22, c23, c24, c25, c26, c27, undef, undef, undef, undef, undef, undef, undef, undef, undef, undef, undef, undef, undef, undef, undef, undef, undef, undef, undef, undef, undef, undef, undef, undef, undef, undef, undef, undef, undef], []⟩ w6 := by
  obtain ⟨lo, hlo⟩ : ∃ x, x = t6 + 1 := ⟨_, rfl⟩
  have n1 : ¬ t6 = w.heap.size := by omega
  have n2 : ¬ w.heap.size = t6 := by omega
  have n3 : ¬ t6 = w.heap.size + 1 := by omega
  have n4 : ¬ w.heap.size + 1 = t6 := by omega
  have HLO := Lib.hid hlo
  rw [← hlo] at HF0
  clear hlo hl6
  conv => arg 2; whnf
  have k2 := blk_cell (HF0.out.cb (w.heap.size, Obj.cells #[(.pointer (some ⟨b, 0, none⟩))] 141 (0, 0)) List.mem_cons_self) 0 (.pointer (some ⟨b, 0, none⟩)) rfl
  go_wp2_with fail
  refine (rword0_any b g st0 w6 HF0.out.rd).mono ?_
  rintro r w7 ⟨rfl, hb7⟩
  clear k2
  have HF1 : Hid (FJ w b g t6 lo [(w.heap.size, Obj.cells #[(.pointer (some ⟨b, 0, none⟩))] 141 (0, 0)), (w.heap.size + 1, Obj.cells #[.int .i64 0, .string ⟨#[]⟩, .slice none 0 0, .slice none 0 0, .slice none 0 0, .int .i64 0] 49 (0, 0))] 49 [.int kd, .str [], .seq 9 [], .seq 3 [], .seq 7 [], .int pa] [.int .i64 kd, .string ⟨#[]⟩, .slice none 0 0, .slice none 0 0, .slice none 0 0, .int .i64 pa] st0 (w7)) := Lib.hid (HF0.out.below hb7)
  obtain ⟨B, hB⟩ : ∃ B, B = Rd.isN st0 := ⟨_, rfl⟩
  have HB := Lib.hid hB
  rw [← hB]
  clear hB hb7
  cases B
  · have k2 := blk_cell (HF1.out.cb (w.heap.size, Obj.cells #[(.pointer (some ⟨b, 0, none⟩))] 141 (0, 0)) List.mem_cons_self) 0 (.pointer (some ⟨b, 0, none⟩)) rfl
    have HNI : Hid (Qr.nameIf st0 = (st0, ([] : List UInt8))) := by unfold Qr.nameIf; rw [if_neg (by rw [isW_nil, ← HB.out]; simp)]; exact Lib.hid rfl
    go_wp2_with fail
    refine (rtake_any b g st0 Rd.lpar _ HF1.out.rd).mono ?_
    rintro r w20 ⟨rfl, h20, f20⟩
    clear k2
    have HF20 : Hid (FJ w b g t6 lo [(w.heap.size, Obj.cells #[(.pointer (some ⟨b, 0, none⟩))] 141 (0, 0)), (w.heap.size + 1, Obj.cells #[.int .i64 0, .string ⟨#[]⟩, .slice none 0 0, .slice none 0 0, .slice none 0 0, .int .i64 0] 49 (0, 0))] 49 [.int kd, .str [], .seq 9 [], .seq 3 [], .seq 7 [], .int pa] [.int .i64 kd, .string ⟨#[]⟩, .slice none 0 0, .slice none 0 0, .slice none 0 0, .int .i64 pa] (Rd.take Rd.lpar st0) (w20)) := Lib.hid (HF1.out.step h20 f20)
    obtain ⟨C, hC⟩ : ∃ B, B = Rd.isS st0 Rd.lpar := ⟨_, rfl⟩
    have HC := Lib.hid hC
    rw [← hC]
    clear hC h20 f20
    cases C
    · have HT : Hid (Rd.take Rd.lpar st0 = st0) := by unfold Rd.take; rw [if_neg (by rw [← HC.out]; simp)]; exact Lib.hid rfl
      have HF21 : Hid (FJ w b g t6 lo [(w.heap.size, Obj.cells #[(.pointer (some ⟨b, 0, none⟩))] 141 (0, 0)), (w.heap.size + 1, Obj.cells #[.int .i64 0, .string ⟨#[]⟩, .slice none 0 0, .slice none 0 0, .slice none 0 0, .int .i64 0] 49 (0, 0))] 49 [.int kd, .str [], .seq 9 [], .seq 3 [], .seq 7 [], .int pa] [.int .i64 kd, .string ⟨#[]⟩, .slice none 0 0, .slice none 0 0, .slice none 0 0, .int .i64 pa] st0 (w20)) := by rw [HT.out] at HF20; exact HF20
      have HV : Hid (Qr.vars (n + 1) st0 = (st0, [])) := by unfold Qr.vars; rw [if_neg (by rw [← HC.out]; simp)]; exact Lib.hid rfl
      have k2 := blk_cell (HF21.out.cb (w.heap.size, Obj.cells #[(.pointer (some ⟨b, 0, none⟩))] 141 (0, 0)) List.mem_cons_self) 0 (.pointer (some ⟨b, 0, none⟩)) rfl
      go_wp2_with fail
      refine (dirs_any b g n hnb st0 _ HF21.out.rd (Nat.le_trans HOK0.out.len HN.out) (by rw [HDP0.out]; omega)).mono ?_
      rintro r w31x ⟨ra31, rc31, rfl, hrd, h31, f31⟩
      clear k2
      obtain ⟨q31, hq31⟩ : ∃ x, x = Qr.dirs (n + 1) st0 := ⟨_, rfl⟩
      rw [← hq31] at hrd h31 ⊢
      have HQ31 := Lib.hid hq31
      have hda := HF21.out.data hrd
      obtain ⟨ln31, hln⟩ : ∃ x, x = q31.2.length := ⟨_, rfl⟩
      rw [List.length_map, ← hln] at hda ⊢
      have HOK31x : Hid (Rd.Ok s q31.1) := by rw [HQ31.out]; exact Lib.hid (HOK0.out.trans (Qr.ok_dirs (n + 1) _))
      have HDP31x : Hid (q31.1.deep = s.deep) := by rw [HQ31.out, Qr.dirs_deep]; exact HDP0
      have HC31 : Hid (FJ w b g t6 lo [(w.heap.size, Obj.cells #[(.pointer (some ⟨b, 0, none⟩))] 141 (0, 0)), (w.heap.size + 1, Obj.cells #[.int .i64 0, .string ⟨#[]⟩, .slice none 0 0, .slice none 0 0, .slice none 0 0, .int .i64 0] 49 (0, 0))] 49 [.int kd, .str [], .seq 9 [], .seq 3 [], .seq 7 [], .int pa] [.int .i64 kd, .string ⟨#[]⟩, .slice none 0 0, .slice none 0 0, .slice none 0 0, .int .i64 pa] q31.1 (w31x)) := Lib.hid (HF21.out.step h31 f31)
      have HDA31 := Lib.hid hda
      clear hrd h31 f31 hq31 hda hln
      have y3 := blk_cell HC31.out.b6 3 (.slice none 0 0) rfl
      have yf3 := blk_free HC31.out.b6 3
      have HP32 : Hid (FJ w b g t6 lo [(w.heap.size, Obj.cells #[(.pointer (some ⟨b, 0, none⟩))] 141 (0, 0)), (w.heap.size + 1, Obj.cells #[.int .i64 0, .string ⟨#[]⟩, .slice none 0 0, .slice none 0 0, .slice none 0 0, .int .i64 0] 49 (0, 0))] 49 [.int kd, .str [], .seq 9 [], .seq 3 (q31.2.map Qr.Dir.d), .seq 7 [], .int pa] [.int .i64 kd, .string ⟨#[]⟩, .slice none 0 0, .slice ra31 ln31 rc31, .slice none 0 0, .int .i64 pa] q31.1 ((w31x).setCell ⟨t6, 3, none⟩ (.slice ra31 ln31 rc31))) := Lib.hid (HC31.out.put 3 (HDA31.out) rfl)
      have k2 := blk_cell (HC31.out.cb (w.heap.size, Obj.cells #[(.pointer (some ⟨b, 0, none⟩))] 141 (0, 0)) List.mem_cons_self) 0 (.pointer (some ⟨b, 0, none⟩)) rfl
      go_wp2_with fail
      refine (sels_any b g n hnb q31.1 _ HP32.out.rd (Nat.le_trans HOK31x.out.len HN.out) (by rw [HDP31x.out]; omega)).mono ?_
      rintro r w33x ⟨ra33, rc33, rfl, hrd, h33, f33⟩
      clear k2
      obtain ⟨q33, hq33⟩ : ∃ x, x = Qr.sels (n + 1) (n + 1) q31.1 := ⟨_, rfl⟩
      rw [← hq33] at hrd h33 ⊢
      have HQ33 := Lib.hid hq33
      have hda := HP32.out.data hrd
      obtain ⟨ln33, hln⟩ : ∃ x, x = q33.2.length := ⟨_, rfl⟩
      rw [List.length_map, ← hln] at hda ⊢
      have HOK33x : Hid (Rd.Ok s q33.1) := by rw [HQ33.out]; exact Lib.hid (HOK31x.out.trans (Qr.ok_selsOf _ (Qr.ok_sel (n + 1) (n + 1)) _))
      have HDP33x : Hid (q33.1.deep = s.deep) := by rw [HQ33.out, show (Qr.sels (n + 1) (n + 1) _).1.deep = _ from Qr.selsOf_deep _ (Qr.sel_deep (n + 1) (n + 1)) _]; exact HDP31x
      have HC33 : Hid (FJ w b g t6 lo [(w.heap.size, Obj.cells #[(.pointer (some ⟨b, 0, none⟩))] 141 (0, 0)), (w.heap.size + 1, Obj.cells #[.int .i64 0, .string ⟨#[]⟩, .slice none 0 0, .slice none 0 0, .slice none 0 0, .int .i64 0] 49 (0, 0))] 49 [.int kd, .str [], .seq 9 [], .seq 3 (q31.2.map Qr.Dir.d), .seq 7 [], .int pa] [.int .i64 kd, .string ⟨#[]⟩, .slice none 0 0, .slice ra31 ln31 rc31, .slice none 0 0, .int .i64 pa] q33.1 (w33x)) := Lib.hid (HP32.out.step h33 f33)
      have HDA33 := Lib.hid hda
      clear hrd h33 f33 hq33 hda hln
      have y4 := blk_cell HC33.out.b6 4 (.slice none 0 0) rfl
      have yf4 := blk_free HC33.out.b6 4
      have HP34 : Hid (FJ w b g t6 lo [(w.heap.size, Obj.cells #[(.pointer (some ⟨b, 0, none⟩))] 141 (0, 0)), (w.heap.size + 1, Obj.cells #[.int .i64 0, .string ⟨#[]⟩, .slice none 0 0, .slice none 0 0, .slice none 0 0, .int .i64 0] 49 (0, 0))] 49 [.int kd, .str [], .seq 9 [], .seq 3 (q31.2.map Qr.Dir.d), .seq 7 (q33.2.map Qr.Sel.d), .int pa] [.int .i64 kd, .string ⟨#[]⟩, .slice none 0 0, .slice ra31 ln31 rc31, .slice ra33 ln33 rc33, .int .i64 pa] q33.1 ((w33x).setCell ⟨t6, 4, none⟩ (.slice ra33 ln33 rc33))) := Lib.hid (HC33.out.put 4 (HDA33.out) rfl)
      have HR : Hid (Qr.op (n + 1) s = (q33.1, ⟨kd, ([] : List UInt8), [], q31.2, q33.2, pa⟩)) := by
        refine Lib.hid ?_
        rw [HOP.out]
        unfold Qr.opRest
        dsimp only
        rw [HNI.out, HV.out, ← HQ31.out, ← HQ33.out]
      clear y3 yf3
      have y0 := blk_cell HC33.out.b6 0 (.int .i64 kd) rfl
      have yf0 := blk_free HC33.out.b6 0
      have y1 := blk_cell HC33.out.b6 1 (.string ⟨#[]⟩) rfl
      have yf1 := blk_free HC33.out.b6 1
      have y2 := blk_cell HC33.out.b6 2 (.slice none 0 0) rfl
      have yf2 := blk_free HC33.out.b6 2
      have y3 := blk_cell HC33.out.b6 3 (.slice ra31 ln31 rc31) rfl
      have yf3 := blk_free HC33.out.b6 3
      have y5 := blk_cell HC33.out.b6 5 (.int .i64 pa) rfl
      have yf5 := blk_free HC33.out.b6 5
      have z0 := blk_cell (HC33.out.cb (w.heap.size + 1, Obj.cells #[.int .i64 0, .string ⟨#[]⟩, .slice none 0 0, .slice none 0 0, .slice none 0 0, .int .i64 0] 49 (0, 0)) (List.mem_cons_of_mem _ List.mem_cons_self)) 0 (.int .i64 0) rfl
      have zf0 := blk_free (HC33.out.cb (w.heap.size + 1, Obj.cells #[.int .i64 0, .string ⟨#[]⟩, .slice none 0 0, .slice none 0 0, .slice none 0 0, .int .i64 0] 49 (0, 0)) (List.mem_cons_of_mem _ List.mem_cons_self)) 0
      have z1 := blk_cell (HC33.out.cb (w.heap.size + 1, Obj.cells #[.int .i64 0, .string ⟨#[]⟩, .slice none 0 0, .slice none 0 0, .slice none 0 0, .int .i64 0] 49 (0, 0)) (List.mem_cons_of_mem _ List.mem_cons_self)) 1 (.string ⟨#[]⟩) rfl
      have zf1 := blk_free (HC33.out.cb (w.heap.size + 1, Obj.cells #[.int .i64 0, .string ⟨#[]⟩, .slice none 0 0, .slice none 0 0, .slice none 0 0, .int .i64 0] 49 (0, 0)) (List.mem_cons_of_mem _ List.mem_cons_self)) 1
      have z2 := blk_cell (HC33.out.cb (w.heap.size + 1, Obj.cells #[.int .i64 0, .string ⟨#[]⟩, .slice none 0 0, .slice none 0 0, .slice none 0 0, .int .i64 0] 49 (0, 0)) (List.mem_cons_of_mem _ List.mem_cons_self)) 2 (.slice none 0 0) rfl
      have zf2 := blk_free (HC33.out.cb (w.heap.size + 1, Obj.cells #[.int .i64 0, .string ⟨#[]⟩, .slice none 0 0, .slice none 0 0, .slice none 0 0, .int .i64 0] 49 (0, 0)) (List.mem_cons_of_mem _ List.mem_cons_self)) 2
      have z3 := blk_cell (HC33.out.cb (w.heap.size + 1, Obj.cells #[.int .i64 0, .string ⟨#[]⟩, .slice none 0 0, .slice none 0 0, .slice none 0 0, .int .i64 0] 49 (0, 0)) (List.mem_cons_of_mem _ List.mem_cons_self)) 3 (.slice none 0 0) rfl
      have zf3 := blk_free (HC33.out.cb (w.heap.size + 1, Obj.cells #[.int .i64 0, .string ⟨#[]⟩, .slice none 0 0, .slice none 0 0, .slice none 0 0, .int .i64 0] 49 (0, 0)) (List.mem_cons_of_mem _ List.mem_cons_self)) 3
      have z4 := blk_cell (HC33.out.cb (w.heap.size + 1, Obj.cells #[.int .i64 0, .string ⟨#[]⟩, .slice none 0 0, .slice none 0 0, .slice none 0 0, .int .i64 0] 49 (0, 0)) (List.mem_cons_of_mem _ List.mem_cons_self)) 4 (.slice none 0 0) rfl
      have zf4 := blk_free (HC33.out.cb (w.heap.size + 1, Obj.cells #[.int .i64 0, .string ⟨#[]⟩, .slice none 0 0, .slice none 0 0, .slice none 0 0, .int .i64 0] 49 (0, 0)) (List.mem_cons_of_mem _ List.mem_cons_self)) 4
      have z5 := blk_cell (HC33.out.cb (w.heap.size + 1, Obj.cells #[.int .i64 0, .string ⟨#[]⟩, .slice none 0 0, .slice none 0 0, .slice none 0 0, .int .i64 0] 49 (0, 0)) (List.mem_cons_of_mem _ List.mem_cons_self)) 5 (.int .i64 0) rfl
      have zf5 := blk_free (HC33.out.cb (w.heap.size + 1, Obj.cells #[.int .i64 0, .string ⟨#[]⟩, .slice none 0 0, .slice none 0 0, .slice none 0 0, .int .i64 0] 49 (0, 0)) (List.mem_cons_of_mem _ List.mem_cons_self)) 5
      have hfin := HP34.out.fin (r := w.heap.size + 1) (List.mem_cons_of_mem _ List.mem_cons_self)
      simp only [putCells, Nat.reduceAdd, Nat.zero_add] at hfin
      have HFN := Lib.hid hfin
      clear hfin
      go_wp2_with fail
      refine bodyPost_ret (v := .agg #[.int .i64 kd, .string ⟨#[]⟩, .slice none 0 0, .slice ra31 ln31 rc31, .slice ra33 ln33 rc33, .int .i64 pa]) (by simp [results, Tryz.results86, go_sem, z0, z1, z2, z3, z4, z5, n3, n4]) rfl ?_
      rw [HR.out]
      exact ⟨_, rfl, HFN.out⟩
    · have HT : Hid (Rd.take Rd.lpar st0 = Rd.next st0) := by unfold Rd.take; rw [if_pos HC.out.symm]; exact Lib.hid rfl
      have HLI : Hid (LI w b g t6 [(w.heap.size, Obj.cells #[(.pointer (some ⟨b, 0, none⟩))] 141 (0, 0)), (w.heap.size + 1, Obj.cells #[.int .i64 0, .string ⟨#[]⟩, .slice none 0 0, .slice none 0 0, .slice none 0 0, .int .i64 0] 49 (0, 0))] 49 (mkOpV kd ⟨([] : List UInt8).toArray⟩ pa) 97 9 (Rd.next st0) [] w20) := by
        rw [HT.out, HLO.out] at HF20
        exact Lib.hid (HF20.out.li rfl)
      have HNX := Lib.hid (Rd.next_sign HC.out.symm)
      have HND : Hid ((Rd.next st0).deep = s.deep) := by rw [Rd.next_deep, HDP0.out]; exact Lib.hid rfl
      have HCL : Hid (∀ (s1 : Rd.St) (out : List Qr.Vd) (w1 : World), LI w b g t6 [(w.heap.size, Obj.cells #[(.pointer (some ⟨b, 0, none⟩))] 141 (0, 0)), (w.heap.size + 1, Obj.cells #[.int .i64 0, .string ⟨#[]⟩, .slice none 0 0, .slice none 0 0, .slice none 0 0, .int .i64 0] 49 (0, 0))] 49 (mkOpV kd ⟨([] : List UInt8).toArray⟩ pa) 97 9 s1 (out.map Qr.Vd.d) w1 → s1.rest.length ≤ n → s1.deep = s.deep → out.length ≤ 1000000 →
          Calls Tryz.prog 117 #[.pointer (some ⟨t6, 0, none⟩), .pointer (some ⟨w.heap.size, 0, none⟩)] w1 fun r w' => r = .returned (.tuple #[]) ∧ LI w b g t6 [(w.heap.size, Obj.cells #[(.pointer (some ⟨b, 0, none⟩))] 141 (0, 0)), (w.heap.size + 1, Obj.cells #[.int .i64 0, .string ⟨#[]⟩, .slice none 0 0, .slice none 0 0, .slice none 0 0, .int .i64 0] 49 (0, 0))] 49 (mkOpV kd ⟨([] : List UInt8).toArray⟩ pa) 97 9 (Qr.variable_ (n + 1) s1).1 ((out ++ [(Qr.variable_ (n + 1) s1).2]).map Qr.Vd.d) w') :=
        Lib.hid fun s1 out w1 hl hr hdp ho => by
          rw [List.map_append]
          exact opC_any w b g t6 [(w.heap.size, Obj.cells #[(.pointer (some ⟨b, 0, none⟩))] 141 (0, 0)), (w.heap.size + 1, Obj.cells #[.int .i64 0, .string ⟨#[]⟩, .slice none 0 0, .slice none 0 0, .slice none 0 0, .int .i64 0] 49 (0, 0))] w.heap.size kd ⟨([] : List UInt8).toArray⟩ pa (n + 1) List.mem_cons_self s1 (out.map Qr.Vd.d) w1 (fun w2 hr2 => variable_any b g n hnb s1 w2 hr2 (.inr hr) (by rw [hdp]; omega)) hl (by rw [List.length_map]; exact ho)
      have HVD := Lib.hid (Qr.variable_deep (n + 1))
      have HVO := Lib.hid (Qr.ok_variable (n + 1))
      have HVG := Lib.hid (Qr.variable_goes (n + 1))
      have hnx : (Rd.next st0).rest.length + 1 ≤ n := by have h1 := HNX.out.1; have h2 := HOK0.out.len; have h3 := HN.out; omega
      have k2 := blk_cell (HLI.out.cb (w.heap.size, Obj.cells #[(.pointer (some ⟨b, 0, none⟩))] 141 (0, 0)) List.mem_cons_self) 0 (.pointer (some ⟨b, 0, none⟩)) rfl
      go_wp2_with fail
      refine (some1_any Rd.rpar (Qr.variable_ (n + 1)) (FLI w b g t6 [(w.heap.size, Obj.cells #[(.pointer (some ⟨b, 0, none⟩))] 141 (0, 0)), (w.heap.size + 1, Obj.cells #[.int .i64 0, .string ⟨#[]⟩, .slice none 0 0, .slice none 0 0, .slice none 0 0, .int .i64 0] 49 (0, 0))] 49 (mkOpV kd ⟨([] : List UInt8).toArray⟩ pa) 97 9 Qr.Vd.d n s.deep) b g _ _ (enters_OC _) (fun s out w' h => h.1.rd) (fun s out w1 w2 h hb => ⟨h.1.below hb, h.2⟩) (fun s1 out w2 h he => ?_) (fun s1 out w2 h he _ => HVG.out s1 he) (n + 1) (Rd.next st0) w20 ?_ ?_).mono ?_
      · refine (HCL.out s1 out w2 h.1 h.2.2.1 h.2.1 (by have := h.2.2.2.2; omega)).mono ?_
        rintro r w3 ⟨hre, hli⟩
        refine ⟨hre, hli, by rw [HVD.out]; exact h.2.1, Nat.le_trans (HVO.out s1).len h.2.2.1, fun he2 => ?_, by have := h.2.2.2.1 he; rw [List.length_append]; simp; omega⟩
        rcases HVG.out s1 he with hx | hx
        · exact absurd he2 hx
        · have := h.2.2.2.1 he
          rw [List.length_append]
          simp
          omega
      · refine (HCL.out (Rd.next st0) [] w20 HLI.out (by omega) HND.out (by simp)).mono ?_
        rintro r w3 ⟨hre, hli⟩
        have hlen := (HVO.out (Rd.next st0)).len
        exact ⟨hre, hli, by rw [HVD.out]; exact HND.out, by omega, fun _ => by simp; omega, by simp⟩
      · rcases HVG.out (Rd.next st0) HNX.out.2 with hx | hx
        · exact .inl hx
        · exact .inr (by omega)
      rintro r w21 ⟨rfl, hL⟩
      obtain ⟨L, hLL⟩ : ∃ x, x = Rd.loop1 Rd.rpar (Qr.variable_ (n + 1)) (n + 1) (Rd.next st0) := ⟨_, rfl⟩
      rw [← hLL] at hL
      have HLL := Lib.hid hLL
      have HL := Lib.hid hL.1
      clear k2 hL hLL
      have k2 := blk_cell (HL.out.cb (w.heap.size, Obj.cells #[(.pointer (some ⟨b, 0, none⟩))] 141 (0, 0)) List.mem_cons_self) 0 (.pointer (some ⟨b, 0, none⟩)) rfl
      go_wp2_with fail
      refine (rwant_any b g L.1 Rd.rpar w21 HL.out.rd).mono ?_
      rintro r w22 ⟨rfl, h22, f22⟩
      clear k2
      have hl7 := HL.out.step h22 f22
      obtain ⟨st22, hs22⟩ : ∃ x, x = Rd.want Rd.rpar L.1 := ⟨_, rfl⟩
      rw [← hs22] at hl7
      have HV : Hid (Qr.vars (n + 1) st0 = (st22, L.2)) := by unfold Qr.vars; rw [if_pos HC.out.symm, ← HLL.out, ← hs22]; exact Lib.hid rfl
      obtain ⟨v, hv6, hg6⟩ := hl7.ex
      obtain ⟨va, vc, rfl⟩ := hg6.form
      have hrv := hg6.reads.to (Q := fun x => lo ≤ x) (Stands.sub w22 (fun x _ hp => by
        rw [HLO.out]
        rcases hp with hp | hp
        · exact hp.1
        · exact Nat.le_trans (LB_t6 _ _) (hg6.lt x hp).1))
      obtain ⟨vl, hvl⟩ : ∃ x, x = (L.2.map Qr.Vd.d).length := ⟨_, rfl⟩
      rw [← hvl] at hrv hv6
      have HOK22 : Hid (Rd.Ok s st22) := by have h1 := HOK0.out.trans (Qr.ok_vars (n + 1) st0); rw [HV.out] at h1; exact Lib.hid h1
      have HDP22 : Hid (st22.deep = s.deep) := by have h1 := Qr.vars_deep (n + 1) st0; rw [HV.out] at h1; exact Lib.hid (h1.trans HDP0.out)
      have HF22 : Hid (FJ w b g t6 lo [(w.heap.size, Obj.cells #[(.pointer (some ⟨b, 0, none⟩))] 141 (0, 0)), (w.heap.size + 1, Obj.cells #[.int .i64 0, .string ⟨#[]⟩, .slice none 0 0, .slice none 0 0, .slice none 0 0, .int .i64 0] 49 (0, 0))] 49 [.int kd, .str [], .seq 9 (L.2.map Qr.Vd.d), .seq 3 [], .seq 7 [], .int pa] [.int .i64 kd, .string ⟨#[]⟩, .slice va vl vc, .slice none 0 0, .slice none 0 0, .int .i64 pa] st22 (w22)) := Lib.hid ⟨hl7.rd, hl7.cb, hv6, hl7.fr, hl7.lb, hl7.lg, fun p hp => ⟨(hl7.lx0 p hp).1, (HF20.out.lx p hp).2.1, (hl7.lx0 p hp).2⟩, HF20.out.l6, by have := block_lt hv6; rw [HLO.out]; omega, .cons (.int _) (.cons (.str _) (.cons hrv (.cons (.seq (cap := 0) .nil) (.cons (.seq (cap := 0) .nil) (.cons (.int _) .nil)))))⟩
      clear hv6 hg6 hrv hvl hl7 h22 f22 hs22
      have k2 := blk_cell (HF22.out.cb (w.heap.size, Obj.cells #[(.pointer (some ⟨b, 0, none⟩))] 141 (0, 0)) List.mem_cons_self) 0 (.pointer (some ⟨b, 0, none⟩)) rfl
      go_wp2_with fail
      refine (dirs_any b g n hnb st22 _ HF22.out.rd (Nat.le_trans HOK22.out.len HN.out) (by rw [HDP22.out]; omega)).mono ?_
      rintro r w31x ⟨ra31, rc31, rfl, hrd, h31, f31⟩
      clear k2
      obtain ⟨q31, hq31⟩ : ∃ x, x = Qr.dirs (n + 1) st22 := ⟨_, rfl⟩
      rw [← hq31] at hrd h31 ⊢
      have HQ31 := Lib.hid hq31
      have hda := HF22.out.data hrd
      obtain ⟨ln31, hln⟩ : ∃ x, x = q31.2.length := ⟨_, rfl⟩
      rw [List.length_map, ← hln] at hda ⊢
      have HOK31x : Hid (Rd.Ok s q31.1) := by rw [HQ31.out]; exact Lib.hid (HOK22.out.trans (Qr.ok_dirs (n + 1) _))
      have HDP31x : Hid (q31.1.deep = s.deep) := by rw [HQ31.out, Qr.dirs_deep]; exact HDP22
      have HC31 : Hid (FJ w b g t6 lo [(w.heap.size, Obj.cells #[(.pointer (some ⟨b, 0, none⟩))] 141 (0, 0)), (w.heap.size + 1, Obj.cells #[.int .i64 0, .string ⟨#[]⟩, .slice none 0 0, .slice none 0 0, .slice none 0 0, .int .i64 0] 49 (0, 0))] 49 [.int kd, .str [], .seq 9 (L.2.map Qr.Vd.d), .seq 3 [], .seq 7 [], .int pa] [.int .i64 kd, .string ⟨#[]⟩, .slice va vl vc, .slice none 0 0, .slice none 0 0, .int .i64 pa] q31.1 (w31x)) := Lib.hid (HF22.out.step h31 f31)
      have HDA31 := Lib.hid hda
      clear hrd h31 f31 hq31 hda hln
      have y3 := blk_cell HC31.out.b6 3 (.slice none 0 0) rfl
      have yf3 := blk_free HC31.out.b6 3
      have HP32 : Hid (FJ w b g t6 lo [(w.heap.size, Obj.cells #[(.pointer (some ⟨b, 0, none⟩))] 141 (0, 0)), (w.heap.size + 1, Obj.cells #[.int .i64 0, .string ⟨#[]⟩, .slice none 0 0, .slice none 0 0, .slice none 0 0, .int .i64 0] 49 (0, 0))] 49 [.int kd, .str [], .seq 9 (L.2.map Qr.Vd.d), .seq 3 (q31.2.map Qr.Dir.d), .seq 7 [], .int pa] [.int .i64 kd, .string ⟨#[]⟩, .slice va vl vc, .slice ra31 ln31 rc31, .slice none 0 0, .int .i64 pa] q31.1 ((w31x).setCell ⟨t6, 3, none⟩ (.slice ra31 ln31 rc31))) := Lib.hid (HC31.out.put 3 (HDA31.out) rfl)
      have k2 := blk_cell (HC31.out.cb (w.heap.size, Obj.cells #[(.pointer (some ⟨b, 0, none⟩))] 141 (0, 0)) List.mem_cons_self) 0 (.pointer (some ⟨b, 0, none⟩)) rfl
      go_wp2_with fail
      refine (sels_any b g n hnb q31.1 _ HP32.out.rd (Nat.le_trans HOK31x.out.len HN.out) (by rw [HDP31x.out]; omega)).mono ?_
      rintro r w33x ⟨ra33, rc33, rfl, hrd, h33, f33⟩
      clear k2
      obtain ⟨q33, hq33⟩ : ∃ x, x = Qr.sels (n + 1) (n + 1) q31.1 := ⟨_, rfl⟩
      rw [← hq33] at hrd h33 ⊢
      have HQ33 := Lib.hid hq33
      have hda := HP32.out.data hrd
      obtain ⟨ln33, hln⟩ : ∃ x, x = q33.2.length := ⟨_, rfl⟩
      rw [List.length_map, ← hln] at hda ⊢
      have HOK33x : Hid (Rd.Ok s q33.1) := by rw [HQ33.out]; exact Lib.hid (HOK31x.out.trans (Qr.ok_selsOf _ (Qr.ok_sel (n + 1) (n + 1)) _))
      have HDP33x : Hid (q33.1.deep = s.deep) := by rw [HQ33.out, show (Qr.sels (n + 1) (n + 1) _).1.deep = _ from Qr.selsOf_deep _ (Qr.sel_deep (n + 1) (n + 1)) _]; exact HDP31x
      have HC33 : Hid (FJ w b g t6 lo [(w.heap.size, Obj.cells #[(.pointer (some ⟨b, 0, none⟩))] 141 (0, 0)), (w.heap.size + 1, Obj.cells #[.int .i64 0, .string ⟨#[]⟩, .slice none 0 0, .slice none 0 0, .slice none 0 0, .int .i64 0] 49 (0, 0))] 49 [.int kd, .str [], .seq 9 (L.2.map Qr.Vd.d), .seq 3 (q31.2.map Qr.Dir.d), .seq 7 [], .int pa] [.int .i64 kd, .string ⟨#[]⟩, .slice va vl vc, .slice ra31 ln31 rc31, .slice none 0 0, .int .i64 pa] q33.1 (w33x)) := Lib.hid (HP32.out.step h33 f33)
      have HDA33 := Lib.hid hda
      clear hrd h33 f33 hq33 hda hln
      have y4 := blk_cell HC33.out.b6 4 (.slice none 0 0) rfl
      have yf4 := blk_free HC33.out.b6 4
      have HP34 : Hid (FJ w b g t6 lo [(w.heap.size, Obj.cells #[(.pointer (some ⟨b, 0, none⟩))] 141 (0, 0)), (w.heap.size + 1, Obj.cells #[.int .i64 0, .string ⟨#[]⟩, .slice none 0 0, .slice none 0 0, .slice none 0 0, .int .i64 0] 49 (0, 0))] 49 [.int kd, .str [], .seq 9 (L.2.map Qr.Vd.d), .seq 3 (q31.2.map Qr.Dir.d), .seq 7 (q33.2.map Qr.Sel.d), .int pa] [.int .i64 kd, .string ⟨#[]⟩, .slice va vl vc, .slice ra31 ln31 rc31, .slice ra33 ln33 rc33, .int .i64 pa] q33.1 ((w33x).setCell ⟨t6, 4, none⟩ (.slice ra33 ln33 rc33))) := Lib.hid (HC33.out.put 4 (HDA33.out) rfl)
      have HR : Hid (Qr.op (n + 1) s = (q33.1, ⟨kd, ([] : List UInt8), L.2, q31.2, q33.2, pa⟩)) := by
        refine Lib.hid ?_
        rw [HOP.out]
        unfold Qr.opRest
        dsimp only
        rw [HNI.out, HV.out, ← HQ31.out, ← HQ33.out]
      clear y3 yf3
      have y0 := blk_cell HC33.out.b6 0 (.int .i64 kd) rfl
      have yf0 := blk_free HC33.out.b6 0
      have y1 := blk_cell HC33.out.b6 1 (.string ⟨#[]⟩) rfl
      have yf1 := blk_free HC33.out.b6 1
      have y2 := blk_cell HC33.out.b6 2 (.slice va vl vc) rfl
      have yf2 := blk_free HC33.out.b6 2
      have y3 := blk_cell HC33.out.b6 3 (.slice ra31 ln31 rc31) rfl
      have yf3 := blk_free HC33.out.b6 3
      have y5 := blk_cell HC33.out.b6 5 (.int .i64 pa) rfl
      have yf5 := blk_free HC33.out.b6 5
      have z0 := blk_cell (HC33.out.cb (w.heap.size + 1, Obj.cells #[.int .i64 0, .string ⟨#[]⟩, .slice none 0 0, .slice none 0 0, .slice none 0 0, .int .i64 0] 49 (0, 0)) (List.mem_cons_of_mem _ List.mem_cons_self)) 0 (.int .i64 0) rfl
      have zf0 := blk_free (HC33.out.cb (w.heap.size + 1, Obj.cells #[.int .i64 0, .string ⟨#[]⟩, .slice none 0 0, .slice none 0 0, .slice none 0 0, .int .i64 0] 49 (0, 0)) (List.mem_cons_of_mem _ List.mem_cons_self)) 0
      have z1 := blk_cell (HC33.out.cb (w.heap.size + 1, Obj.cells #[.int .i64 0, .string ⟨#[]⟩, .slice none 0 0, .slice none 0 0, .slice none 0 0, .int .i64 0] 49 (0, 0)) (List.mem_cons_of_mem _ List.mem_cons_self)) 1 (.string ⟨#[]⟩) rfl
      have zf1 := blk_free (HC33.out.cb (w.heap.size + 1, Obj.cells #[.int .i64 0, .string ⟨#[]⟩, .slice none 0 0, .slice none 0 0, .slice none 0 0, .int .i64 0] 49 (0, 0)) (List.mem_cons_of_mem _ List.mem_cons_self)) 1
      have z2 := blk_cell (HC33.out.cb (w.heap.size + 1, Obj.cells #[.int .i64 0, .string ⟨#[]⟩, .slice none 0 0, .slice none 0 0, .slice none 0 0, .int .i64 0] 49 (0, 0)) (List.mem_cons_of_mem _ List.mem_cons_self)) 2 (.slice none 0 0) rfl
      have zf2 := blk_free (HC33.out.cb (w.heap.size + 1, Obj.cells #[.int .i64 0, .string ⟨#[]⟩, .slice none 0 0, .slice none 0 0, .slice none 0 0, .int .i64 0] 49 (0, 0)) (List.mem_cons_of_mem _ List.mem_cons_self)) 2
      have z3 := blk_cell (HC33.out.cb (w.heap.size + 1, Obj.cells #[.int .i64 0, .string ⟨#[]⟩, .slice none 0 0, .slice none 0 0, .slice none 0 0, .int .i64 0] 49 (0, 0)) (List.mem_cons_of_mem _ List.mem_cons_self)) 3 (.slice none 0 0) rfl
      have zf3 := blk_free (HC33.out.cb (w.heap.size + 1, Obj.cells #[.int .i64 0, .string ⟨#[]⟩, .slice none 0 0, .slice none 0 0, .slice none 0 0, .int .i64 0] 49 (0, 0)) (List.mem_cons_of_mem _ List.mem_cons_self)) 3
      have z4 := blk_cell (HC33.out.cb (w.heap.size + 1, Obj.cells #[.int .i64 0, .string ⟨#[]⟩, .slice none 0 0, .slice none 0 0, .slice none 0 0, .int .i64 0] 49 (0, 0)) (List.mem_cons_of_mem _ List.mem_cons_self)) 4 (.slice none 0 0) rfl
      have zf4 := blk_free (HC33.out.cb (w.heap.size + 1, Obj.cells #[.int .i64 0, .string ⟨#[]⟩, .slice none 0 0, .slice none 0 0, .slice none 0 0, .int .i64 0] 49 (0, 0)) (List.mem_cons_of_mem _ List.mem_cons_self)) 4
      have z5 := blk_cell (HC33.out.cb (w.heap.size + 1, Obj.cells #[.int .i64 0, .string ⟨#[]⟩, .slice none 0 0, .slice none 0 0, .slice none 0 0, .int .i64 0] 49 (0, 0)) (List.mem_cons_of_mem _ List.mem_cons_self)) 5 (.int .i64 0) rfl
      have zf5 := blk_free (HC33.out.cb (w.heap.size + 1, Obj.cells #[.int .i64 0, .string ⟨#[]⟩, .slice none 0 0, .slice none 0 0, .slice none 0 0, .int .i64 0] 49 (0, 0)) (List.mem_cons_of_mem _ List.mem_cons_self)) 5
      have hfin := HP34.out.fin (r := w.heap.size + 1) (List.mem_cons_of_mem _ List.mem_cons_self)
      simp only [putCells, Nat.reduceAdd, Nat.zero_add] at hfin
      have HFN := Lib.hid hfin
      clear hfin
      go_wp2_with fail
      refine bodyPost_ret (v := .agg #[.int .i64 kd, .string ⟨#[]⟩, .slice va vl vc, .slice ra31 ln31 rc31, .slice ra33 ln33 rc33, .int .i64 pa]) (by simp [results, Tryz.results86, go_sem, z0, z1, z2, z3, z4, z5, n3, n4]) rfl ?_
      rw [HR.out]
      exact ⟨_, rfl, HFN.out⟩
  · have k2 := blk_cell (HF1.out.cb (w.heap.size, Obj.cells #[(.pointer (some ⟨b, 0, none⟩))] 141 (0, 0)) List.mem_cons_self) 0 (.pointer (some ⟨b, 0, none⟩)) rfl
    go_wp2_with fail
    refine (rname_any b g st0 _ HF1.out.rd).mono ?_
    rintro r w11x ⟨rfl, h11, f11⟩
    clear k2
    obtain ⟨st11, hs11⟩ : ∃ x, x = (Rd.name st0).1 := ⟨_, rfl⟩
    rw [← hs11] at h11
    have HST11 := Lib.hid hs11
    have HOK11x : Hid (Rd.Ok s st11) := by rw [HST11.out]; exact Lib.hid (HOK0.out.trans (Rd.ok_name _))
    have HDP11x : Hid (st11.deep = s.deep) := by rw [HST11.out, Rd.name_deep]; exact HDP0
    obtain ⟨nm11, hnm11⟩ : ∃ x, x = (Rd.name st0).2 := ⟨_, rfl⟩
    rw [← hnm11]
    have HNM11 := Lib.hid hnm11
    clear hnm11
    have HC11 : Hid (FJ w b g t6 lo [(w.heap.size, Obj.cells #[(.pointer (some ⟨b, 0, none⟩))] 141 (0, 0)), (w.heap.size + 1, Obj.cells #[.int .i64 0, .string ⟨#[]⟩, .slice none 0 0, .slice none 0 0, .slice none 0 0, .int .i64 0] 49 (0, 0))] 49 [.int kd, .str [], .seq 9 [], .seq 3 [], .seq 7 [], .int pa] [.int .i64 kd, .string ⟨#[]⟩, .slice none 0 0, .slice none 0 0, .slice none 0 0, .int .i64 pa] st11 (w11x)) := Lib.hid (HF1.out.step h11 f11)
    clear h11 f11 hs11
    have y1 := blk_cell HC11.out.b6 1 (.string ⟨#[]⟩) rfl
    have yf1 := blk_free HC11.out.b6 1
    have HP12 : Hid (FJ w b g t6 lo [(w.heap.size, Obj.cells #[(.pointer (some ⟨b, 0, none⟩))] 141 (0, 0)), (w.heap.size + 1, Obj.cells #[.int .i64 0, .string ⟨#[]⟩, .slice none 0 0, .slice none 0 0, .slice none 0 0, .int .i64 0] 49 (0, 0))] 49 [.int kd, .str nm11, .seq 9 [], .seq 3 [], .seq 7 [], .int pa] [.int .i64 kd, .string ⟨nm11.toArray⟩, .slice none 0 0, .slice none 0 0, .slice none 0 0, .int .i64 pa] st11 ((w11x).setCell ⟨t6, 1, none⟩ (.string ⟨nm11.toArray⟩))) := Lib.hid (HC11.out.put 1 (.str nm11) rfl)
    have k2 := blk_cell (HC11.out.cb (w.heap.size, Obj.cells #[(.pointer (some ⟨b, 0, none⟩))] 141 (0, 0)) List.mem_cons_self) 0 (.pointer (some ⟨b, 0, none⟩)) rfl
    have HNI : Hid (Qr.nameIf st0 = (st11, nm11)) := by unfold Qr.nameIf; rw [if_pos (by rw [isW_nil, ← HB.out])]; exact Lib.hid (Prod.ext HST11.out.symm HNM11.out.symm)
    go_wp2_with fail
    refine (rtake_any b g st11 Rd.lpar _ HP12.out.rd).mono ?_
    rintro r w20 ⟨rfl, h20, f20⟩
    clear k2
    clear y1 yf1
    have HF20 : Hid (FJ w b g t6 lo [(w.heap.size, Obj.cells #[(.pointer (some ⟨b, 0, none⟩))] 141 (0, 0)), (w.heap.size + 1, Obj.cells #[.int .i64 0, .string ⟨#[]⟩, .slice none 0 0, .slice none 0 0, .slice none 0 0, .int .i64 0] 49 (0, 0))] 49 [.int kd, .str nm11, .seq 9 [], .seq 3 [], .seq 7 [], .int pa] [.int .i64 kd, .string ⟨nm11.toArray⟩, .slice none 0 0, .slice none 0 0, .slice none 0 0, .int .i64 pa] (Rd.take Rd.lpar st11) (w20)) := Lib.hid (HP12.out.step h20 f20)
    obtain ⟨C, hC⟩ : ∃ B, B = Rd.isS st11 Rd.lpar := ⟨_, rfl⟩
    have HC := Lib.hid hC
    rw [← hC]
    clear hC h20 f20
    cases C
    · have HT : Hid (Rd.take Rd.lpar st11 = st11) := by unfold Rd.take; rw [if_neg (by rw [← HC.out]; simp)]; exact Lib.hid rfl
      have HF21 : Hid (FJ w b g t6 lo [(w.heap.size, Obj.cells #[(.pointer (some ⟨b, 0, none⟩))] 141 (0, 0)), (w.heap.size + 1, Obj.cells #[.int .i64 0, .string ⟨#[]⟩, .slice none 0 0, .slice none 0 0, .slice none 0 0, .int .i64 0] 49 (0, 0))] 49 [.int kd, .str nm11, .seq 9 [], .seq 3 [], .seq 7 [], .int pa] [.int .i64 kd, .string ⟨nm11.toArray⟩, .slice none 0 0, .slice none 0 0, .slice none 0 0, .int .i64 pa] st11 (w20)) := by rw [HT.out] at HF20; exact HF20
      have HV : Hid (Qr.vars (n + 1) st11 = (st11, [])) := by unfold Qr.vars; rw [if_neg (by rw [← HC.out]; simp)]; exact Lib.hid rfl
      have k2 := blk_cell (HF21.out.cb (w.heap.size, Obj.cells #[(.pointer (some ⟨b, 0, none⟩))] 141 (0, 0)) List.mem_cons_self) 0 (.pointer (some ⟨b, 0, none⟩)) rfl
      go_wp2_with fail
      refine (dirs_any b g n hnb st11 _ HF21.out.rd (Nat.le_trans HOK11x.out.len HN.out) (by rw [HDP11x.out]; omega)).mono ?_
      rintro r w31x ⟨ra31, rc31, rfl, hrd, h31, f31⟩
      clear k2
      obtain ⟨q31, hq31⟩ : ∃ x, x = Qr.dirs (n + 1) st11 := ⟨_, rfl⟩
      rw [← hq31] at hrd h31 ⊢
      have HQ31 := Lib.hid hq31
      have hda := HF21.out.data hrd
      obtain ⟨ln31, hln⟩ : ∃ x, x = q31.2.length := ⟨_, rfl⟩
      rw [List.length_map, ← hln] at hda ⊢
      have HOK31x : Hid (Rd.Ok s q31.1) := by rw [HQ31.out]; exact Lib.hid (HOK11x.out.trans (Qr.ok_dirs (n + 1) _))
      have HDP31x : Hid (q31.1.deep = s.deep) := by rw [HQ31.out, Qr.dirs_deep]; exact HDP11x
      have HC31 : Hid (FJ w b g t6 lo [(w.heap.size, Obj.cells #[(.pointer (some ⟨b, 0, none⟩))] 141 (0, 0)), (w.heap.size + 1, Obj.cells #[.int .i64 0, .string ⟨#[]⟩, .slice none 0 0, .slice none 0 0, .slice none 0 0, .int .i64 0] 49 (0, 0))] 49 [.int kd, .str nm11, .seq 9 [], .seq 3 [], .seq 7 [], .int pa] [.int .i64 kd, .string ⟨nm11.toArray⟩, .slice none 0 0, .slice none 0 0, .slice none 0 0, .int .i64 pa] q31.1 (w31x)) := Lib.hid (HF21.out.step h31 f31)
      have HDA31 := Lib.hid hda
      clear hrd h31 f31 hq31 hda hln
      have y3 := blk_cell HC31.out.b6 3 (.slice none 0 0) rfl
      have yf3 := blk_free HC31.out.b6 3
      have HP32 : Hid (FJ w b g t6 lo [(w.heap.size, Obj.cells #[(.pointer (some ⟨b, 0, none⟩))] 141 (0, 0)), (w.heap.size + 1, Obj.cells #[.int .i64 0, .string ⟨#[]⟩, .slice none 0 0, .slice none 0 0, .slice none 0 0, .int .i64 0] 49 (0, 0))] 49 [.int kd, .str nm11, .seq 9 [], .seq 3 (q31.2.map Qr.Dir.d), .seq 7 [], .int pa] [.int .i64 kd, .string ⟨nm11.toArray⟩, .slice none 0 0, .slice ra31 ln31 rc31, .slice none 0 0, .int .i64 pa] q31.1 ((w31x).setCell ⟨t6, 3, none⟩ (.slice ra31 ln31 rc31))) := Lib.hid (HC31.out.put 3 (HDA31.out) rfl)
      have k2 := blk_cell (HC31.out.cb (w.heap.size, Obj.cells #[(.pointer (some ⟨b, 0, none⟩))] 141 (0, 0)) List.mem_cons_self) 0 (.pointer (some ⟨b, 0, none⟩)) rfl
      go_wp2_with fail
      refine (sels_any b g n hnb q31.1 _ HP32.out.rd (Nat.le_trans HOK31x.out.len HN.out) (by rw [HDP31x.out]; omega)).mono ?_
      rintro r w33x ⟨ra33, rc33, rfl, hrd, h33, f33⟩
      clear k2
      obtain ⟨q33, hq33⟩ : ∃ x, x = Qr.sels (n + 1) (n + 1) q31.1 := ⟨_, rfl⟩
      rw [← hq33] at hrd h33 ⊢
      have HQ33 := Lib.hid hq33
      have hda := HP32.out.data hrd
      obtain ⟨ln33, hln⟩ : ∃ x, x = q33.2.length := ⟨_, rfl⟩
      rw [List.length_map, ← hln] at hda ⊢
      have HOK33x : Hid (Rd.Ok s q33.1) := by rw [HQ33.out]; exact Lib.hid (HOK31x.out.trans (Qr.ok_selsOf _ (Qr.ok_sel (n + 1) (n + 1)) _))
      have HDP33x : Hid (q33.1.deep = s.deep) := by rw [HQ33.out, show (Qr.sels (n + 1) (n + 1) _).1.deep = _ from Qr.selsOf_deep _ (Qr.sel_deep (n + 1) (n + 1)) _]; exact HDP31x
      have HC33 : Hid (FJ w b g t6 lo [(w.heap.size, Obj.cells #[(.pointer (some ⟨b, 0, none⟩))] 141 (0, 0)), (w.heap.size + 1, Obj.cells #[.int .i64 0, .string ⟨#[]⟩, .slice none 0 0, .slice none 0 0, .slice none 0 0, .int .i64 0] 49 (0, 0))] 49 [.int kd, .str nm11, .seq 9 [], .seq 3 (q31.2.map Qr.Dir.d), .seq 7 [], .int pa] [.int .i64 kd, .string ⟨nm11.toArray⟩, .slice none 0 0, .slice ra31 ln31 rc31, .slice none 0 0, .int .i64 pa] q33.1 (w33x)) := Lib.hid (HP32.out.step h33 f33)
      have HDA33 := Lib.hid hda
      clear hrd h33 f33 hq33 hda hln
      have y4 := blk_cell HC33.out.b6 4 (.slice none 0 0) rfl
      have yf4 := blk_free HC33.out.b6 4
      have HP34 : Hid (FJ w b g t6 lo [(w.heap.size, Obj.cells #[(.pointer (some ⟨b, 0, none⟩))] 141 (0, 0)), (w.heap.size + 1, Obj.cells #[.int .i64 0, .string ⟨#[]⟩, .slice none 0 0, .slice none 0 0, .slice none 0 0, .int .i64 0] 49 (0, 0))] 49 [.int kd, .str nm11, .seq 9 [], .seq 3 (q31.2.map Qr.Dir.d), .seq 7 (q33.2.map Qr.Sel.d), .int pa] [.int .i64 kd, .string ⟨nm11.toArray⟩, .slice none 0 0, .slice ra31 ln31 rc31, .slice ra33 ln33 rc33, .int .i64 pa] q33.1 ((w33x).setCell ⟨t6, 4, none⟩ (.slice ra33 ln33 rc33))) := Lib.hid (HC33.out.put 4 (HDA33.out) rfl)
      have HR : Hid (Qr.op (n + 1) s = (q33.1, ⟨kd, nm11, [], q31.2, q33.2, pa⟩)) := by
        refine Lib.hid ?_
        rw [HOP.out]
        unfold Qr.opRest
        dsimp only
        rw [HNI.out, HV.out, ← HQ31.out, ← HQ33.out]
      clear y3 yf3
      have y0 := blk_cell HC33.out.b6 0 (.int .i64 kd) rfl
      have yf0 := blk_free HC33.out.b6 0
      have y1 := blk_cell HC33.out.b6 1 (.string ⟨nm11.toArray⟩) rfl
      have yf1 := blk_free HC33.out.b6 1
      have y2 := blk_cell HC33.out.b6 2 (.slice none 0 0) rfl
      have yf2 := blk_free HC33.out.b6 2
      have y3 := blk_cell HC33.out.b6 3 (.slice ra31 ln31 rc31) rfl
      have yf3 := blk_free HC33.out.b6 3
      have y5 := blk_cell HC33.out.b6 5 (.int .i64 pa) rfl
      have yf5 := blk_free HC33.out.b6 5
      have z0 := blk_cell (HC33.out.cb (w.heap.size + 1, Obj.cells #[.int .i64 0, .string ⟨#[]⟩, .slice none 0 0, .slice none 0 0, .slice none 0 0, .int .i64 0] 49 (0, 0)) (List.mem_cons_of_mem _ List.mem_cons_self)) 0 (.int .i64 0) rfl
      have zf0 := blk_free (HC33.out.cb (w.heap.size + 1, Obj.cells #[.int .i64 0, .string ⟨#[]⟩, .slice none 0 0, .slice none 0 0, .slice none 0 0, .int .i64 0] 49 (0, 0)) (List.mem_cons_of_mem _ List.mem_cons_self)) 0
      have z1 := blk_cell (HC33.out.cb (w.heap.size + 1, Obj.cells #[.int .i64 0, .string ⟨#[]⟩, .slice none 0 0, .slice none 0 0, .slice none 0 0, .int .i64 0] 49 (0, 0)) (List.mem_cons_of_mem _ List.mem_cons_self)) 1 (.string ⟨#[]⟩) rfl
      have zf1 := blk_free (HC33.out.cb (w.heap.size + 1, Obj.cells #[.int .i64 0, .string ⟨#[]⟩, .slice none 0 0, .slice none 0 0, .slice none 0 0, .int .i64 0] 49 (0, 0)) (List.mem_cons_of_mem _ List.mem_cons_self)) 1
      have z2 := blk_cell (HC33.out.cb (w.heap.size + 1, Obj.cells #[.int .i64 0, .string ⟨#[]⟩, .slice none 0 0, .slice none 0 0, .slice none 0 0, .int .i64 0] 49 (0, 0)) (List.mem_cons_of_mem _ List.mem_cons_self)) 2 (.slice none 0 0) rfl
      have zf2 := blk_free (HC33.out.cb (w.heap.size + 1, Obj.cells #[.int .i64 0, .string ⟨#[]⟩, .slice none 0 0, .slice none 0 0, .slice none 0 0, .int .i64 0] 49 (0, 0)) (List.mem_cons_of_mem _ List.mem_cons_self)) 2
      have z3 := blk_cell (HC33.out.cb (w.heap.size + 1, Obj.cells #[.int .i64 0, .string ⟨#[]⟩, .slice none 0 0, .slice none 0 0, .slice none 0 0, .int .i64 0] 49 (0, 0)) (List.mem_cons_of_mem _ List.mem_cons_self)) 3 (.slice none 0 0) rfl
      have zf3 := blk_free (HC33.out.cb (w.heap.size + 1, Obj.cells #[.int .i64 0, .string ⟨#[]⟩, .slice none 0 0, .slice none 0 0, .slice none 0 0, .int .i64 0] 49 (0, 0)) (List.mem_cons_of_mem _ List.mem_cons_self)) 3
      have z4 := blk_cell (HC33.out.cb (w.heap.size + 1, Obj.cells #[.int .i64 0, .string ⟨#[]⟩, .slice none 0 0, .slice none 0 0, .slice none 0 0, .int .i64 0] 49 (0, 0)) (List.mem_cons_of_mem _ List.mem_cons_self)) 4 (.slice none 0 0) rfl
      have zf4 := blk_free (HC33.out.cb (w.heap.size + 1, Obj.cells #[.int .i64 0, .string ⟨#[]⟩, .slice none 0 0, .slice none 0 0, .slice none 0 0, .int .i64 0] 49 (0, 0)) (List.mem_cons_of_mem _ List.mem_cons_self)) 4
      have z5 := blk_cell (HC33.out.cb (w.heap.size + 1, Obj.cells #[.int .i64 0, .string ⟨#[]⟩, .slice none 0 0, .slice none 0 0, .slice none 0 0, .int .i64 0] 49 (0, 0)) (List.mem_cons_of_mem _ List.mem_cons_self)) 5 (.int .i64 0) rfl
      have zf5 := blk_free (HC33.out.cb (w.heap.size + 1, Obj.cells #[.int .i64 0, .string ⟨#[]⟩, .slice none 0 0, .slice none 0 0, .slice none 0 0, .int .i64 0] 49 (0, 0)) (List.mem_cons_of_mem _ List.mem_cons_self)) 5
      have hfin := HP34.out.fin (r := w.heap.size + 1) (List.mem_cons_of_mem _ List.mem_cons_self)
      simp only [putCells, Nat.reduceAdd, Nat.zero_add] at hfin
      have HFN := Lib.hid hfin
      clear hfin
      go_wp2_with fail
      refine bodyPost_ret (v := .agg #[.int .i64 kd, .string ⟨nm11.toArray⟩, .slice none 0 0, .slice ra31 ln31 rc31, .slice ra33 ln33 rc33, .int .i64 pa]) (by simp [results, Tryz.results86, go_sem, z0, z1, z2, z3, z4, z5, n3, n4]) rfl ?_
      rw [HR.out]
      exact ⟨_, rfl, HFN.out⟩
    · have HT : Hid (Rd.take Rd.lpar st11 = Rd.next st11) := by unfold Rd.take; rw [if_pos HC.out.symm]; exact Lib.hid rfl
      have HLI : Hid (LI w b g t6 [(w.heap.size, Obj.cells #[(.pointer (some ⟨b, 0, none⟩))] 141 (0, 0)), (w.heap.size + 1, Obj.cells #[.int .i64 0, .string ⟨#[]⟩, .slice none 0 0, .slice none 0 0, .slice none 0 0, .int .i64 0] 49 (0, 0))] 49 (mkOpV kd ⟨nm11.toArray⟩ pa) 97 9 (Rd.next st11) [] w20) := by
        rw [HT.out, HLO.out] at HF20
        exact Lib.hid (HF20.out.li rfl)
      have HNX := Lib.hid (Rd.next_sign HC.out.symm)
      have HND : Hid ((Rd.next st11).deep = s.deep) := by rw [Rd.next_deep, HDP11x.out]; exact Lib.hid rfl
      have HCL : Hid (∀ (s1 : Rd.St) (out : List Qr.Vd) (w1 : World), LI w b g t6 [(w.heap.size, Obj.cells #[(.pointer (some ⟨b, 0, none⟩))] 141 (0, 0)), (w.heap.size + 1, Obj.cells #[.int .i64 0, .string ⟨#[]⟩, .slice none 0 0, .slice none 0 0, .slice none 0 0, .int .i64 0] 49 (0, 0))] 49 (mkOpV kd ⟨nm11.toArray⟩ pa) 97 9 s1 (out.map Qr.Vd.d) w1 → s1.rest.length ≤ n → s1.deep = s.deep → out.length ≤ 1000000 →
          Calls Tryz.prog 117 #[.pointer (some ⟨t6, 0, none⟩), .pointer (some ⟨w.heap.size, 0, none⟩)] w1 fun r w' => r = .returned (.tuple #[]) ∧ LI w b g t6 [(w.heap.size, Obj.cells #[(.pointer (some ⟨b, 0, none⟩))] 141 (0, 0)), (w.heap.size + 1, Obj.cells #[.int .i64 0, .string ⟨#[]⟩, .slice none 0 0, .slice none 0 0, .slice none 0 0, .int .i64 0] 49 (0, 0))] 49 (mkOpV kd ⟨nm11.toArray⟩ pa) 97 9 (Qr.variable_ (n + 1) s1).1 ((out ++ [(Qr.variable_ (n + 1) s1).2]).map Qr.Vd.d) w') :=
        Lib.hid fun s1 out w1 hl hr hdp ho => by
          rw [List.map_append]
          exact opC_any w b g t6 [(w.heap.size, Obj.cells #[(.pointer (some ⟨b, 0, none⟩))] 141 (0, 0)), (w.heap.size + 1, Obj.cells #[.int .i64 0, .string ⟨#[]⟩, .slice none 0 0, .slice none 0 0, .slice none 0 0, .int .i64 0] 49 (0, 0))] w.heap.size kd ⟨nm11.toArray⟩ pa (n + 1) List.mem_cons_self s1 (out.map Qr.Vd.d) w1 (fun w2 hr2 => variable_any b g n hnb s1 w2 hr2 (.inr hr) (by rw [hdp]; omega)) hl (by rw [List.length_map]; exact ho)
      have HVD := Lib.hid (Qr.variable_deep (n + 1))
      have HVO := Lib.hid (Qr.ok_variable (n + 1))
      have HVG := Lib.hid (Qr.variable_goes (n + 1))
      have hnx : (Rd.next st11).rest.length + 1 ≤ n := by have h1 := HNX.out.1; have h2 := HOK11x.out.len; have h3 := HN.out; omega
      have k2 := blk_cell (HLI.out.cb (w.heap.size, Obj.cells #[(.pointer (some ⟨b, 0, none⟩))] 141 (0, 0)) List.mem_cons_self) 0 (.pointer (some ⟨b, 0, none⟩)) rfl
      go_wp2_with fail
      refine (some1_any Rd.rpar (Qr.variable_ (n + 1)) (FLI w b g t6 [(w.heap.size, Obj.cells #[(.pointer (some ⟨b, 0, none⟩))] 141 (0, 0)), (w.heap.size + 1, Obj.cells #[.int .i64 0, .string ⟨#[]⟩, .slice none 0 0, .slice none 0 0, .slice none 0 0, .int .i64 0] 49 (0, 0))] 49 (mkOpV kd ⟨nm11.toArray⟩ pa) 97 9 Qr.Vd.d n s.deep) b g _ _ (enters_OC _) (fun s out w' h => h.1.rd) (fun s out w1 w2 h hb => ⟨h.1.below hb, h.2⟩) (fun s1 out w2 h he => ?_) (fun s1 out w2 h he _ => HVG.out s1 he) (n + 1) (Rd.next st11) w20 ?_ ?_).mono ?_
      · refine (HCL.out s1 out w2 h.1 h.2.2.1 h.2.1 (by have := h.2.2.2.2; omega)).mono ?_
        rintro r w3 ⟨hre, hli⟩
        refine ⟨hre, hli, by rw [HVD.out]; exact h.2.1, Nat.le_trans (HVO.out s1).len h.2.2.1, fun he2 => ?_, by have := h.2.2.2.1 he; rw [List.length_append]; simp; omega⟩
        rcases HVG.out s1 he with hx | hx
        · exact absurd he2 hx
        · have := h.2.2.2.1 he
          rw [List.length_append]
          simp
          omega
      · refine (HCL.out (Rd.next st11) [] w20 HLI.out (by omega) HND.out (by simp)).mono ?_
        rintro r w3 ⟨hre, hli⟩
        have hlen := (HVO.out (Rd.next st11)).len
        exact ⟨hre, hli, by rw [HVD.out]; exact HND.out, by omega, fun _ => by simp; omega, by simp⟩
      · rcases HVG.out (Rd.next st11) HNX.out.2 with hx | hx
        · exact .inl hx
        · exact .inr (by omega)
      rintro r w21 ⟨rfl, hL⟩
      obtain ⟨L, hLL⟩ : ∃ x, x = Rd.loop1 Rd.rpar (Qr.variable_ (n + 1)) (n + 1) (Rd.next st11) := ⟨_, rfl⟩
      rw [← hLL] at hL
      have HLL := Lib.hid hLL
      have HL := Lib.hid hL.1
      clear k2 hL hLL
      have k2 := blk_cell (HL.out.cb (w.heap.size, Obj.cells #[(.pointer (some ⟨b, 0, none⟩))] 141 (0, 0)) List.mem_cons_self) 0 (.pointer (some ⟨b, 0, none⟩)) rfl
      go_wp2_with fail
      refine (rwant_any b g L.1 Rd.rpar w21 HL.out.rd).mono ?_
      rintro r w22 ⟨rfl, h22, f22⟩
      clear k2
      have hl7 := HL.out.step h22 f22
      obtain ⟨st22, hs22⟩ : ∃ x, x = Rd.want Rd.rpar L.1 := ⟨_, rfl⟩
      rw [← hs22] at hl7
      have HV : Hid (Qr.vars (n + 1) st11 = (st22, L.2)) := by unfold Qr.vars; rw [if_pos HC.out.symm, ← HLL.out, ← hs22]; exact Lib.hid rfl
      obtain ⟨v, hv6, hg6⟩ := hl7.ex
      obtain ⟨va, vc, rfl⟩ := hg6.form
      have hrv := hg6.reads.to (Q := fun x => lo ≤ x) (Stands.sub w22 (fun x _ hp => by
        rw [HLO.out]
        rcases hp with hp | hp
        · exact hp.1
        · exact Nat.le_trans (LB_t6 _ _) (hg6.lt x hp).1))
      obtain ⟨vl, hvl⟩ : ∃ x, x = (L.2.map Qr.Vd.d).length := ⟨_, rfl⟩
      rw [← hvl] at hrv hv6
      have HOK22 : Hid (Rd.Ok s st22) := by have h1 := HOK11x.out.trans (Qr.ok_vars (n + 1) st11); rw [HV.out] at h1; exact Lib.hid h1
      have HDP22 : Hid (st22.deep = s.deep) := by have h1 := Qr.vars_deep (n + 1) st11; rw [HV.out] at h1; exact Lib.hid (h1.trans HDP11x.out)
      have HF22 : Hid (FJ w b g t6 lo [(w.heap.size, Obj.cells #[(.pointer (some ⟨b, 0, none⟩))] 141 (0, 0)), (w.heap.size + 1, Obj.cells #[.int .i64 0, .string ⟨#[]⟩, .slice none 0 0, .slice none 0 0, .slice none 0 0, .int .i64 0] 49 (0, 0))] 49 [.int kd, .str nm11, .seq 9 (L.2.map Qr.Vd.d), .seq 3 [], .seq 7 [], .int pa] [.int .i64 kd, .string ⟨nm11.toArray⟩, .slice va vl vc, .slice none 0 0, .slice none 0 0, .int .i64 pa] st22 (w22)) := Lib.hid ⟨hl7.rd, hl7.cb, hv6, hl7.fr, hl7.lb, hl7.lg, fun p hp => ⟨(hl7.lx0 p hp).1, (HF20.out.lx p hp).2.1, (hl7.lx0 p hp).2⟩, HF20.out.l6, by have := block_lt hv6; rw [HLO.out]; omega, .cons (.int _) (.cons (.str _) (.cons hrv (.cons (.seq (cap := 0) .nil) (.cons (.seq (cap := 0) .nil) (.cons (.int _) .nil)))))⟩
      clear hv6 hg6 hrv hvl hl7 h22 f22 hs22
      have k2 := blk_cell (HF22.out.cb (w.heap.size, Obj.cells #[(.pointer (some ⟨b, 0, none⟩))] 141 (0, 0)) List.mem_cons_self) 0 (.pointer (some ⟨b, 0, none⟩)) rfl
      go_wp2_with fail
      refine (dirs_any b g n hnb st22 _ HF22.out.rd (Nat.le_trans HOK22.out.len HN.out) (by rw [HDP22.out]; omega)).mono ?_
      rintro r w31x ⟨ra31, rc31, rfl, hrd, h31, f31⟩
      clear k2
      obtain ⟨q31, hq31⟩ : ∃ x, x = Qr.dirs (n + 1) st22 := ⟨_, rfl⟩
      rw [← hq31] at hrd h31 ⊢
      have HQ31 := Lib.hid hq31
      have hda := HF22.out.data hrd
      obtain ⟨ln31, hln⟩ : ∃ x, x = q31.2.length := ⟨_, rfl⟩
      rw [List.length_map, ← hln] at hda ⊢
      have HOK31x : Hid (Rd.Ok s q31.1) := by rw [HQ31.out]; exact Lib.hid (HOK22.out.trans (Qr.ok_dirs (n + 1) _))
      have HDP31x : Hid (q31.1.deep = s.deep) := by rw [HQ31.out, Qr.dirs_deep]; exact HDP22
      have HC31 : Hid (FJ w b g t6 lo [(w.heap.size, Obj.cells #[(.pointer (some ⟨b, 0, none⟩))] 141 (0, 0)), (w.heap.size + 1, Obj.cells #[.int .i64 0, .string ⟨#[]⟩, .slice none 0 0, .slice none 0 0, .slice none 0 0, .int .i64 0] 49 (0, 0))] 49 [.int kd, .str nm11, .seq 9 (L.2.map Qr.Vd.d), .seq 3 [], .seq 7 [], .int pa] [.int .i64 kd, .string ⟨nm11.toArray⟩, .slice va vl vc, .slice none 0 0, .slice none 0 0, .int .i64 pa] q31.1 (w31x)) := Lib.hid (HF22.out.step h31 f31)
      have HDA31 := Lib.hid hda
      clear hrd h31 f31 hq31 hda hln
      have y3 := blk_cell HC31.out.b6 3 (.slice none 0 0) rfl
      have yf3 := blk_free HC31.out.b6 3
      have HP32 : Hid (FJ w b g t6 lo [(w.heap.size, Obj.cells #[(.pointer (some ⟨b, 0, none⟩))] 141 (0, 0)), (w.heap.size + 1, Obj.cells #[.int .i64 0, .string ⟨#[]⟩, .slice none 0 0, .slice none 0 0, .slice none 0 0, .int .i64 0] 49 (0, 0))] 49 [.int kd, .str nm11, .seq 9 (L.2.map Qr.Vd.d), .seq 3 (q31.2.map Qr.Dir.d), .seq 7 [], .int pa] [.int .i64 kd, .string ⟨nm11.toArray⟩, .slice va vl vc, .slice ra31 ln31 rc31, .slice none 0 0, .int .i64 pa] q31.1 ((w31x).setCell ⟨t6, 3, none⟩ (.slice ra31 ln31 rc31))) := Lib.hid (HC31.out.put 3 (HDA31.out) rfl)
      have k2 := blk_cell (HC31.out.cb (w.heap.size, Obj.cells #[(.pointer (some ⟨b, 0, none⟩))] 141 (0, 0)) List.mem_cons_self) 0 (.pointer (some ⟨b, 0, none⟩)) rfl
      go_wp2_with fail
      refine (sels_any b g n hnb q31.1 _ HP32.out.rd (Nat.le_trans HOK31x.out.len HN.out) (by rw [HDP31x.out]; omega)).mono ?_
      rintro r w33x ⟨ra33, rc33, rfl, hrd, h33, f33⟩
      clear k2
      obtain ⟨q33, hq33⟩ : ∃ x, x = Qr.sels (n + 1) (n + 1) q31.1 := ⟨_, rfl⟩
      rw [← hq33] at hrd h33 ⊢
      have HQ33 := Lib.hid hq33
      have hda := HP32.out.data hrd
      obtain ⟨ln33, hln⟩ : ∃ x, x = q33.2.length := ⟨_, rfl⟩
      rw [List.length_map, ← hln] at hda ⊢
      have HOK33x : Hid (Rd.Ok s q33.1) := by rw [HQ33.out]; exact Lib.hid (HOK31x.out.trans (Qr.ok_selsOf _ (Qr.ok_sel (n + 1) (n + 1)) _))
      have HDP33x : Hid (q33.1.deep = s.deep) := by rw [HQ33.out, show (Qr.sels (n + 1) (n + 1) _).1.deep = _ from Qr.selsOf_deep _ (Qr.sel_deep (n + 1) (n + 1)) _]; exact HDP31x
      have HC33 : Hid (FJ w b g t6 lo [(w.heap.size, Obj.cells #[(.pointer (some ⟨b, 0, none⟩))] 141 (0, 0)), (w.heap.size + 1, Obj.cells #[.int .i64 0, .string ⟨#[]⟩, .slice none 0 0, .slice none 0 0, .slice none 0 0, .int .i64 0] 49 (0, 0))] 49 [.int kd, .str nm11, .seq 9 (L.2.map Qr.Vd.d), .seq 3 (q31.2.map Qr.Dir.d), .seq 7 [], .int pa] [.int .i64 kd, .string ⟨nm11.toArray⟩, .slice va vl vc, .slice ra31 ln31 rc31, .slice none 0 0, .int .i64 pa] q33.1 (w33x)) := Lib.hid (HP32.out.step h33 f33)
      have HDA33 := Lib.hid hda
      clear hrd h33 f33 hq33 hda hln
      have y4 := blk_cell HC33.out.b6 4 (.slice none 0 0) rfl
      have yf4 := blk_free HC33.out.b6 4
      have HP34 : Hid (FJ w b g t6 lo [(w.heap.size, Obj.cells #[(.pointer (some ⟨b, 0, none⟩))] 141 (0, 0)), (w.heap.size + 1, Obj.cells #[.int .i64 0, .string ⟨#[]⟩, .slice none 0 0, .slice none 0 0, .slice none 0 0, .int .i64 0] 49 (0, 0))] 49 [.int kd, .str nm11, .seq 9 (L.2.map Qr.Vd.d), .seq 3 (q31.2.map Qr.Dir.d), .seq 7 (q33.2.map Qr.Sel.d), .int pa] [.int .i64 kd, .string ⟨nm11.toArray⟩, .slice va vl vc, .slice ra31 ln31 rc31, .slice ra33 ln33 rc33, .int .i64 pa] q33.1 ((w33x).setCell ⟨t6, 4, none⟩ (.slice ra33 ln33 rc33))) := Lib.hid (HC33.out.put 4 (HDA33.out) rfl)
      have HR : Hid (Qr.op (n + 1) s = (q33.1, ⟨kd, nm11, L.2, q31.2, q33.2, pa⟩)) := by
        refine Lib.hid ?_
        rw [HOP.out]
        unfold Qr.opRest
        dsimp only
        rw [HNI.out, HV.out, ← HQ31.out, ← HQ33.out]
      clear y3 yf3
      have y0 := blk_cell HC33.out.b6 0 (.int .i64 kd) rfl
      have yf0 := blk_free HC33.out.b6 0
      have y1 := blk_cell HC33.out.b6 1 (.string ⟨nm11.toArray⟩) rfl
      have yf1 := blk_free HC33.out.b6 1
      have y2 := blk_cell HC33.out.b6 2 (.slice va vl vc) rfl
      have yf2 := blk_free HC33.out.b6 2
      have y3 := blk_cell HC33.out.b6 3 (.slice ra31 ln31 rc31) rfl
      have yf3 := blk_free HC33.out.b6 3
      have y5 := blk_cell HC33.out.b6 5 (.int .i64 pa) rfl
      have yf5 := blk_free HC33.out.b6 5
      have z0 := blk_cell (HC33.out.cb (w.heap.size + 1, Obj.cells #[.int .i64 0, .string ⟨#[]⟩, .slice none 0 0, .slice none 0 0, .slice none 0 0, .int .i64 0] 49 (0, 0)) (List.mem_cons_of_mem _ List.mem_cons_self)) 0 (.int .i64 0) rfl
      have zf0 := blk_free (HC33.out.cb (w.heap.size + 1, Obj.cells #[.int .i64 0, .string ⟨#[]⟩, .slice none 0 0, .slice none 0 0, .slice none 0 0, .int .i64 0] 49 (0, 0)) (List.mem_cons_of_mem _ List.mem_cons_self)) 0
      have z1 := blk_cell (HC33.out.cb (w.heap.size + 1, Obj.cells #[.int .i64 0, .string ⟨#[]⟩, .slice none 0 0, .slice none 0 0, .slice none 0 0, .int .i64 0] 49 (0, 0)) (List.mem_cons_of_mem _ List.mem_cons_self)) 1 (.string ⟨#[]⟩) rfl
      have zf1 := blk_free (HC33.out.cb (w.heap.size + 1, Obj.cells #[.int .i64 0, .string ⟨#[]⟩, .slice none 0 0, .slice none 0 0, .slice none 0 0, .int .i64 0] 49 (0, 0)) (List.mem_cons_of_mem _ List.mem_cons_self)) 1
      have z2 := blk_cell (HC33.out.cb (w.heap.size + 1, Obj.cells #[.int .i64 0, .string ⟨#[]⟩, .slice none 0 0, .slice none 0 0, .slice none 0 0, .int .i64 0] 49 (0, 0)) (List.mem_cons_of_mem _ List.mem_cons_self)) 2 (.slice none 0 0) rfl
      have zf2 := blk_free (HC33.out.cb (w.heap.size + 1, Obj.cells #[.int .i64 0, .string ⟨#[]⟩, .slice none 0 0, .slice none 0 0, .slice none 0 0, .int .i64 0] 49 (0, 0)) (List.mem_cons_of_mem _ List.mem_cons_self)) 2
      have z3 := blk_cell (HC33.out.cb (w.heap.size + 1, Obj.cells #[.int .i64 0, .string ⟨#[]⟩, .slice none 0 0, .slice none 0 0, .slice none 0 0, .int .i64 0] 49 (0, 0)) (List.mem_cons_of_mem _ List.mem_cons_self)) 3 (.slice none 0 0) rfl
      have zf3 := blk_free (HC33.out.cb (w.heap.size + 1, Obj.cells #[.int .i64 0, .string ⟨#[]⟩, .slice none 0 0, .slice none 0 0, .slice none 0 0, .int .i64 0] 49 (0, 0)) (List.mem_cons_of_mem _ List.mem_cons_self)) 3
      have z4 := blk_cell (HC33.out.cb (w.heap.size + 1, Obj.cells #[.int .i64 0, .string ⟨#[]⟩, .slice none 0 0, .slice none 0 0, .slice none 0 0, .int .i64 0] 49 (0, 0)) (List.mem_cons_of_mem _ List.mem_cons_self)) 4 (.slice none 0 0) rfl
      have zf4 := blk_free (HC33.out.cb (w.heap.size + 1, Obj.cells #[.int .i64 0, .string ⟨#[]⟩, .slice none 0 0, .slice none 0 0, .slice none 0 0, .int .i64 0] 49 (0, 0)) (List.mem_cons_of_mem _ List.mem_cons_self)) 4
      have z5 := blk_cell (HC33.out.cb (w.heap.size + 1, Obj.cells #[.int .i64 0, .string ⟨#[]⟩, .slice none 0 0, .slice none 0 0, .slice none 0 0, .int .i64 0] 49 (0, 0)) (List.mem_cons_of_mem _ List.mem_cons_self)) 5 (.int .i64 0) rfl
      have zf5 := blk_free (HC33.out.cb (w.heap.size + 1, Obj.cells #[.int .i64 0, .string ⟨#[]⟩, .slice none 0 0, .slice none 0 0, .slice none 0 0, .int .i64 0] 49 (0, 0)) (List.mem_cons_of_mem _ List.mem_cons_self)) 5
      have hfin := HP34.out.fin (r := w.heap.size + 1) (List.mem_cons_of_mem _ List.mem_cons_self)
      simp only [putCells, Nat.reduceAdd, Nat.zero_add] at hfin
      have HFN := Lib.hid hfin
      clear hfin
      go_wp2_with fail
      refine bodyPost_ret (v := .agg #[.int .i64 kd, .string ⟨nm11.toArray⟩, .slice va vl vc, .slice ra31 ln31 rc31, .slice ra33 ln33 rc33, .int .i64 pa]) (by simp [results, Tryz.results86, go_sem, z0, z1, z2, z3, z4, z5, n3, n4]) rfl ?_
      rw [HR.out]
      exact ⟨_, rfl, HFN.out⟩
end Go.Proofs.YtabcaljnpahgpaaGreatDoor
namespace Go.Proofs.YtabcaljnpahgpaaGreatDoor
set_option linter.unusedSimpArgs false
set_option linter.unusedVariables false
open Go Go.RowKit

theorem idxk (t : List UInt8) : 1 + Lib.idxOfS (Qr.kinds.map fun s => (⟨s.toArray⟩ : ByteArray)) ⟨t.toArray⟩ = (Qr.kindOf t : Int) := by
  unfold Lib.idxOfS Qr.kindOf
  rw [idx_from t Qr.kinds 0]
  cases Qr.kinds.findIdx? (fun w => decide (w = t)) with
  | none => rfl
  | some k => simp; omega
theorem kindsOf_le (t : List UInt8) : Qr.kindOf t ≤ 3 := by
  unfold Qr.kindOf
  cases h : Qr.kinds.findIdx? (fun w => decide (w = t)) with
  | none => simp
  | some k => have := (List.findIdx?_eq_some_iff_getElem.1 h).1; simp [Qr.kinds] at this; show k + 1 ≤ 3; omega
set_option maxRecDepth 100000 in
theorem kinds_any (w : World) : Calls Tryz.prog 85 #[] w fun r w' => r = .returned (.slice (some ⟨w.heap.size, 0, none⟩) 3 3) ∧ Below w.heap.size w w' ∧ Txts w' (.slice (some ⟨w.heap.size, 0, none⟩) 3 3) Qr.kinds := by
  have HT := Lib.hid (txts_lit w Qr.kinds (Qr.kinds.map fun s => Value.string ⟨s.toArray⟩).toArray 9 rfl)
  go_enter Tryz.func85, Tryz.ntmps85
  go_wp2
  go_ret
  exact ⟨rfl, (Below.refl _ _).alloc (Nat.le_refl _) _, HT.out⟩
theorem idxk_any (w : World) (g c : Nat) (t : List UInt8) (h : Txts w (.slice (some ⟨g, 0, none⟩) 3 c) Qr.kinds) :
    Calls Tryz.prog 70 #[.slice (some ⟨g, 0, none⟩) 3 c, .string ⟨t.toArray⟩] w fun e w' => e = .returned (.int .i64 (Lib.idxOfS (Qr.kinds.map fun s => (⟨s.toArray⟩ : ByteArray)) ⟨t.toArray⟩)) ∧ w' = w := by
  have := Tryz.slices_Index_string g 0 3 c (Qr.kinds.map fun s => (⟨s.toArray⟩ : ByteArray)) ⟨t.toArray⟩ w (by decide) (by decide) (fun j hj => by
    rw [List.length_map] at hj
    obtain ⟨b, off, e, _, h2⟩ := h.at (List.getElem?_eq_getElem hj)
    simp only [Option.some.injEq, Addr.mk.injEq] at e
    obtain ⟨rfl, rfl, _⟩ := e
    rw [h2, List.getD_eq_getElem?_getD, List.getElem?_map, List.getElem?_eq_getElem hj]
    rfl)
  rw [show (Qr.kinds.map fun s => (⟨s.toArray⟩ : ByteArray)).take 3 = Qr.kinds.map fun s => (⟨s.toArray⟩ : ByteArray) from by rfl] at this
  exact this
set_option maxHeartbeats 4000000 in
set_option maxRecDepth 100000 in
theorem op_any (b g n : Nat) (hnb : n ≤ 1600) (s : Rd.St) (w : World) (h : RdAt w b g s) (hn : s.rest.length ≤ n) (hd : 0 ≤ s.deep ∧ s.deep ≤ 700000) :
    Calls Tryz.prog 86 #[.pointer (some ⟨b, 0, none⟩)] w (Got b g w (Qr.op (n + 1) s).2.d (Qr.op (n + 1) s).1) := by
  have hlb := h.lt
  have HN := Lib.hid hn
  have H := Lib.hid h
  obtain ⟨d0, d1⟩ := hd
  have hba : Below w.heap.size w ((w.alloc (.cells #[(.pointer (some ⟨b, 0, none⟩))] 141)).alloc (.cells #[.int .i64 0, .string ⟨#[]⟩, .slice none 0 0, .slice none 0 0, .slice none 0 0, .int .i64 0] 49)) := ((Below.refl _ _).alloc (Nat.le_refl _) _).alloc (by simp) _
  have HBA := Lib.hid hba
  have HA1 : Hid (((w.alloc (.cells #[(.pointer (some ⟨b, 0, none⟩))] 141)).alloc (.cells #[.int .i64 0, .string ⟨#[]⟩, .slice none 0 0, .slice none 0 0, .slice none 0 0, .int .i64 0] 49)).heap[w.heap.size]? = some (.cells #[(.pointer (some ⟨b, 0, none⟩))] 141 (0, 0))) := by rw [Lib.alloc_old _ _ _ (by simp)]; exact Lib.hid (heap_at_new _ _)
  have HA2 : Hid (((w.alloc (.cells #[(.pointer (some ⟨b, 0, none⟩))] 141)).alloc (.cells #[.int .i64 0, .string ⟨#[]⟩, .slice none 0 0, .slice none 0 0, .slice none 0 0, .int .i64 0] 49)).heap[w.heap.size + 1]? = some (.cells #[.int .i64 0, .string ⟨#[]⟩, .slice none 0 0, .slice none 0 0, .slice none 0 0, .int .i64 0] 49 (0, 0))) := by
    have := heap_at_new (w.alloc (.cells #[(.pointer (some ⟨b, 0, none⟩))] 141)) (.cells #[.int .i64 0, .string ⟨#[]⟩, .slice none 0 0, .slice none 0 0, .slice none 0 0, .int .i64 0] 49)
    rw [show (w.alloc (.cells #[(.pointer (some ⟨b, 0, none⟩))] 141)).heap.size = w.heap.size + 1 by simp] at this
    exact Lib.hid this
  have k2 := blk_cell HA1.out 0 (.pointer (some ⟨b, 0, none⟩)) rfl
  clear h hn hba
  go_enter Tryz.func86, Tryz.ntmps86
  go_wp2_with fail
  refine (rpeek_any b g s _ (H.out.below HBA.out)).mono ?_
  rintro r w2 ⟨rfl, hb2⟩
  clear k2
  obtain ⟨pa, hpa⟩ : ∃ x, x = (Rd.peek s).at_ := ⟨_, rfl⟩
  rw [← hpa]
  have HPA := Lib.hid hpa
  have hsz : w.heap.size + 2 ≤ w2.heap.size := by have := hb2.size; simp at this; omega
  have HF0 : Hid (FJ w b g w2.heap.size (w2.heap.size + 1) [(w.heap.size, Obj.cells #[(.pointer (some ⟨b, 0, none⟩))] 141 (0, 0)), (w.heap.size + 1, Obj.cells #[.int .i64 0, .string ⟨#[]⟩, .slice none 0 0, .slice none 0 0, .slice none 0 0, .int .i64 0] 49 (0, 0))] 49 [.int 1, .str [], .seq 9 [], .seq 3 [], .seq 7 [], .int pa] [.int .i64 1, .string ⟨#[]⟩, .slice none 0 0, .slice none 0 0, .slice none 0 0, .int .i64 pa] s (w2.alloc (.cells #[.int .i64 1, .string ⟨#[]⟩, .slice none 0 0, .slice none 0 0, .slice none 0 0, .int .i64 pa] 49))) := by
    have hbb : Below w2.heap.size w2 (w2.alloc (.cells #[.int .i64 1, .string ⟨#[]⟩, .slice none 0 0, .slice none 0 0, .slice none 0 0, .int .i64 pa] 49)) := (Below.refl _ _).alloc (Nat.le_refl _) _
    have hs1 : ((w.alloc (.cells #[(.pointer (some ⟨b, 0, none⟩))] 141)).alloc (.cells #[.int .i64 0, .string ⟨#[]⟩, .slice none 0 0, .slice none 0 0, .slice none 0 0, .int .i64 0] 49)).heap.size = w.heap.size + 2 := by simp
    refine Lib.hid ⟨((H.out.below HBA.out).below hb2).below hbb, fun p hp => ?_, heap_at_new _ _, ((But.of_below HBA.out).trans (But.of_below hb2)).trans (But.of_below hbb), hlb.1, hlb.2, fun p hp => ?_, ⟨by omega, by omega⟩, by simp, .cons (.int _) (.cons (.str []) (.cons (.seq (cap := 0) .nil) (.cons (.seq (cap := 0) .nil) (.cons (.seq (cap := 0) .nil) (.cons (.int _) .nil)))))⟩
    · simp only [List.mem_cons, List.not_mem_nil, or_false] at hp
      rcases hp with rfl | rfl
      · show (w2.alloc _).heap[w.heap.size]? = _
        rw [hbb.block w.heap.size (by omega), hb2.block w.heap.size (by omega)]
        exact HA1.out
      · show (w2.alloc _).heap[w.heap.size + 1]? = _
        rw [hbb.block (w.heap.size + 1) (by omega), hb2.block (w.heap.size + 1) (by omega)]
        exact HA2.out
    · simp only [List.mem_cons, List.not_mem_nil, or_false] at hp
      rcases hp with rfl | rfl <;> (simp only; omega)
  have hlit : Below (w2.alloc (.cells #[.int .i64 1, .string ⟨#[]⟩, .slice none 0 0, .slice none 0 0, .slice none 0 0, .int .i64 pa] 49)).heap.size (w2.alloc (.cells #[.int .i64 1, .string ⟨#[]⟩, .slice none 0 0, .slice none 0 0, .slice none 0 0, .int .i64 pa] 49)) ((w2.alloc (.cells #[.int .i64 1, .string ⟨#[]⟩, .slice none 0 0, .slice none 0 0, .slice none 0 0, .int .i64 pa] 49)).alloc (.cells #[.string ⟨#[123]⟩] 9)) := (Below.refl _ _).alloc (Nat.le_refl _) _
  have HLIT := Lib.hid hlit
  have HTX : Hid (Txts ((w2.alloc (.cells #[.int .i64 1, .string ⟨#[]⟩, .slice none 0 0, .slice none 0 0, .slice none 0 0, .int .i64 pa] 49)).alloc (.cells #[.string ⟨#[123]⟩] 9)) (.slice (some ⟨w2.heap.size + 1, 0, none⟩) 1 1) [Rd.lbrc]) := by
    have h1 := txts_one (w2.alloc (.cells #[.int .i64 1, .string ⟨#[]⟩, .slice none 0 0, .slice none 0 0, .slice none 0 0, .int .i64 pa] 49)) Rd.lbrc ⟨#[123]⟩ 9 rfl
    rw [show (w2.alloc (.cells #[.int .i64 1, .string ⟨#[]⟩, .slice none 0 0, .slice none 0 0, .slice none 0 0, .int .i64 pa] 49)).heap.size = w2.heap.size + 1 by simp] at h1
    exact Lib.hid h1
  have k2 := blk_cell (HF0.out.cb (w.heap.size, Obj.cells #[(.pointer (some ⟨b, 0, none⟩))] 141 (0, 0)) List.mem_cons_self) 0 (.pointer (some ⟨b, 0, none⟩)) rfl
  clear hb2 hpa hlit
  go_wp2_with fail
  refine (ris_any b g s _ [Rd.lbrc] _ ((HF0.out.below HLIT.out).rd) HTX.out (by simp)).mono ?_
  rintro r w3 ⟨rfl, hb3⟩
  rw [show ([Rd.lbrc].any (Rd.isS s)) = Rd.isS s Rd.lbrc by simp]
  clear k2
  have hF1 := (HF0.out.below HLIT.out).below hb3
  obtain ⟨t6, ht6⟩ : ∃ x, x = w2.heap.size := ⟨_, rfl⟩
  rw [← ht6] at hF1 hsz ⊢
  have HF1 := Lib.hid hF1
  obtain ⟨B, hB⟩ : ∃ B, B = Rd.isS s Rd.lbrc := ⟨_, rfl⟩
  have HB := Lib.hid hB
  rw [← hB]
  have n1 : ¬ t6 = w.heap.size := by omega
  have n2 : ¬ w.heap.size = t6 := by omega
  have n3 : ¬ t6 = w.heap.size + 1 := by omega
  have n4 : ¬ w.heap.size + 1 = t6 := by omega
  clear hb3 hF1 hB ht6 HF0 HTX HLIT HBA HA1 HA2
  cases B
  · have hSC : w3.cell? ⟨w.heap.size, 0, none⟩ = some (.pointer (some ⟨b, 0, none⟩)) := blk_cell (HF1.out.cb (w.heap.size, Obj.cells #[(.pointer (some ⟨b, 0, none⟩))] 141 (0, 0)) List.mem_cons_self) 0 (.pointer (some ⟨b, 0, none⟩)) rfl
    go_wp2_with fail
    have HF2 := Lib.hid (HF1.out.below ((Below.refl _ _).drew))
    refine wp_region_phase (fun w' => w'.cell? ⟨w.heap.size, 0, none⟩ = some (.pointer (some ⟨b, 0, none⟩))) 10 (by kernel_rfl) ?_
    refine wpAnyB_take (i := 1) (v := (.pointer (some ⟨b, 0, none⟩))) (by kernel_rfl) (by decide) rfl (by kernel_rfl) (by kernel_rfl) (by kernel_rfl) (fun _ _ _ h => h) (Or.inl ⟨by rfl, fun w hSw => by have s0 := hSw; go_simp; first | done | exact hw | exact hw2⟩) hSC ?_; simp only [Act.put, Array.getInternal_eq_getElem, List.getElem_toArray, List.getElem_cons_zero, List.getElem_cons_succ, List.setIfInBounds_toArray, List.set_cons_zero, List.set_cons_succ]
    refine wpAnyB_take (i := 2) (v := (.pointer (some ⟨b, 0, none⟩))) (by kernel_rfl) (by decide) rfl (by kernel_rfl) (by kernel_rfl) (by kernel_rfl) (fun _ _ _ h => h) (Or.inl ⟨by rfl, fun w hSw => by have s0 := hSw; go_simp; first | done | exact hw | exact hw2⟩) hSC ?_; simp only [Act.put, Array.getInternal_eq_getElem, List.getElem_toArray, List.getElem_cons_zero, List.getElem_cons_succ, List.setIfInBounds_toArray, List.set_cons_zero, List.set_cons_succ]
    refine wpAnyB_take (i := 3) (v := (.pointer (some ⟨b, 0, none⟩))) (by kernel_rfl) (by decide) rfl (by kernel_rfl) (by kernel_rfl) (by kernel_rfl) (fun _ _ _ h => h) (Or.inl ⟨by rfl, fun w hSw => by have s0 := hSw; go_simp; first | done | exact hw | exact hw2⟩) hSC ?_; simp only [Act.put, Array.getInternal_eq_getElem, List.getElem_toArray, List.getElem_cons_zero, List.getElem_cons_succ, List.setIfInBounds_toArray, List.set_cons_zero, List.set_cons_succ]
    clear hSC
    refine wpAnyB_one (i := 0) (by kernel_rfl) ?_
    refine wpOp_intro (by decide) (fun K0 HK0 => ?_); simp only [List.drop_succ_cons, List.drop_zero, List.take_succ_cons, List.take_zero]
    go_wp2_with fail
    refine (kinds_any _).mono ?_
    rintro r w4 ⟨rfl, f, hx⟩
    have HF3 := Lib.hid (HF2.out.below ⟨f.os, f.tape, f.output, f.size, f.block⟩)
    have HX3 := Lib.hid hx
    clear f hx
    go_wp2_with fail
    refine HK0.out _ _ ⟨fun _ => blk_cell (HF3.out.cb (w.heap.size, Obj.cells #[(.pointer (some ⟨b, 0, none⟩))] 141 (0, 0)) List.mem_cons_self) 0 (.pointer (some ⟨b, 0, none⟩)) rfl, ?_⟩
    clear HK0
    refine wpAnyB_one (i := 4) (by kernel_rfl) ?_
    refine wpOp_intro (by decide) (fun K4 HK4 => ?_); simp only [List.drop_succ_cons, List.drop_zero, List.take_succ_cons, List.take_zero]
    go_wp2_with fail
    refine (rnext_any b g s w4 HF3.out.rd).mono ?_
    rintro r w5 ⟨rfl, h5, f5⟩
    have HF4 := Lib.hid (HF3.out.step h5 f5)
    have HX4 : Hid (Txts w5 (.slice (some ⟨w3.heap.size, 0, none⟩) 3 3) Qr.kinds) := by
      obtain ⟨a, cap, e, hh⟩ := HX3.out
      refine Lib.hid ⟨a, cap, e, fun i t ht => ?_⟩
      obtain ⟨b', off, e', hlt, hc⟩ := hh i t ht
      have h0 := e.symm.trans rfl
      simp only [Value.slice.injEq] at e
      obtain ⟨rfl, -, -⟩ := e
      simp only [Option.some.injEq, Addr.mk.injEq] at e'
      obtain ⟨rfl, rfl, -⟩ := e'
      have hbb : w3.heap.size ≠ b := by have := HF1.out.lb; have := HF1.out.fr.size; omega
      exact ⟨_, _, rfl, Nat.lt_of_lt_of_le hlt f5.size, by rw [f5.cell (p := ⟨w3.drew.heap.size, _, none⟩) hlt hbb]; exact hc⟩
    obtain ⟨tx, htx⟩ : ∃ x, x = (Rd.peek s).text := ⟨_, rfl⟩
    rw [← htx]
    have HTXX := Lib.hid htx
    clear h5 f5 htx
    go_wp2_with fail
    have hSC := blk_cell (HF4.out.cb (w.heap.size, Obj.cells #[(.pointer (some ⟨b, 0, none⟩))] 141 (0, 0)) List.mem_cons_self) 0 (.pointer (some ⟨b, 0, none⟩)) rfl
    refine HK4.out _ _ ⟨fun _ => hSC, ?_⟩
    clear HK4
    refine wpAnyB_take (i := 5) (v := (.string ⟨tx.toArray⟩)) (by kernel_rfl) (by decide) rfl (by kernel_rfl) (by kernel_rfl) (by kernel_rfl) (fun _ _ _ h => h) (Or.inl ⟨by rfl, fun w hSw => by have s0 := hSw; go_simp; first | done | exact hw | exact hw2⟩) hSC ?_; simp only [Act.put, Array.getInternal_eq_getElem, List.getElem_toArray, List.getElem_cons_zero, List.getElem_cons_succ, List.setIfInBounds_toArray, List.set_cons_zero, List.set_cons_succ]
    clear hSC
    refine wpAnyB_one (i := 6) (by kernel_rfl) ?_
    refine wpOp_intro (by decide) (fun K6 HK6 => ?_); simp only [List.drop_succ_cons, List.drop_zero, List.take_succ_cons, List.take_zero]
    go_wp2_with fail
    refine (idxk_any w5 _ _ tx HX4.out).mono ?_
    rintro r w7 ⟨rfl, rfl⟩
    go_wp2_with fail
    have hSC := blk_cell (HF4.out.cb (w.heap.size, Obj.cells #[(.pointer (some ⟨b, 0, none⟩))] 141 (0, 0)) List.mem_cons_self) 0 (.pointer (some ⟨b, 0, none⟩)) rfl
    refine HK6.out _ _ ⟨fun _ => hSC, ?_⟩
    clear HK6
    have hk := idxk tx
    have hkl := kindsOf_le tx
    obtain ⟨q, hq⟩ : ∃ q, q = Lib.idxOfS (List.map (fun s => (⟨s.toArray⟩ : ByteArray)) Qr.kinds) ⟨tx.toArray⟩ := ⟨_, rfl⟩
    rw [← hq] at hk ⊢
    clear hq
    have hq0 : -1 ≤ q := by omega
    have hq1 : q ≤ 5 := by omega
    obtain ⟨kd, hkd⟩ : ∃ x, x = Qr.kindOf tx := ⟨_, rfl⟩
    rw [← hkd] at hk hkl
    have HKD := Lib.hid hkd
    clear hkd
    have hw : IntKind.i64.wrap (kd : Int) = kd := by rw [IntKind.wrap_i64]; omega
    have hw2 : IntKind.i64.wrap (1 + q) = kd := by rw [hk]; exact hw
    refine wpAnyB_take (i := 7) (v := (.int .i64 kd)) (by kernel_rfl) (by decide) rfl (by kernel_rfl) (by kernel_rfl) (by kernel_rfl) (fun _ _ _ h => h) (Or.inl ⟨by rfl, fun w hSw => by have s0 := hSw; go_simp; first | done | exact hw | exact hw2⟩) hSC ?_; simp only [Act.put, Array.getInternal_eq_getElem, List.getElem_toArray, List.getElem_cons_zero, List.getElem_cons_succ, List.setIfInBounds_toArray, List.set_cons_zero, List.set_cons_succ]
    refine wpAnyB_take (i := 8) (v := (.pointer (some ⟨t6, 0, none⟩))) (by kernel_rfl) (by decide) rfl (by kernel_rfl) (by kernel_rfl) (by kernel_rfl) (fun _ _ _ h => h) (Or.inl ⟨by rfl, fun w hSw => by have s0 := hSw; go_simp; first | done | exact hw | exact hw2⟩) hSC ?_; simp only [Act.put, Array.getInternal_eq_getElem, List.getElem_toArray, List.getElem_cons_zero, List.getElem_cons_succ, List.setIfInBounds_toArray, List.set_cons_zero, List.set_cons_succ]
    clear hSC hw hw2 hk hq0 hq1
    refine wpAnyB_one (i := 9) (by kernel_rfl) ?_
    refine wpOp_intro (by decide) (fun K9 HK9 => ?_); simp only [List.drop_succ_cons, List.drop_zero, List.take_succ_cons, List.take_zero]
    have y0 := blk_cell HF4.out.b6 0 (.int .i64 1) rfl
    have yf0 := blk_free HF4.out.b6 0
    go_wp2_with fail
    have HF5 : Hid (FJ w b g t6 (t6 + 1) [(w.heap.size, Obj.cells #[(.pointer (some ⟨b, 0, none⟩))] 141 (0, 0)), (w.heap.size + 1, Obj.cells #[.int .i64 0, .string ⟨#[]⟩, .slice none 0 0, .slice none 0 0, .slice none 0 0, .int .i64 0] 49 (0, 0))] 49 [.int kd, .str [], .seq 9 [], .seq 3 [], .seq 7 [], .int pa] [.int .i64 kd, .string ⟨#[]⟩, .slice none 0 0, .slice none 0 0, .slice none 0 0, .int .i64 pa] (Rd.next s) (w7.setCell ⟨t6, 0, none⟩ (.int .i64 kd))) := Lib.hid (HF4.out.put 0 (.int _) rfl)
    refine HK9.out _ _ ⟨fun _ => blk_cell (HF5.out.cb (w.heap.size, Obj.cells #[(.pointer (some ⟨b, 0, none⟩))] 141 (0, 0)) List.mem_cons_self) 0 (.pointer (some ⟨b, 0, none⟩)) rfl, ?_⟩
    clear HK9
    refine wpAnyB_done (by kernel_rfl) ?_ _
    rename_i KK hKK
    refine hKK _ _ ?_
    exact op_tail b g n hnb s w HN d0 d1 kd pa t6 (Rd.next s) _ hsz HF5 (Lib.hid (Rd.ok_next s)) (Lib.hid (Rd.next_deep s)) (by rw [HKD.out, HTXX.out, HPA.out]; exact Lib.hid (Qr.op_rest HB.out.symm)) _ _ _ _ _ _ _ _ _ _ _ _ _ _ _ _ _ _ _ _ _ _ _ _
  · obtain ⟨lo, hlo⟩ : ∃ x, x = t6 + 1 := ⟨_, rfl⟩
    have HF2 : Hid (FJ w b g t6 lo [(w.heap.size, Obj.cells #[(.pointer (some ⟨b, 0, none⟩))] 141 (0, 0)), (w.heap.size + 1, Obj.cells #[.int .i64 0, .string ⟨#[]⟩, .slice none 0 0, .slice none 0 0, .slice none 0 0, .int .i64 0] 49 (0, 0))] 49 [.int 1, .str [], .seq 9 [], .seq 3 [], .seq 7 [], .int pa] [.int .i64 1, .string ⟨#[]⟩, .slice none 0 0, .slice none 0 0, .slice none 0 0, .int .i64 pa] s (w3)) := by rw [← hlo] at HF1; exact HF1
    have HOK0 : Hid (Rd.Ok s s) := Lib.hid (Rd.Ok.refl s)
    clear hlo
    have k2 := blk_cell (HF2.out.cb (w.heap.size, Obj.cells #[(.pointer (some ⟨b, 0, none⟩))] 141 (0, 0)) List.mem_cons_self) 0 (.pointer (some ⟨b, 0, none⟩)) rfl
    go_wp2_with fail
    refine (sels_any b g n hnb s _ HF2.out.rd HN.out ⟨d0, d1⟩).mono ?_
    rintro r w41x ⟨ra41, rc41, rfl, hrd, h41, f41⟩
    clear k2
    obtain ⟨q41, hq41⟩ : ∃ x, x = Qr.sels (n + 1) (n + 1) s := ⟨_, rfl⟩
    rw [← hq41] at hrd h41 ⊢
    have HQ41 := Lib.hid hq41
    have hda := HF2.out.data hrd
    obtain ⟨ln41, hln⟩ : ∃ x, x = q41.2.length := ⟨_, rfl⟩
    rw [List.length_map, ← hln] at hda ⊢
    have HOK41x : Hid (Rd.Ok s q41.1) := by rw [HQ41.out]; exact Lib.hid (HOK0.out.trans (Qr.ok_selsOf _ (Qr.ok_sel (n + 1) (n + 1)) _))
    have HDP41x : Hid (q41.1.deep = s.deep) := by rw [HQ41.out, show (Qr.sels (n + 1) (n + 1) _).1.deep = _ from Qr.selsOf_deep _ (Qr.sel_deep (n + 1) (n + 1)) _]; exact (Lib.hid rfl)
    have HC41 : Hid (FJ w b g t6 lo [(w.heap.size, Obj.cells #[(.pointer (some ⟨b, 0, none⟩))] 141 (0, 0)), (w.heap.size + 1, Obj.cells #[.int .i64 0, .string ⟨#[]⟩, .slice none 0 0, .slice none 0 0, .slice none 0 0, .int .i64 0] 49 (0, 0))] 49 [.int 1, .str [], .seq 9 [], .seq 3 [], .seq 7 [], .int pa] [.int .i64 1, .string ⟨#[]⟩, .slice none 0 0, .slice none 0 0, .slice none 0 0, .int .i64 pa] q41.1 (w41x)) := Lib.hid (HF2.out.step h41 f41)
    have HDA41 := Lib.hid hda
    clear hrd h41 f41 hq41 hda hln
    have y4 := blk_cell HC41.out.b6 4 (.slice none 0 0) rfl
    have yf4 := blk_free HC41.out.b6 4
    have HP42 : Hid (FJ w b g t6 lo [(w.heap.size, Obj.cells #[(.pointer (some ⟨b, 0, none⟩))] 141 (0, 0)), (w.heap.size + 1, Obj.cells #[.int .i64 0, .string ⟨#[]⟩, .slice none 0 0, .slice none 0 0, .slice none 0 0, .int .i64 0] 49 (0, 0))] 49 [.int 1, .str [], .seq 9 [], .seq 3 [], .seq 7 (q41.2.map Qr.Sel.d), .int pa] [.int .i64 1, .string ⟨#[]⟩, .slice none 0 0, .slice none 0 0, .slice ra41 ln41 rc41, .int .i64 pa] q41.1 ((w41x).setCell ⟨t6, 4, none⟩ (.slice ra41 ln41 rc41))) := Lib.hid (HC41.out.put 4 (HDA41.out) rfl)
    have HR : Hid (Qr.op (n + 1) s = (q41.1, ⟨1, [], [], [], q41.2, pa⟩)) := by
      refine Lib.hid ?_
      unfold Qr.op
      dsimp only
      rw [if_pos HB.out.symm, ← HQ41.out, ← HPA.out]
    have y0 := blk_cell HC41.out.b6 0 (.int .i64 1) rfl
    have yf0 := blk_free HC41.out.b6 0
    have y1 := blk_cell HC41.out.b6 1 (.string ⟨#[]⟩) rfl
    have yf1 := blk_free HC41.out.b6 1
    have y2 := blk_cell HC41.out.b6 2 (.slice none 0 0) rfl
    have yf2 := blk_free HC41.out.b6 2
    have y3 := blk_cell HC41.out.b6 3 (.slice none 0 0) rfl
    have yf3 := blk_free HC41.out.b6 3
    have y5 := blk_cell HC41.out.b6 5 (.int .i64 pa) rfl
    have yf5 := blk_free HC41.out.b6 5
    have z0 := blk_cell (HC41.out.cb (w.heap.size + 1, Obj.cells #[.int .i64 0, .string ⟨#[]⟩, .slice none 0 0, .slice none 0 0, .slice none 0 0, .int .i64 0] 49 (0, 0)) (List.mem_cons_of_mem _ List.mem_cons_self)) 0 (.int .i64 0) rfl
    have zf0 := blk_free (HC41.out.cb (w.heap.size + 1, Obj.cells #[.int .i64 0, .string ⟨#[]⟩, .slice none 0 0, .slice none 0 0, .slice none 0 0, .int .i64 0] 49 (0, 0)) (List.mem_cons_of_mem _ List.mem_cons_self)) 0
    have z1 := blk_cell (HC41.out.cb (w.heap.size + 1, Obj.cells #[.int .i64 0, .string ⟨#[]⟩, .slice none 0 0, .slice none 0 0, .slice none 0 0, .int .i64 0] 49 (0, 0)) (List.mem_cons_of_mem _ List.mem_cons_self)) 1 (.string ⟨#[]⟩) rfl
    have zf1 := blk_free (HC41.out.cb (w.heap.size + 1, Obj.cells #[.int .i64 0, .string ⟨#[]⟩, .slice none 0 0, .slice none 0 0, .slice none 0 0, .int .i64 0] 49 (0, 0)) (List.mem_cons_of_mem _ List.mem_cons_self)) 1
    have z2 := blk_cell (HC41.out.cb (w.heap.size + 1, Obj.cells #[.int .i64 0, .string ⟨#[]⟩, .slice none 0 0, .slice none 0 0, .slice none 0 0, .int .i64 0] 49 (0, 0)) (List.mem_cons_of_mem _ List.mem_cons_self)) 2 (.slice none 0 0) rfl
    have zf2 := blk_free (HC41.out.cb (w.heap.size + 1, Obj.cells #[.int .i64 0, .string ⟨#[]⟩, .slice none 0 0, .slice none 0 0, .slice none 0 0, .int .i64 0] 49 (0, 0)) (List.mem_cons_of_mem _ List.mem_cons_self)) 2
    have z3 := blk_cell (HC41.out.cb (w.heap.size + 1, Obj.cells #[.int .i64 0, .string ⟨#[]⟩, .slice none 0 0, .slice none 0 0, .slice none 0 0, .int .i64 0] 49 (0, 0)) (List.mem_cons_of_mem _ List.mem_cons_self)) 3 (.slice none 0 0) rfl
    have zf3 := blk_free (HC41.out.cb (w.heap.size + 1, Obj.cells #[.int .i64 0, .string ⟨#[]⟩, .slice none 0 0, .slice none 0 0, .slice none 0 0, .int .i64 0] 49 (0, 0)) (List.mem_cons_of_mem _ List.mem_cons_self)) 3
    have z4 := blk_cell (HC41.out.cb (w.heap.size + 1, Obj.cells #[.int .i64 0, .string ⟨#[]⟩, .slice none 0 0, .slice none 0 0, .slice none 0 0, .int .i64 0] 49 (0, 0)) (List.mem_cons_of_mem _ List.mem_cons_self)) 4 (.slice none 0 0) rfl
    have zf4 := blk_free (HC41.out.cb (w.heap.size + 1, Obj.cells #[.int .i64 0, .string ⟨#[]⟩, .slice none 0 0, .slice none 0 0, .slice none 0 0, .int .i64 0] 49 (0, 0)) (List.mem_cons_of_mem _ List.mem_cons_self)) 4
    have z5 := blk_cell (HC41.out.cb (w.heap.size + 1, Obj.cells #[.int .i64 0, .string ⟨#[]⟩, .slice none 0 0, .slice none 0 0, .slice none 0 0, .int .i64 0] 49 (0, 0)) (List.mem_cons_of_mem _ List.mem_cons_self)) 5 (.int .i64 0) rfl
    have zf5 := blk_free (HC41.out.cb (w.heap.size + 1, Obj.cells #[.int .i64 0, .string ⟨#[]⟩, .slice none 0 0, .slice none 0 0, .slice none 0 0, .int .i64 0] 49 (0, 0)) (List.mem_cons_of_mem _ List.mem_cons_self)) 5
    have hfin := HP42.out.fin (r := w.heap.size + 1) (List.mem_cons_of_mem _ List.mem_cons_self)
    simp only [putCells, Nat.reduceAdd, Nat.zero_add] at hfin
    have HFN := Lib.hid hfin
    clear hfin
    go_wp2_with fail
    refine bodyPost_ret (v := .agg #[.int .i64 1, .string ⟨#[]⟩, .slice none 0 0, .slice none 0 0, .slice ra41 ln41 rc41, .int .i64 pa]) (by simp [results, Tryz.results86, go_sem, z0, z1, z2, z3, z4, z5, n3, n4]) rfl ?_
    rw [HR.out]
    exact ⟨_, rfl, HFN.out⟩
end Go.Proofs.YtabcaljnpahgpaaGreatDoor
namespace Go.Proofs.YtabcaljnpahgpaaGreatDoor
set_option linter.unusedSimpArgs false
set_option linter.unusedVariables false
open Go Go.RowKit

/-- Blocks from lo on that are neither row's own. -/
def Free2 (lo : Nat) (v1 v2 : Value) (x : Nat) : Prop := lo ≤ x ∧ v1.ownBlock ≠ some x ∧ v2.ownBlock ≠ some x
/-- Two rows of data in the block t6, beside the reader. -/
structure DI (w0 : World) (b g t6 lo : Nat) (T6 : TypeId) (mk : Value → Value → Array Value) (E1 E2 : TypeId) (k1 k2 : Nat) (s : Rd.St) (v1 v2 : Value) (ds1 ds2 : List D) (w : World) : Prop where
  rd : RdAt w b g s
  fr : Fr b w0 w
  lb : b < w0.heap.size
  lg : g < w0.heap.size
  l6 : w0.heap.size ≤ t6 ∧ t6 < lo
  hi : lo ≤ w.heap.size
  b6 : w.heap[t6]? = some (.cells (mk v1 v2) T6 (0, 0))
  g1 : Grows w (Free2 lo v1 v2) lo E1 k1 v1 ds1
  g2 : Grows w (Free2 lo v1 v2) lo E2 k2 v2 ds2
  ne : ∀ x, v1.ownBlock = some x → v2.ownBlock ≠ some x
section
variable {w0 w w' w8 : World} {b g t6 lo : Nat} {T6 : TypeId} {mk : Value → Value → Array Value} {E1 E2 : TypeId} {k1 k2 : Nat} {s s' : Rd.St} {v1 v2 v' : Value} {ds1 ds2 : List D} {d : D} {cs xs : List Value}
theorem DI.swap (h : DI w0 b g t6 lo T6 mk E1 E2 k1 k2 s v1 v2 ds1 ds2 w) : DI w0 b g t6 lo T6 (fun x y => mk y x) E2 E1 k2 k1 s v2 v1 ds2 ds1 w := by
  have e : Stands w (Free2 lo v1 v2) w (Free2 lo v2 v1) := Stands.sub w (fun x _ hp => ⟨hp.1, hp.2.2, hp.2.1⟩)
  exact ⟨h.rd, h.fr, h.lb, h.lg, h.l6, h.hi, h.b6, h.g2.to e (fun x e => ⟨fun hp => hp.2.1 e, rfl⟩), h.g1.to e (fun x e => ⟨fun hp => hp.2.2 e, rfl⟩), fun x e1 e2 => h.ne x e2 e1⟩
theorem DI.step (h : DI w0 b g t6 lo T6 mk E1 E2 k1 k2 s v1 v2 ds1 ds2 w) (hr : RdAt w' b g s') (hf : Fr b w w') : DI w0 b g t6 lo T6 mk E1 E2 k1 k2 s' v1 v2 ds1 ds2 w' := by
  have lb := h.lb
  have l6 := h.l6
  have e : Stands w (Free2 lo v1 v2) w' (Free2 lo v1 v2) := ⟨hf.size, fun x hx hp => ⟨hp, hf.block x hx (by have := hp.1; omega)⟩⟩
  refine ⟨hr, h.fr.trans hf, lb, h.lg, l6, Nat.le_trans h.hi hf.size, by rw [hf.block t6 (block_lt h.b6) (by omega)]; exact h.b6, h.g1.to e (fun x hx => ⟨fun hp => hp.2.1 hx, hf.block x (h.g1.lt x hx).2 (by have := (h.g1.lt x hx).1; omega)⟩), h.g2.to e (fun x hx => ⟨fun hp => hp.2.2 hx, hf.block x (h.g2.lt x hx).2 (by have := (h.g2.lt x hx).1; omega)⟩), h.ne⟩
theorem DI.below (h : DI w0 b g t6 lo T6 mk E1 E2 k1 k2 s v1 v2 ds1 ds2 w) (hb : Below w.heap.size w w') : DI w0 b g t6 lo T6 mk E1 E2 k1 k2 s v1 v2 ds1 ds2 w' := h.step (h.rd.below hb) (But.of_below hb)
/-- A callee's data. -/
theorem DI.data (h : DI w0 b g t6 lo T6 mk E1 E2 k1 k2 s v1 v2 ds1 ds2 w) (hd : Reads w' (fun x => w.heap.size ≤ x) d cs) : Reads w' (Free2 lo v1 v2) d cs :=
  hd.to (Stands.sub w' (fun x _ hp => ⟨Nat.le_trans h.hi hp, fun e => by have h1 := (h.g1.lt x e).2; have h2 : w.heap.size ≤ x := hp; omega, fun e => by have h1 := (h.g2.lt x e).2; have h2 : w.heap.size ≤ x := hp; omega⟩))
/-- The first row: one more. -/
theorem DI.more {j : Nat} (h : DI w0 b g t6 lo T6 mk E1 E2 k1 k2 s v1 v2 ds1 ds2 w) (hx : w.ownsRow lo E1 k1 v1 ds1.length xs) (hR : RowsD w (Free2 lo v1 v2) k1 ds1 xs) (hd : Reads w (Free2 lo v1 v2) d cs)
    (hlen : cs.length = k1) (hg : w.grownBy w8 v1.ownBlock) (hloc : v'.ownBlock = v1.ownBlock ∨ v'.ownBlock = some w.heap.size) (hrow : w8.ownsRow lo E1 k1 v' (ds1.length + 1) (xs ++ cs)) (hmk : (mk v1 v2).setIfInBounds j v' = mk v' v2) :
    DI w0 b g t6 lo T6 mk E1 E2 k1 k2 s v' v2 (ds1 ++ [d]) ds2 (w8.setCell ⟨t6, j, none⟩ v') := by
  have lb := h.lb
  have lg := h.lg
  have l6 := h.l6
  have hlt := hx.lt
  have hW : w.heap.size ≤ (w8.setCell ⟨t6, j, none⟩ v').heap.size := by rw [size_set]; exact hg.size
  have e8 : ∀ x, x < w.heap.size → v1.ownBlock ≠ some x → w8.heap[x]? = w.heap[x]? := fun x hx3 hn => hg.block x hx3 (fun e => hn e.symm)
  have e9 : ∀ x, x < w.heap.size → v1.ownBlock ≠ some x → x ≠ t6 → (w8.setCell ⟨t6, j, none⟩ v').heap[x]? = w.heap[x]? := fun x h1 h2 h3 => by rw [heap_set_ne h3]; exact e8 x h1 h2
  have low : ∀ x, x < lo → v1.ownBlock ≠ some x := fun x hx2 e => by have := hlt x e; omega
  have hst : Stands w (Free2 lo v1 v2) (w8.setCell ⟨t6, j, none⟩ v') (Free2 lo v' v2) := ⟨hW, fun x hx2 hp => ⟨⟨hp.1, fun e => by
    rcases hloc with e2 | e2
    · exact hp.2.1 (by rw [← e2]; exact e)
    · rw [e2] at e
      simp only [Option.some.injEq] at e
      omega, hp.2.2⟩, e9 x hx2 hp.2.1 (by have := hp.1; omega)⟩⟩
  have ht6 := block_lt h.b6
  refine ⟨h.rd.to hW (e9 b h.rd.lt.1 (low b (by omega)) (by omega)) (e9 g h.rd.lt.2 (low g (by omega)) (by omega)), ?_, lb, lg, l6, Nat.le_trans h.hi hW, ?_, ⟨⟨xs ++ cs, ?_, (hR.to hst).snoc (hd.to hst) hlen⟩, fun x e hp => hp.2.1 e⟩, h.g2.to hst (fun x e => ⟨fun hp => hp.2.2 e, e9 x (h.g2.lt x e).2 (fun e1 => h.ne x e1 e) (by have := (h.g2.lt x e).1; omega)⟩), fun x e1 e2 => ?_⟩
  · have hf := h.fr
    exact ⟨hg.os.trans hf.os, hg.tape.trans hf.tape, hg.output.trans hf.output, Nat.le_trans hf.size hW, fun x hx2 hxb => by
      rw [e9 x (Nat.lt_of_lt_of_le hx2 hf.size) (low x (by omega)) (by omega)]
      exact hf.block x hx2 hxb⟩
  · rw [heap_set1 (cs := mk v1 v2) (T := T6) (fz := (0, 0)) (by rw [e8 t6 ht6 (low t6 l6.2)]; exact h.b6), hmk]
  · rw [List.length_append]
    refine row_to hrow (fun x e => heap_set_ne ?_)
    have := (hrow.lt x e).1
    omega
  · rcases hloc with e3 | e3
    · exact h.ne x (by rw [← e3]; exact e1) e2
    · rw [e3] at e1
      simp only [Option.some.injEq] at e1
      have := (h.g2.lt x e2).2
      omega
/-- Both rows, told as data. -/
theorem DI.reads (h : DI w0 b g t6 lo T6 mk E1 E2 k1 k2 s v1 v2 ds1 ds2 w) : Reads w (fun x => lo ≤ x) (.seq k1 ds1) [v1] ∧ Reads w (fun x => lo ≤ x) (.seq k2 ds2) [v2] :=
  ⟨h.g1.reads.to (Stands.sub w (fun x _ hp => by
    rcases hp with hp | hp
    · exact hp.1
    · exact (h.g1.lt x hp).1)), h.g2.reads.to (Stands.sub w (fun x _ hp => by
    rcases hp with hp | hp
    · exact hp.1
    · exact (h.g2.lt x hp).1))⟩
end
end Go.Proofs.YtabcaljnpahgpaaGreatDoor
