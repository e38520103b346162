/-
  The reader of documents: a field, walked, a selection set's walk being given.
-/
import Derived.Test.YtabcaljnpahgpaaGreatDoorK21
import Derived.Test.YtabcaljnpahgpaaGreatDoorK10
namespace Go.Proofs.YtabcaljnpahgpaaGreatDoor
set_option linter.unusedSimpArgs false
set_option linter.unusedVariables false
open Go Go.RowKit

/-- A selection set's walk, from states that come behind s. -/
def SelsC (b g n : Nat) (f : Rd.St → Rd.St × Qr.Sel) (s : Rd.St) : Prop := ∀ (s1 : Rd.St) (w1 : World), RdAt w1 b g s1 → s1.rest.length ≤ n → s1.deep = s.deep → s.err = 0 → (s1.err ≠ 0 ∨ s1.rest.length < s.rest.length) →
  Calls Tryz.prog 116 #[.pointer (some ⟨b, 0, none⟩)] w1 (GotL b g w1 7 ((Qr.selsOf f s1).2.map Qr.Sel.d) (Qr.selsOf f s1).1)
set_option maxHeartbeats 4000000 in
set_option maxRecDepth 100000 in
theorem field_step (b g n a : Nat) (hnb : n ≤ 1600) (f : Rd.St → Rd.St × Qr.Sel) (s : Rd.St) (hS : SelsC b g n f s) (w : World) (h : RdAt w b g s) (hn : s.rest.length ≤ n) (hd : 0 ≤ s.deep ∧ s.deep ≤ 800000) :
    Calls Tryz.prog 166 #[.pointer (some ⟨b, 0, none⟩), .agg #[.int .i64 0, .string ⟨#[]⟩, .string ⟨#[]⟩, .slice none 0 0, .slice none 0 0, .slice none 0 0, .int .i64 a]] w (Got b g w (Qr.fieldOf f (n + 1) a s).2.d (Qr.fieldOf f (n + 1) a s).1) := by
  have hlb := h.lt
  have HS := Lib.hid hS
  have HN := Lib.hid hn
  obtain ⟨d0, d1⟩ := hd
  have HF0 : Hid (FJ w b g w.heap.size (w.heap.size + 2) [(w.heap.size + 1, Obj.cells #[.int .i64 0, .string ⟨#[]⟩, .string ⟨#[]⟩, .slice none 0 0, .slice none 0 0, .slice none 0 0, .int .i64 0] 92 (0, 0))] 92 [.int 0, .str [], .str [], .seq 7 [], .seq 3 [], .seq 7 [], .int a] [.int .i64 0, .string ⟨#[]⟩, .string ⟨#[]⟩, .slice none 0 0, .slice none 0 0, .slice none 0 0, .int .i64 a] s ((w.alloc (.cells #[.int .i64 0, .string ⟨#[]⟩, .string ⟨#[]⟩, .slice none 0 0, .slice none 0 0, .slice none 0 0, .int .i64 a] 92)).alloc (.cells #[.int .i64 0, .string ⟨#[]⟩, .string ⟨#[]⟩, .slice none 0 0, .slice none 0 0, .slice none 0 0, .int .i64 0] 92))) := by
    have hbb : Below w.heap.size w ((w.alloc (.cells #[.int .i64 0, .string ⟨#[]⟩, .string ⟨#[]⟩, .slice none 0 0, .slice none 0 0, .slice none 0 0, .int .i64 a] 92)).alloc (.cells #[.int .i64 0, .string ⟨#[]⟩, .string ⟨#[]⟩, .slice none 0 0, .slice none 0 0, .slice none 0 0, .int .i64 0] 92)) := ((Below.refl _ _).alloc (Nat.le_refl _) _).alloc (by simp) _
    refine Lib.hid ⟨h.below hbb, fun p hp => ?_, ?_, But.of_below hbb, hlb.1, hlb.2, fun p hp => ?_, ⟨Nat.le_refl _, by omega⟩, by simp, .cons (.int _) (.cons (.str []) (.cons (.str []) (.cons (.seq (cap := 0) .nil) (.cons (.seq (cap := 0) .nil) (.cons (.seq (cap := 0) .nil) (.cons (.int _) .nil))))))⟩
    · rw [List.mem_singleton.1 hp]
      have := heap_at_new (w.alloc (.cells #[.int .i64 0, .string ⟨#[]⟩, .string ⟨#[]⟩, .slice none 0 0, .slice none 0 0, .slice none 0 0, .int .i64 a] 92)) (.cells #[.int .i64 0, .string ⟨#[]⟩, .string ⟨#[]⟩, .slice none 0 0, .slice none 0 0, .slice none 0 0, .int .i64 0] 92)
      rw [show (w.alloc (.cells #[.int .i64 0, .string ⟨#[]⟩, .string ⟨#[]⟩, .slice none 0 0, .slice none 0 0, .slice none 0 0, .int .i64 a] 92)).heap.size = w.heap.size + 1 by simp] at this
      exact this
    · rw [Lib.alloc_old _ _ _ (by simp)]; exact heap_at_new _ _
    · rw [List.mem_singleton.1 hp]
      simp only
      omega
  clear h hS hn
  go_enter Tryz.func166, Tryz.ntmps166
  go_wp2_with fail
  refine (rname_any b g s _ HF0.out.rd).mono ?_
  rintro r w1 ⟨rfl, h1, f1⟩
  obtain ⟨s1, hs1⟩ : ∃ x, x = (Rd.name s).1 := ⟨_, rfl⟩
  obtain ⟨nm, hnm⟩ : ∃ x, x = (Rd.name s).2 := ⟨_, rfl⟩
  rw [← hs1] at h1
  rw [← hnm]
  have HF1 := Lib.hid (HF0.out.step h1 f1)
  have HS1 := Lib.hid hs1
  have HNM := Lib.hid hnm
  have HF2 := Lib.hid ((HF1.out.put 0 (.int 1) rfl).put 2 (.str nm) rfl)
  clear h1 f1 hs1 hnm
  have y0 := blk_cell HF1.out.b6 0 (.int .i64 0) rfl
  have yf0 := blk_free HF1.out.b6 0
  have y1 := blk_cell HF1.out.b6 1 (.string ⟨#[]⟩) rfl
  have yf1 := blk_free HF1.out.b6 1
  have y2 := blk_cell HF1.out.b6 2 (.string ⟨#[]⟩) rfl
  have yf2 := blk_free HF1.out.b6 2
  go_wp2_with fail
  refine (rtake_any b g s1 Rd.colon _ HF2.out.rd).mono ?_
  rintro r w2 ⟨rfl, h2, f2⟩
  have HF3 := Lib.hid (HF2.out.step h2 f2)
  obtain ⟨B, hB⟩ : ∃ B, B = Rd.isS s1 Rd.colon := ⟨_, rfl⟩
  have HB := Lib.hid hB
  rw [← hB]
  clear h2 f2 hB
  clear y0 yf0 y1 yf1 y2 yf2
  cases B
  · have HT : Hid (Rd.take Rd.colon s1 = s1) := by unfold Rd.take; rw [if_neg (by rw [← HB.out]; simp)]; exact Lib.hid rfl
    have HX : Hid (FJ w b g w.heap.size (w.heap.size + 2) [(w.heap.size + 1, Obj.cells #[.int .i64 0, .string ⟨#[]⟩, .string ⟨#[]⟩, .slice none 0 0, .slice none 0 0, .slice none 0 0, .int .i64 0] 92 (0, 0))] 92 [.int 1, .str ([] : List UInt8), .str nm, .seq 7 [], .seq 3 [], .seq 7 [], .int a] [.int .i64 1, .string ⟨([] : List UInt8).toArray⟩, .string ⟨nm.toArray⟩, .slice none 0 0, .slice none 0 0, .slice none 0 0, .int .i64 a] s1 (w2)) := by rw [HT.out] at HF3; exact HF3
    have HAL : Hid (Qr.aliasOf s = (s1, (([] : List UInt8), nm))) := by unfold Qr.aliasOf; rw [← HS1.out, ← HNM.out, if_neg (by rw [← HB.out]; simp)]; exact Lib.hid rfl
    have HOKX : Hid (Rd.Ok s s1) := by have := Qr.ok_aliasOf s; rw [HAL.out] at this; exact Lib.hid this
    have HDPX : Hid (s1.deep = s.deep) := by have := Qr.aliasOf_deep s; rw [HAL.out] at this; exact Lib.hid this
    have HGX : Hid (s.err = 0 → s1.err ≠ 0 ∨ s1.rest.length < s.rest.length) := by have := @Qr.aliasOf_goes s; rw [HAL.out] at this; exact Lib.hid this
    go_wp2_with fail
    refine (rargs_any b g false n hnb s1 _ HX.out.rd (Nat.le_trans HOKX.out.len HN.out) (by rw [HDPX.out]; omega)).mono ?_
    rintro r w4 ⟨a4, k4, rfl, hrd, h4, f4⟩
    obtain ⟨q, hq⟩ : ∃ x, x = Rd.args false (n + 1) s1 := ⟨_, rfl⟩
    rw [← hq] at hrd h4 ⊢
    have HQ := Lib.hid hq
    have hda := HX.out.data hrd
    obtain ⟨l4, hl4⟩ : ∃ x, x = q.2.length := ⟨_, rfl⟩
    rw [List.length_map, ← hl4] at hda ⊢
    have HF5 := Lib.hid (HX.out.step h4 f4)
    have HF6 : Hid (FJ w b g w.heap.size (w.heap.size + 2) [(w.heap.size + 1, Obj.cells #[.int .i64 0, .string ⟨#[]⟩, .string ⟨#[]⟩, .slice none 0 0, .slice none 0 0, .slice none 0 0, .int .i64 0] 92 (0, 0))] 92 [.int 1, .str ([] : List UInt8), .str nm, .seq 7 (q.2.map Rd.A.d), .seq 3 [], .seq 7 [], .int a] [.int .i64 1, .string ⟨([] : List UInt8).toArray⟩, .string ⟨nm.toArray⟩, .slice a4 l4 k4, .slice none 0 0, .slice none 0 0, .int .i64 a] q.1 (w4.setCell ⟨w.heap.size, 3, none⟩ (.slice a4 l4 k4))) := Lib.hid (HF5.out.put 3 hda rfl)
    have HOKQ : Hid (Rd.Ok s q.1) := by rw [HQ.out]; exact Lib.hid (HOKX.out.trans (Rd.ok_args false (n + 1) _))
    have HOKQ2 : Hid (Rd.Ok s1 q.1) := by rw [HQ.out]; exact Lib.hid (Rd.ok_args false (n + 1) _)
    have HDPQ : Hid (q.1.deep = s.deep) := by rw [HQ.out, Rd.args_deep, HDPX.out]; exact Lib.hid rfl
    clear hrd h4 f4 hq hda hl4
    have y3 := blk_cell HF5.out.b6 3 (.slice none 0 0) rfl
    have yf3 := blk_free HF5.out.b6 3
    go_wp2_with fail
    refine (dirs_any b g n hnb q.1 _ HF6.out.rd (Nat.le_trans HOKQ.out.len HN.out) (by rw [HDPQ.out]; omega)).mono ?_
    rintro r w5 ⟨a5, k5, rfl, hrd, h5, f5⟩
    obtain ⟨e, he⟩ : ∃ x, x = Qr.dirs (n + 1) q.1 := ⟨_, rfl⟩
    rw [← he] at hrd h5 ⊢
    have HE := Lib.hid he
    have hda := HF6.out.data hrd
    obtain ⟨l5, hl5⟩ : ∃ x, x = e.2.length := ⟨_, rfl⟩
    rw [List.length_map, ← hl5] at hda ⊢
    have HF7 := Lib.hid (HF6.out.step h5 f5)
    have HF8 : Hid (FJ w b g w.heap.size (w.heap.size + 2) [(w.heap.size + 1, Obj.cells #[.int .i64 0, .string ⟨#[]⟩, .string ⟨#[]⟩, .slice none 0 0, .slice none 0 0, .slice none 0 0, .int .i64 0] 92 (0, 0))] 92 [.int 1, .str ([] : List UInt8), .str nm, .seq 7 (q.2.map Rd.A.d), .seq 3 (e.2.map Qr.Dir.d), .seq 7 [], .int a] [.int .i64 1, .string ⟨([] : List UInt8).toArray⟩, .string ⟨nm.toArray⟩, .slice a4 l4 k4, .slice a5 l5 k5, .slice none 0 0, .int .i64 a] e.1 (w5.setCell ⟨w.heap.size, 4, none⟩ (.slice a5 l5 k5))) := Lib.hid (HF7.out.put 4 hda rfl)
    have HOKE : Hid (Rd.Ok s e.1) := by rw [HE.out]; exact Lib.hid (HOKQ.out.trans (Qr.ok_dirs (n + 1) _))
    have HOKE2 : Hid (Rd.Ok s1 e.1) := by rw [HE.out]; exact Lib.hid (HOKQ2.out.trans (Qr.ok_dirs (n + 1) _))
    have HDPE : Hid (e.1.deep = s.deep) := by rw [HE.out, Qr.dirs_deep, HDPQ.out]; exact Lib.hid rfl
    clear hrd h5 f5 he hda hl5 y3 yf3
    have y4 := blk_cell HF7.out.b6 4 (.slice none 0 0) rfl
    have yf4 := blk_free HF7.out.b6 4
    have HBL : Hid (Below (w5.setCell ⟨w.heap.size, 4, none⟩ (.slice a5 l5 k5)).heap.size (w5.setCell ⟨w.heap.size, 4, none⟩ (.slice a5 l5 k5)) ((w5.setCell ⟨w.heap.size, 4, none⟩ (.slice a5 l5 k5)).alloc (.cells #[.string ⟨#[123]⟩] 9))) := Lib.hid ((Below.refl _ _).alloc (Nat.le_refl _) _)
    have HTX : Hid (Txts ((w5.setCell ⟨w.heap.size, 4, none⟩ (.slice a5 l5 k5)).alloc (.cells #[.string ⟨#[123]⟩] 9)) (.slice (some ⟨w5.heap.size, 0, none⟩) 1 1) [Rd.lbrc]) := by
      have h1 := txts_one (w5.setCell ⟨w.heap.size, 4, none⟩ (.slice a5 l5 k5)) Rd.lbrc ⟨#[123]⟩ 9 rfl
      rw [size_set] at h1
      exact Lib.hid h1
    go_wp2_with fail
    refine (ris_any b g e.1 _ [Rd.lbrc] _ ((HF8.out.below HBL.out).rd) HTX.out (by simp)).mono ?_
    rintro r w6 ⟨rfl, hb6⟩
    rw [show ([Rd.lbrc].any (Rd.isS e.1)) = Rd.isS e.1 Rd.lbrc by simp]
    have HF9 := Lib.hid ((HF8.out.below HBL.out).below hb6)
    obtain ⟨C, hC⟩ : ∃ C, C = Rd.isS e.1 Rd.lbrc := ⟨_, rfl⟩
    have HC := Lib.hid hC
    rw [← hC]
    clear hC hb6 y4 yf4
    cases C
    · have HZ : Hid (Qr.setIf f e.1 = (e.1, [])) := by unfold Qr.setIf; rw [if_neg (by rw [← HC.out]; simp)]; exact Lib.hid rfl
      have n1 : ¬ w.heap.size = w.heap.size + 1 := by omega
      have n2 : ¬ w.heap.size + 1 = w.heap.size := by omega
      have HR : Hid (Qr.fieldOf f (n + 1) a s = (e.1, (.mk 1 ([] : List UInt8) nm q.2 e.2 [] a))) := by
        refine Lib.hid ?_
        unfold Qr.fieldOf
        dsimp only
        rw [HAL.out, ← HQ.out, ← HE.out, HZ.out]
      have y0 := blk_cell HF9.out.b6 0 (.int .i64 1) rfl
      have yf0 := blk_free HF9.out.b6 0
      have y1 := blk_cell HF9.out.b6 1 (.string ⟨([] : List UInt8).toArray⟩) rfl
      have yf1 := blk_free HF9.out.b6 1
      have y2 := blk_cell HF9.out.b6 2 (.string ⟨nm.toArray⟩) rfl
      have yf2 := blk_free HF9.out.b6 2
      have y3 := blk_cell HF9.out.b6 3 (.slice a4 l4 k4) rfl
      have yf3 := blk_free HF9.out.b6 3
      have y4 := blk_cell HF9.out.b6 4 (.slice a5 l5 k5) rfl
      have yf4 := blk_free HF9.out.b6 4
      have y5 := blk_cell HF9.out.b6 5 (.slice none 0 0) rfl
      have yf5 := blk_free HF9.out.b6 5
      have y6 := blk_cell HF9.out.b6 6 (.int .i64 a) rfl
      have yf6 := blk_free HF9.out.b6 6
      have z0 := blk_cell (HF9.out.cb _ (List.mem_singleton.2 rfl)) 0 (.int .i64 0) rfl
      have zf0 := blk_free (HF9.out.cb _ (List.mem_singleton.2 rfl)) 0
      have z1 := blk_cell (HF9.out.cb _ (List.mem_singleton.2 rfl)) 1 (.string ⟨#[]⟩) rfl
      have zf1 := blk_free (HF9.out.cb _ (List.mem_singleton.2 rfl)) 1
      have z2 := blk_cell (HF9.out.cb _ (List.mem_singleton.2 rfl)) 2 (.string ⟨#[]⟩) rfl
      have zf2 := blk_free (HF9.out.cb _ (List.mem_singleton.2 rfl)) 2
      have z3 := blk_cell (HF9.out.cb _ (List.mem_singleton.2 rfl)) 3 (.slice none 0 0) rfl
      have zf3 := blk_free (HF9.out.cb _ (List.mem_singleton.2 rfl)) 3
      have z4 := blk_cell (HF9.out.cb _ (List.mem_singleton.2 rfl)) 4 (.slice none 0 0) rfl
      have zf4 := blk_free (HF9.out.cb _ (List.mem_singleton.2 rfl)) 4
      have z5 := blk_cell (HF9.out.cb _ (List.mem_singleton.2 rfl)) 5 (.slice none 0 0) rfl
      have zf5 := blk_free (HF9.out.cb _ (List.mem_singleton.2 rfl)) 5
      have z6 := blk_cell (HF9.out.cb _ (List.mem_singleton.2 rfl)) 6 (.int .i64 0) rfl
      have zf6 := blk_free (HF9.out.cb _ (List.mem_singleton.2 rfl)) 6
      have hfin := HF9.out.fin (r := w.heap.size + 1) (List.mem_singleton.2 rfl)
      simp only [putCells, Nat.reduceAdd, Nat.zero_add] at hfin
      have HFN := Lib.hid hfin
      clear hfin
      go_wp2_with fail
      refine bodyPost_ret (v := .agg #[.int .i64 1, .string ⟨([] : List UInt8).toArray⟩, .string ⟨nm.toArray⟩, .slice a4 l4 k4, .slice a5 l5 k5, .slice none 0 0, .int .i64 a]) (by simp [results, Tryz.results166, go_sem, z0, z1, z2, z3, z4, z5, z6, n1, n2]) rfl ?_
      rw [HR.out]
      unfold Qr.Sel.d
      rw [Qr.Sel.dl_map]
      exact ⟨_, rfl, HFN.out⟩
    · have HZ : Hid (Qr.setIf f e.1 = Qr.selsOf f e.1) := by unfold Qr.setIf; rw [if_pos HC.out.symm]; exact Lib.hid rfl
      have HEZ : Hid (e.1.err = 0) := Lib.hid (by have := HC.out.symm; unfold Rd.isS at this; simp only [Bool.and_eq_true, decide_eq_true_eq] at this; exact this.1.1)
      have HSZ : Hid (s.err = 0) := by
        refine Lib.hid ?_
        by_cases h0 : s.err = 0
        · exact h0
        · have := HOKE.out.err h0
          have h2 := HEZ.out
          rw [this] at h2
          exact absurd h2 h0
      go_wp2_with fail
      refine (HS.out e.1 w6 HF9.out.rd (Nat.le_trans HOKE.out.len HN.out) HDPE.out HSZ.out ?_).mono ?_
      · rcases HGX.out HSZ.out with hx | hx
        · left; rw [HOKE2.out.err hx]; exact hx
        · right; exact Nat.lt_of_le_of_lt HOKE2.out.len hx
      rintro r w7 ⟨a6, k6, rfl, hrd, h7, f7⟩
      obtain ⟨z, hz⟩ : ∃ x, x = Qr.selsOf f e.1 := ⟨_, rfl⟩
      rw [← hz] at hrd h7 HZ ⊢
      have hda := HF9.out.data hrd
      obtain ⟨l6, hl6⟩ : ∃ x, x = z.2.length := ⟨_, rfl⟩
      rw [List.length_map, ← hl6] at hda ⊢
      have HFA := Lib.hid (HF9.out.step h7 f7)
      have HFB : Hid (FJ w b g w.heap.size (w.heap.size + 2) [(w.heap.size + 1, Obj.cells #[.int .i64 0, .string ⟨#[]⟩, .string ⟨#[]⟩, .slice none 0 0, .slice none 0 0, .slice none 0 0, .int .i64 0] 92 (0, 0))] 92 [.int 1, .str ([] : List UInt8), .str nm, .seq 7 (q.2.map Rd.A.d), .seq 3 (e.2.map Qr.Dir.d), .seq 7 (z.2.map Qr.Sel.d), .int a] [.int .i64 1, .string ⟨([] : List UInt8).toArray⟩, .string ⟨nm.toArray⟩, .slice a4 l4 k4, .slice a5 l5 k5, .slice a6 l6 k6, .int .i64 a] z.1 (w7.setCell ⟨w.heap.size, 5, none⟩ (.slice a6 l6 k6))) := Lib.hid (HFA.out.put 5 hda rfl)
      clear hrd h7 f7 hz hda hl6
      have n1 : ¬ w.heap.size = w.heap.size + 1 := by omega
      have n2 : ¬ w.heap.size + 1 = w.heap.size := by omega
      have HR : Hid (Qr.fieldOf f (n + 1) a s = (z.1, (.mk 1 ([] : List UInt8) nm q.2 e.2 z.2 a))) := by
        refine Lib.hid ?_
        unfold Qr.fieldOf
        dsimp only
        rw [HAL.out, ← HQ.out, ← HE.out, HZ.out]
      have y0 := blk_cell HFA.out.b6 0 (.int .i64 1) rfl
      have yf0 := blk_free HFA.out.b6 0
      have y1 := blk_cell HFA.out.b6 1 (.string ⟨([] : List UInt8).toArray⟩) rfl
      have yf1 := blk_free HFA.out.b6 1
      have y2 := blk_cell HFA.out.b6 2 (.string ⟨nm.toArray⟩) rfl
      have yf2 := blk_free HFA.out.b6 2
      have y3 := blk_cell HFA.out.b6 3 (.slice a4 l4 k4) rfl
      have yf3 := blk_free HFA.out.b6 3
      have y4 := blk_cell HFA.out.b6 4 (.slice a5 l5 k5) rfl
      have yf4 := blk_free HFA.out.b6 4
      have y5 := blk_cell HFA.out.b6 5 (.slice none 0 0) rfl
      have yf5 := blk_free HFA.out.b6 5
      have y6 := blk_cell HFA.out.b6 6 (.int .i64 a) rfl
      have yf6 := blk_free HFA.out.b6 6
      have z0 := blk_cell (HFA.out.cb _ (List.mem_singleton.2 rfl)) 0 (.int .i64 0) rfl
      have zf0 := blk_free (HFA.out.cb _ (List.mem_singleton.2 rfl)) 0
      have z1 := blk_cell (HFA.out.cb _ (List.mem_singleton.2 rfl)) 1 (.string ⟨#[]⟩) rfl
      have zf1 := blk_free (HFA.out.cb _ (List.mem_singleton.2 rfl)) 1
      have z2 := blk_cell (HFA.out.cb _ (List.mem_singleton.2 rfl)) 2 (.string ⟨#[]⟩) rfl
      have zf2 := blk_free (HFA.out.cb _ (List.mem_singleton.2 rfl)) 2
      have z3 := blk_cell (HFA.out.cb _ (List.mem_singleton.2 rfl)) 3 (.slice none 0 0) rfl
      have zf3 := blk_free (HFA.out.cb _ (List.mem_singleton.2 rfl)) 3
      have z4 := blk_cell (HFA.out.cb _ (List.mem_singleton.2 rfl)) 4 (.slice none 0 0) rfl
      have zf4 := blk_free (HFA.out.cb _ (List.mem_singleton.2 rfl)) 4
      have z5 := blk_cell (HFA.out.cb _ (List.mem_singleton.2 rfl)) 5 (.slice none 0 0) rfl
      have zf5 := blk_free (HFA.out.cb _ (List.mem_singleton.2 rfl)) 5
      have z6 := blk_cell (HFA.out.cb _ (List.mem_singleton.2 rfl)) 6 (.int .i64 0) rfl
      have zf6 := blk_free (HFA.out.cb _ (List.mem_singleton.2 rfl)) 6
      have hfin := HFB.out.fin (r := w.heap.size + 1) (List.mem_singleton.2 rfl)
      simp only [putCells, Nat.reduceAdd, Nat.zero_add] at hfin
      have HFN := Lib.hid hfin
      clear hfin
      go_wp2_with fail
      refine bodyPost_ret (v := .agg #[.int .i64 1, .string ⟨([] : List UInt8).toArray⟩, .string ⟨nm.toArray⟩, .slice a4 l4 k4, .slice a5 l5 k5, .slice a6 l6 k6, .int .i64 a]) (by simp [results, Tryz.results166, go_sem, z0, z1, z2, z3, z4, z5, z6, n1, n2]) rfl ?_
      rw [HR.out]
      unfold Qr.Sel.d
      rw [Qr.Sel.dl_map]
      exact ⟨_, rfl, HFN.out⟩
  · have HT : Hid (Rd.take Rd.colon s1 = Rd.next s1) := by unfold Rd.take; rw [if_pos HB.out.symm]; exact Lib.hid rfl
    have HF4 : Hid (FJ w b g w.heap.size (w.heap.size + 2) [(w.heap.size + 1, Obj.cells #[.int .i64 0, .string ⟨#[]⟩, .string ⟨#[]⟩, .slice none 0 0, .slice none 0 0, .slice none 0 0, .int .i64 0] 92 (0, 0))] 92 [.int 1, .str [], .str nm, .seq 7 [], .seq 3 [], .seq 7 [], .int a] [.int .i64 1, .string ⟨#[]⟩, .string ⟨nm.toArray⟩, .slice none 0 0, .slice none 0 0, .slice none 0 0, .int .i64 a] (Rd.next s1) (w2)) := by rw [HT.out] at HF3; exact HF3
    have y2 := blk_cell HF4.out.b6 2 (.string ⟨nm.toArray⟩) rfl
    go_wp2_with fail
    refine wp_region_phase (fun _ => True) 10 (by kernel_rfl) ?_
    have HF4d := Lib.hid (HF4.out.below ((Below.refl _ _).drew))
    refine wpAnyB_take (i := 0) (v := (.pointer (some ⟨w.heap.size, 2, none⟩))) (by kernel_rfl) (by decide) rfl (by kernel_rfl) (by kernel_rfl) (by kernel_rfl) (fun _ _ _ h => h) (Or.inl ⟨by rfl, fun w hSw => by go_simp⟩) trivial ?_; simp only [Act.put, Array.getInternal_eq_getElem, List.getElem_toArray, List.getElem_cons_zero, List.getElem_cons_succ, List.setIfInBounds_toArray, List.set_cons_zero, List.set_cons_succ]
    refine wpAnyB_take (i := 2) (v := (.pointer (some ⟨b, 0, none⟩))) (by kernel_rfl) (by decide) rfl (by kernel_rfl) (by kernel_rfl) (by kernel_rfl) (fun _ _ _ h => h) (Or.inl ⟨by rfl, fun w hSw => by go_simp⟩) trivial ?_; simp only [Act.put, Array.getInternal_eq_getElem, List.getElem_toArray, List.getElem_cons_zero, List.getElem_cons_succ, List.setIfInBounds_toArray, List.set_cons_zero, List.set_cons_succ]
    refine wpAnyB_take (i := 3) (v := (.pointer (some ⟨b, 0, none⟩))) (by kernel_rfl) (by decide) rfl (by kernel_rfl) (by kernel_rfl) (by kernel_rfl) (fun _ _ _ h => h) (Or.inl ⟨by rfl, fun w hSw => by go_simp⟩) trivial ?_; simp only [Act.put, Array.getInternal_eq_getElem, List.getElem_toArray, List.getElem_cons_zero, List.getElem_cons_succ, List.setIfInBounds_toArray, List.set_cons_zero, List.set_cons_succ]
    refine wpAnyB_take (i := 4) (v := (.pointer (some ⟨b, 0, none⟩))) (by kernel_rfl) (by decide) rfl (by kernel_rfl) (by kernel_rfl) (by kernel_rfl) (fun _ _ _ h => h) (Or.inl ⟨by rfl, fun w hSw => by go_simp⟩) trivial ?_; simp only [Act.put, Array.getInternal_eq_getElem, List.getElem_toArray, List.getElem_cons_zero, List.getElem_cons_succ, List.setIfInBounds_toArray, List.set_cons_zero, List.set_cons_succ]
    refine wpAnyB_two (i := 1) (k := 5) (by kernel_rfl) ?_ ?_
    · refine wpOp_intro (by decide) (fun K1 HK1 => ?_); simp only [List.drop_succ_cons, List.drop_zero, List.take_succ_cons, List.take_zero]
      go_wp2_with fail
      refine HK1.out _ _ ⟨fun _ => trivial, ?_⟩
      clear HK1
      refine wpAnyB_take (i := 6) (v := (.pointer (some ⟨w.heap.size, 1, none⟩))) (by kernel_rfl) (by decide) rfl (by kernel_rfl) (by kernel_rfl) (by kernel_rfl) (fun _ _ _ h => h) (Or.inl ⟨by rfl, fun w hSw => by go_simp⟩) trivial ?_; simp only [Act.put, Array.getInternal_eq_getElem, List.getElem_toArray, List.getElem_cons_zero, List.getElem_cons_succ, List.setIfInBounds_toArray, List.set_cons_zero, List.set_cons_succ]
      refine wpAnyB_one (i := 5) (by kernel_rfl) ?_
      clear y2
      refine wpOp_intro (by decide) (fun K5 HK5 => ?_); simp only [List.drop_succ_cons, List.drop_zero, List.take_succ_cons, List.take_zero]
      go_wp2_with fail
      refine (rname_any b g (Rd.next s1) _ HF4d.out.rd).mono ?_
      rintro r w3 ⟨rfl, h3, f3⟩
      obtain ⟨s3, hs3⟩ : ∃ x, x = (Rd.name (Rd.next s1)).1 := ⟨_, rfl⟩
      obtain ⟨nm2, hnm2⟩ : ∃ x, x = (Rd.name (Rd.next s1)).2 := ⟨_, rfl⟩
      rw [← hs3] at h3
      rw [← hnm2]
      have HF5' := Lib.hid (HF4d.out.step h3 f3)
      have HS3 := Lib.hid hs3
      have HNM2 := Lib.hid hnm2
      clear h3 f3 hs3 hnm2
      go_wp2_with fail
      refine HK5.out _ _ ⟨fun _ => trivial, ?_⟩
      clear HK5
      refine wpAnyB_one (i := 7) (by kernel_rfl) ?_
      refine wpOp_intro (by decide) (fun K7 HK7 => ?_); simp only [List.drop_succ_cons, List.drop_zero, List.take_succ_cons, List.take_zero]
      have y1 := blk_cell HF5'.out.b6 1 (.string ⟨#[]⟩) rfl
      have yf1 := blk_free HF5'.out.b6 1
      have y2 := blk_cell HF5'.out.b6 2 (.string ⟨nm.toArray⟩) rfl
      have yf2 := blk_free HF5'.out.b6 2
      go_wp2_with fail
      refine HK7.out _ _ ⟨fun _ => trivial, ?_⟩
      clear HK7
      refine wpAnyB_take (i := 8) (v := (.pointer (some ⟨w.heap.size, 2, none⟩))) (by kernel_rfl) (by decide) rfl (by kernel_rfl) (by kernel_rfl) (by kernel_rfl) (fun _ _ _ h => h) (Or.inl ⟨by rfl, fun w hSw => by go_simp⟩) trivial ?_; simp only [Act.put, Array.getInternal_eq_getElem, List.getElem_toArray, List.getElem_cons_zero, List.getElem_cons_succ, List.setIfInBounds_toArray, List.set_cons_zero, List.set_cons_succ]
      refine wpAnyB_one (i := 9) (by kernel_rfl) ?_
      refine wpOp_intro (by decide) (fun K9 HK9 => ?_); simp only [List.drop_succ_cons, List.drop_zero, List.take_succ_cons, List.take_zero]
      go_wp2_with fail
      refine HK9.out _ _ ⟨fun _ => trivial, ?_⟩
      clear HK9
      refine wpAnyB_done (by kernel_rfl) ?_ _
      have HX0 := Lib.hid ((HF5'.out.put 1 (.str nm) rfl).put 2 (.str nm2) rfl)
      clear y1 yf1 y2 yf2
      have HX : Hid (FJ w b g w.heap.size (w.heap.size + 2) [(w.heap.size + 1, Obj.cells #[.int .i64 0, .string ⟨#[]⟩, .string ⟨#[]⟩, .slice none 0 0, .slice none 0 0, .slice none 0 0, .int .i64 0] 92 (0, 0))] 92 [.int 1, .str nm, .str nm2, .seq 7 [], .seq 3 [], .seq 7 [], .int a] [.int .i64 1, .string ⟨nm.toArray⟩, .string ⟨nm2.toArray⟩, .slice none 0 0, .slice none 0 0, .slice none 0 0, .int .i64 a] s3 ((w3.setCell ⟨w.heap.size, 1, none⟩ (.string ⟨nm.toArray⟩)).setCell ⟨w.heap.size, 2, none⟩ (.string ⟨nm2.toArray⟩))) := HX0
      have HAL : Hid (Qr.aliasOf s = (s3, (nm, nm2))) := by unfold Qr.aliasOf; rw [← HS1.out, ← HNM.out, if_pos HB.out.symm, ← HS3.out, ← HNM2.out]; exact Lib.hid rfl
      have HOKX : Hid (Rd.Ok s s3) := by have := Qr.ok_aliasOf s; rw [HAL.out] at this; exact Lib.hid this
      have HDPX : Hid (s3.deep = s.deep) := by have := Qr.aliasOf_deep s; rw [HAL.out] at this; exact Lib.hid this
      have HGX : Hid (s.err = 0 → s3.err ≠ 0 ∨ s3.rest.length < s.rest.length) := by have := @Qr.aliasOf_goes s; rw [HAL.out] at this; exact Lib.hid this
      go_wp2_with fail
      refine (rargs_any b g false n hnb s3 _ HX.out.rd (Nat.le_trans HOKX.out.len HN.out) (by rw [HDPX.out]; omega)).mono ?_
      rintro r w4 ⟨a4, k4, rfl, hrd, h4, f4⟩
      obtain ⟨q, hq⟩ : ∃ x, x = Rd.args false (n + 1) s3 := ⟨_, rfl⟩
      rw [← hq] at hrd h4 ⊢
      have HQ := Lib.hid hq
      have hda := HX.out.data hrd
      obtain ⟨l4, hl4⟩ : ∃ x, x = q.2.length := ⟨_, rfl⟩
      rw [List.length_map, ← hl4] at hda ⊢
      have HF5 := Lib.hid (HX.out.step h4 f4)
      have HF6 : Hid (FJ w b g w.heap.size (w.heap.size + 2) [(w.heap.size + 1, Obj.cells #[.int .i64 0, .string ⟨#[]⟩, .string ⟨#[]⟩, .slice none 0 0, .slice none 0 0, .slice none 0 0, .int .i64 0] 92 (0, 0))] 92 [.int 1, .str nm, .str nm2, .seq 7 (q.2.map Rd.A.d), .seq 3 [], .seq 7 [], .int a] [.int .i64 1, .string ⟨nm.toArray⟩, .string ⟨nm2.toArray⟩, .slice a4 l4 k4, .slice none 0 0, .slice none 0 0, .int .i64 a] q.1 (w4.setCell ⟨w.heap.size, 3, none⟩ (.slice a4 l4 k4))) := Lib.hid (HF5.out.put 3 hda rfl)
      have HOKQ : Hid (Rd.Ok s q.1) := by rw [HQ.out]; exact Lib.hid (HOKX.out.trans (Rd.ok_args false (n + 1) _))
      have HOKQ2 : Hid (Rd.Ok s3 q.1) := by rw [HQ.out]; exact Lib.hid (Rd.ok_args false (n + 1) _)
      have HDPQ : Hid (q.1.deep = s.deep) := by rw [HQ.out, Rd.args_deep, HDPX.out]; exact Lib.hid rfl
      clear hrd h4 f4 hq hda hl4
      have y3 := blk_cell HF5.out.b6 3 (.slice none 0 0) rfl
      have yf3 := blk_free HF5.out.b6 3
      go_wp2_with fail
      refine (dirs_any b g n hnb q.1 _ HF6.out.rd (Nat.le_trans HOKQ.out.len HN.out) (by rw [HDPQ.out]; omega)).mono ?_
      rintro r w5 ⟨a5, k5, rfl, hrd, h5, f5⟩
      obtain ⟨e, he⟩ : ∃ x, x = Qr.dirs (n + 1) q.1 := ⟨_, rfl⟩
      rw [← he] at hrd h5 ⊢
      have HE := Lib.hid he
      have hda := HF6.out.data hrd
      obtain ⟨l5, hl5⟩ : ∃ x, x = e.2.length := ⟨_, rfl⟩
      rw [List.length_map, ← hl5] at hda ⊢
      have HF7 := Lib.hid (HF6.out.step h5 f5)
      have HF8 : Hid (FJ w b g w.heap.size (w.heap.size + 2) [(w.heap.size + 1, Obj.cells #[.int .i64 0, .string ⟨#[]⟩, .string ⟨#[]⟩, .slice none 0 0, .slice none 0 0, .slice none 0 0, .int .i64 0] 92 (0, 0))] 92 [.int 1, .str nm, .str nm2, .seq 7 (q.2.map Rd.A.d), .seq 3 (e.2.map Qr.Dir.d), .seq 7 [], .int a] [.int .i64 1, .string ⟨nm.toArray⟩, .string ⟨nm2.toArray⟩, .slice a4 l4 k4, .slice a5 l5 k5, .slice none 0 0, .int .i64 a] e.1 (w5.setCell ⟨w.heap.size, 4, none⟩ (.slice a5 l5 k5))) := Lib.hid (HF7.out.put 4 hda rfl)
      have HOKE : Hid (Rd.Ok s e.1) := by rw [HE.out]; exact Lib.hid (HOKQ.out.trans (Qr.ok_dirs (n + 1) _))
      have HOKE2 : Hid (Rd.Ok s3 e.1) := by rw [HE.out]; exact Lib.hid (HOKQ2.out.trans (Qr.ok_dirs (n + 1) _))
      have HDPE : Hid (e.1.deep = s.deep) := by rw [HE.out, Qr.dirs_deep, HDPQ.out]; exact Lib.hid rfl
      clear hrd h5 f5 he hda hl5 y3 yf3
      have y4 := blk_cell HF7.out.b6 4 (.slice none 0 0) rfl
      have yf4 := blk_free HF7.out.b6 4
      have HBL : Hid (Below (w5.setCell ⟨w.heap.size, 4, none⟩ (.slice a5 l5 k5)).heap.size (w5.setCell ⟨w.heap.size, 4, none⟩ (.slice a5 l5 k5)) ((w5.setCell ⟨w.heap.size, 4, none⟩ (.slice a5 l5 k5)).alloc (.cells #[.string ⟨#[123]⟩] 9))) := Lib.hid ((Below.refl _ _).alloc (Nat.le_refl _) _)
      have HTX : Hid (Txts ((w5.setCell ⟨w.heap.size, 4, none⟩ (.slice a5 l5 k5)).alloc (.cells #[.string ⟨#[123]⟩] 9)) (.slice (some ⟨w5.heap.size, 0, none⟩) 1 1) [Rd.lbrc]) := by
        have h1 := txts_one (w5.setCell ⟨w.heap.size, 4, none⟩ (.slice a5 l5 k5)) Rd.lbrc ⟨#[123]⟩ 9 rfl
        rw [size_set] at h1
        exact Lib.hid h1
      go_wp2_with fail
      refine (ris_any b g e.1 _ [Rd.lbrc] _ ((HF8.out.below HBL.out).rd) HTX.out (by simp)).mono ?_
      rintro r w6 ⟨rfl, hb6⟩
      rw [show ([Rd.lbrc].any (Rd.isS e.1)) = Rd.isS e.1 Rd.lbrc by simp]
      have HF9 := Lib.hid ((HF8.out.below HBL.out).below hb6)
      obtain ⟨C, hC⟩ : ∃ C, C = Rd.isS e.1 Rd.lbrc := ⟨_, rfl⟩
      have HC := Lib.hid hC
      rw [← hC]
      clear hC hb6 y4 yf4
      cases C
      · have HZ : Hid (Qr.setIf f e.1 = (e.1, [])) := by unfold Qr.setIf; rw [if_neg (by rw [← HC.out]; simp)]; exact Lib.hid rfl
        have n1 : ¬ w.heap.size = w.heap.size + 1 := by omega
        have n2 : ¬ w.heap.size + 1 = w.heap.size := by omega
        have HR : Hid (Qr.fieldOf f (n + 1) a s = (e.1, (.mk 1 nm nm2 q.2 e.2 [] a))) := by
          refine Lib.hid ?_
          unfold Qr.fieldOf
          dsimp only
          rw [HAL.out, ← HQ.out, ← HE.out, HZ.out]
        have y0 := blk_cell HF9.out.b6 0 (.int .i64 1) rfl
        have yf0 := blk_free HF9.out.b6 0
        have y1 := blk_cell HF9.out.b6 1 (.string ⟨nm.toArray⟩) rfl
        have yf1 := blk_free HF9.out.b6 1
        have y2 := blk_cell HF9.out.b6 2 (.string ⟨nm2.toArray⟩) rfl
        have yf2 := blk_free HF9.out.b6 2
        have y3 := blk_cell HF9.out.b6 3 (.slice a4 l4 k4) rfl
        have yf3 := blk_free HF9.out.b6 3
        have y4 := blk_cell HF9.out.b6 4 (.slice a5 l5 k5) rfl
        have yf4 := blk_free HF9.out.b6 4
        have y5 := blk_cell HF9.out.b6 5 (.slice none 0 0) rfl
        have yf5 := blk_free HF9.out.b6 5
        have y6 := blk_cell HF9.out.b6 6 (.int .i64 a) rfl
        have yf6 := blk_free HF9.out.b6 6
        have z0 := blk_cell (HF9.out.cb _ (List.mem_singleton.2 rfl)) 0 (.int .i64 0) rfl
        have zf0 := blk_free (HF9.out.cb _ (List.mem_singleton.2 rfl)) 0
        have z1 := blk_cell (HF9.out.cb _ (List.mem_singleton.2 rfl)) 1 (.string ⟨#[]⟩) rfl
        have zf1 := blk_free (HF9.out.cb _ (List.mem_singleton.2 rfl)) 1
        have z2 := blk_cell (HF9.out.cb _ (List.mem_singleton.2 rfl)) 2 (.string ⟨#[]⟩) rfl
        have zf2 := blk_free (HF9.out.cb _ (List.mem_singleton.2 rfl)) 2
        have z3 := blk_cell (HF9.out.cb _ (List.mem_singleton.2 rfl)) 3 (.slice none 0 0) rfl
        have zf3 := blk_free (HF9.out.cb _ (List.mem_singleton.2 rfl)) 3
        have z4 := blk_cell (HF9.out.cb _ (List.mem_singleton.2 rfl)) 4 (.slice none 0 0) rfl
        have zf4 := blk_free (HF9.out.cb _ (List.mem_singleton.2 rfl)) 4
        have z5 := blk_cell (HF9.out.cb _ (List.mem_singleton.2 rfl)) 5 (.slice none 0 0) rfl
        have zf5 := blk_free (HF9.out.cb _ (List.mem_singleton.2 rfl)) 5
        have z6 := blk_cell (HF9.out.cb _ (List.mem_singleton.2 rfl)) 6 (.int .i64 0) rfl
        have zf6 := blk_free (HF9.out.cb _ (List.mem_singleton.2 rfl)) 6
        have hfin := HF9.out.fin (r := w.heap.size + 1) (List.mem_singleton.2 rfl)
        simp only [putCells, Nat.reduceAdd, Nat.zero_add] at hfin
        have HFN := Lib.hid hfin
        clear hfin
        go_wp2_with fail
        refine bodyPost_ret (v := .agg #[.int .i64 1, .string ⟨nm.toArray⟩, .string ⟨nm2.toArray⟩, .slice a4 l4 k4, .slice a5 l5 k5, .slice none 0 0, .int .i64 a]) (by simp [results, Tryz.results166, go_sem, z0, z1, z2, z3, z4, z5, z6, n1, n2]) rfl ?_
        rw [HR.out]
        unfold Qr.Sel.d
        rw [Qr.Sel.dl_map]
        exact ⟨_, rfl, HFN.out⟩
      · have HZ : Hid (Qr.setIf f e.1 = Qr.selsOf f e.1) := by unfold Qr.setIf; rw [if_pos HC.out.symm]; exact Lib.hid rfl
        have HEZ : Hid (e.1.err = 0) := Lib.hid (by have := HC.out.symm; unfold Rd.isS at this; simp only [Bool.and_eq_true, decide_eq_true_eq] at this; exact this.1.1)
        have HSZ : Hid (s.err = 0) := by
          refine Lib.hid ?_
          by_cases h0 : s.err = 0
          · exact h0
          · have := HOKE.out.err h0
            have h2 := HEZ.out
            rw [this] at h2
            exact absurd h2 h0
        go_wp2_with fail
        refine (HS.out e.1 w6 HF9.out.rd (Nat.le_trans HOKE.out.len HN.out) HDPE.out HSZ.out ?_).mono ?_
        · rcases HGX.out HSZ.out with hx | hx
          · left; rw [HOKE2.out.err hx]; exact hx
          · right; exact Nat.lt_of_le_of_lt HOKE2.out.len hx
        rintro r w7 ⟨a6, k6, rfl, hrd, h7, f7⟩
        obtain ⟨z, hz⟩ : ∃ x, x = Qr.selsOf f e.1 := ⟨_, rfl⟩
        rw [← hz] at hrd h7 HZ ⊢
        have hda := HF9.out.data hrd
        obtain ⟨l6, hl6⟩ : ∃ x, x = z.2.length := ⟨_, rfl⟩
        rw [List.length_map, ← hl6] at hda ⊢
        have HFA := Lib.hid (HF9.out.step h7 f7)
        have HFB : Hid (FJ w b g w.heap.size (w.heap.size + 2) [(w.heap.size + 1, Obj.cells #[.int .i64 0, .string ⟨#[]⟩, .string ⟨#[]⟩, .slice none 0 0, .slice none 0 0, .slice none 0 0, .int .i64 0] 92 (0, 0))] 92 [.int 1, .str nm, .str nm2, .seq 7 (q.2.map Rd.A.d), .seq 3 (e.2.map Qr.Dir.d), .seq 7 (z.2.map Qr.Sel.d), .int a] [.int .i64 1, .string ⟨nm.toArray⟩, .string ⟨nm2.toArray⟩, .slice a4 l4 k4, .slice a5 l5 k5, .slice a6 l6 k6, .int .i64 a] z.1 (w7.setCell ⟨w.heap.size, 5, none⟩ (.slice a6 l6 k6))) := Lib.hid (HFA.out.put 5 hda rfl)
        clear hrd h7 f7 hz hda hl6
        have n1 : ¬ w.heap.size = w.heap.size + 1 := by omega
        have n2 : ¬ w.heap.size + 1 = w.heap.size := by omega
        have HR : Hid (Qr.fieldOf f (n + 1) a s = (z.1, (.mk 1 nm nm2 q.2 e.2 z.2 a))) := by
          refine Lib.hid ?_
          unfold Qr.fieldOf
          dsimp only
          rw [HAL.out, ← HQ.out, ← HE.out, HZ.out]
        have y0 := blk_cell HFA.out.b6 0 (.int .i64 1) rfl
        have yf0 := blk_free HFA.out.b6 0
        have y1 := blk_cell HFA.out.b6 1 (.string ⟨nm.toArray⟩) rfl
        have yf1 := blk_free HFA.out.b6 1
        have y2 := blk_cell HFA.out.b6 2 (.string ⟨nm2.toArray⟩) rfl
        have yf2 := blk_free HFA.out.b6 2
        have y3 := blk_cell HFA.out.b6 3 (.slice a4 l4 k4) rfl
        have yf3 := blk_free HFA.out.b6 3
        have y4 := blk_cell HFA.out.b6 4 (.slice a5 l5 k5) rfl
        have yf4 := blk_free HFA.out.b6 4
        have y5 := blk_cell HFA.out.b6 5 (.slice none 0 0) rfl
        have yf5 := blk_free HFA.out.b6 5
        have y6 := blk_cell HFA.out.b6 6 (.int .i64 a) rfl
        have yf6 := blk_free HFA.out.b6 6
        have z0 := blk_cell (HFA.out.cb _ (List.mem_singleton.2 rfl)) 0 (.int .i64 0) rfl
        have zf0 := blk_free (HFA.out.cb _ (List.mem_singleton.2 rfl)) 0
        have z1 := blk_cell (HFA.out.cb _ (List.mem_singleton.2 rfl)) 1 (.string ⟨#[]⟩) rfl
        have zf1 := blk_free (HFA.out.cb _ (List.mem_singleton.2 rfl)) 1
        have z2 := blk_cell (HFA.out.cb _ (List.mem_singleton.2 rfl)) 2 (.string ⟨#[]⟩) rfl
        have zf2 := blk_free (HFA.out.cb _ (List.mem_singleton.2 rfl)) 2
        have z3 := blk_cell (HFA.out.cb _ (List.mem_singleton.2 rfl)) 3 (.slice none 0 0) rfl
        have zf3 := blk_free (HFA.out.cb _ (List.mem_singleton.2 rfl)) 3
        have z4 := blk_cell (HFA.out.cb _ (List.mem_singleton.2 rfl)) 4 (.slice none 0 0) rfl
        have zf4 := blk_free (HFA.out.cb _ (List.mem_singleton.2 rfl)) 4
        have z5 := blk_cell (HFA.out.cb _ (List.mem_singleton.2 rfl)) 5 (.slice none 0 0) rfl
        have zf5 := blk_free (HFA.out.cb _ (List.mem_singleton.2 rfl)) 5
        have z6 := blk_cell (HFA.out.cb _ (List.mem_singleton.2 rfl)) 6 (.int .i64 0) rfl
        have zf6 := blk_free (HFA.out.cb _ (List.mem_singleton.2 rfl)) 6
        have hfin := HFB.out.fin (r := w.heap.size + 1) (List.mem_singleton.2 rfl)
        simp only [putCells, Nat.reduceAdd, Nat.zero_add] at hfin
        have HFN := Lib.hid hfin
        clear hfin
        go_wp2_with fail
        refine bodyPost_ret (v := .agg #[.int .i64 1, .string ⟨nm.toArray⟩, .string ⟨nm2.toArray⟩, .slice a4 l4 k4, .slice a5 l5 k5, .slice a6 l6 k6, .int .i64 a]) (by simp [results, Tryz.results166, go_sem, z0, z1, z2, z3, z4, z5, z6, n1, n2]) rfl ?_
        rw [HR.out]
        unfold Qr.Sel.d
        rw [Qr.Sel.dl_map]
        exact ⟨_, rfl, HFN.out⟩
    · clear y2
      refine wpOp_intro (by decide) (fun K5 HK5 => ?_); simp only [List.drop_succ_cons, List.drop_zero, List.take_succ_cons, List.take_zero]
      go_wp2_with fail
      refine (rname_any b g (Rd.next s1) _ HF4d.out.rd).mono ?_
      rintro r w3 ⟨rfl, h3, f3⟩
      obtain ⟨s3, hs3⟩ : ∃ x, x = (Rd.name (Rd.next s1)).1 := ⟨_, rfl⟩
      obtain ⟨nm2, hnm2⟩ : ∃ x, x = (Rd.name (Rd.next s1)).2 := ⟨_, rfl⟩
      rw [← hs3] at h3
      rw [← hnm2]
      have HF5' := Lib.hid (HF4d.out.step h3 f3)
      have HS3 := Lib.hid hs3
      have HNM2 := Lib.hid hnm2
      clear h3 f3 hs3 hnm2
      go_wp2_with fail
      refine HK5.out _ _ ⟨fun _ => trivial, ?_⟩
      clear HK5
      refine wpAnyB_one (i := 1) (by kernel_rfl) ?_
      refine wpOp_intro (by decide) (fun K1 HK1 => ?_); simp only [List.drop_succ_cons, List.drop_zero, List.take_succ_cons, List.take_zero]
      have y2 := blk_cell HF5'.out.b6 2 (.string ⟨nm.toArray⟩) rfl
      have yf2 := blk_free HF5'.out.b6 2
      go_wp2_with fail
      refine HK1.out _ _ ⟨fun _ => trivial, ?_⟩
      clear HK1
      clear y2 yf2
      refine wpAnyB_take (i := 6) (v := (.pointer (some ⟨w.heap.size, 1, none⟩))) (by kernel_rfl) (by decide) rfl (by kernel_rfl) (by kernel_rfl) (by kernel_rfl) (fun _ _ _ h => h) (Or.inl ⟨by rfl, fun w hSw => by go_simp⟩) trivial ?_; simp only [Act.put, Array.getInternal_eq_getElem, List.getElem_toArray, List.getElem_cons_zero, List.getElem_cons_succ, List.setIfInBounds_toArray, List.set_cons_zero, List.set_cons_succ]
      refine wpAnyB_one (i := 7) (by kernel_rfl) ?_
      refine wpOp_intro (by decide) (fun K7 HK7 => ?_); simp only [List.drop_succ_cons, List.drop_zero, List.take_succ_cons, List.take_zero]
      have y1 := blk_cell HF5'.out.b6 1 (.string ⟨#[]⟩) rfl
      have yf1 := blk_free HF5'.out.b6 1
      have y2 := blk_cell HF5'.out.b6 2 (.string ⟨nm.toArray⟩) rfl
      have yf2 := blk_free HF5'.out.b6 2
      go_wp2_with fail
      refine HK7.out _ _ ⟨fun _ => trivial, ?_⟩
      clear HK7
      refine wpAnyB_take (i := 8) (v := (.pointer (some ⟨w.heap.size, 2, none⟩))) (by kernel_rfl) (by decide) rfl (by kernel_rfl) (by kernel_rfl) (by kernel_rfl) (fun _ _ _ h => h) (Or.inl ⟨by rfl, fun w hSw => by go_simp⟩) trivial ?_; simp only [Act.put, Array.getInternal_eq_getElem, List.getElem_toArray, List.getElem_cons_zero, List.getElem_cons_succ, List.setIfInBounds_toArray, List.set_cons_zero, List.set_cons_succ]
      refine wpAnyB_one (i := 9) (by kernel_rfl) ?_
      refine wpOp_intro (by decide) (fun K9 HK9 => ?_); simp only [List.drop_succ_cons, List.drop_zero, List.take_succ_cons, List.take_zero]
      go_wp2_with fail
      refine HK9.out _ _ ⟨fun _ => trivial, ?_⟩
      clear HK9
      refine wpAnyB_done (by kernel_rfl) ?_ _
      have HX0 := Lib.hid ((HF5'.out.put 1 (.str nm) rfl).put 2 (.str nm2) rfl)
      clear y1 yf1 y2 yf2
      have HX : Hid (FJ w b g w.heap.size (w.heap.size + 2) [(w.heap.size + 1, Obj.cells #[.int .i64 0, .string ⟨#[]⟩, .string ⟨#[]⟩, .slice none 0 0, .slice none 0 0, .slice none 0 0, .int .i64 0] 92 (0, 0))] 92 [.int 1, .str nm, .str nm2, .seq 7 [], .seq 3 [], .seq 7 [], .int a] [.int .i64 1, .string ⟨nm.toArray⟩, .string ⟨nm2.toArray⟩, .slice none 0 0, .slice none 0 0, .slice none 0 0, .int .i64 a] s3 ((w3.setCell ⟨w.heap.size, 1, none⟩ (.string ⟨nm.toArray⟩)).setCell ⟨w.heap.size, 2, none⟩ (.string ⟨nm2.toArray⟩))) := HX0
      have HAL : Hid (Qr.aliasOf s = (s3, (nm, nm2))) := by unfold Qr.aliasOf; rw [← HS1.out, ← HNM.out, if_pos HB.out.symm, ← HS3.out, ← HNM2.out]; exact Lib.hid rfl
      have HOKX : Hid (Rd.Ok s s3) := by have := Qr.ok_aliasOf s; rw [HAL.out] at this; exact Lib.hid this
      have HDPX : Hid (s3.deep = s.deep) := by have := Qr.aliasOf_deep s; rw [HAL.out] at this; exact Lib.hid this
      have HGX : Hid (s.err = 0 → s3.err ≠ 0 ∨ s3.rest.length < s.rest.length) := by have := @Qr.aliasOf_goes s; rw [HAL.out] at this; exact Lib.hid this
      go_wp2_with fail
      refine (rargs_any b g false n hnb s3 _ HX.out.rd (Nat.le_trans HOKX.out.len HN.out) (by rw [HDPX.out]; omega)).mono ?_
      rintro r w4 ⟨a4, k4, rfl, hrd, h4, f4⟩
      obtain ⟨q, hq⟩ : ∃ x, x = Rd.args false (n + 1) s3 := ⟨_, rfl⟩
      rw [← hq] at hrd h4 ⊢
      have HQ := Lib.hid hq
      have hda := HX.out.data hrd
      obtain ⟨l4, hl4⟩ : ∃ x, x = q.2.length := ⟨_, rfl⟩
      rw [List.length_map, ← hl4] at hda ⊢
      have HF5 := Lib.hid (HX.out.step h4 f4)
      have HF6 : Hid (FJ w b g w.heap.size (w.heap.size + 2) [(w.heap.size + 1, Obj.cells #[.int .i64 0, .string ⟨#[]⟩, .string ⟨#[]⟩, .slice none 0 0, .slice none 0 0, .slice none 0 0, .int .i64 0] 92 (0, 0))] 92 [.int 1, .str nm, .str nm2, .seq 7 (q.2.map Rd.A.d), .seq 3 [], .seq 7 [], .int a] [.int .i64 1, .string ⟨nm.toArray⟩, .string ⟨nm2.toArray⟩, .slice a4 l4 k4, .slice none 0 0, .slice none 0 0, .int .i64 a] q.1 (w4.setCell ⟨w.heap.size, 3, none⟩ (.slice a4 l4 k4))) := Lib.hid (HF5.out.put 3 hda rfl)
      have HOKQ : Hid (Rd.Ok s q.1) := by rw [HQ.out]; exact Lib.hid (HOKX.out.trans (Rd.ok_args false (n + 1) _))
      have HOKQ2 : Hid (Rd.Ok s3 q.1) := by rw [HQ.out]; exact Lib.hid (Rd.ok_args false (n + 1) _)
      have HDPQ : Hid (q.1.deep = s.deep) := by rw [HQ.out, Rd.args_deep, HDPX.out]; exact Lib.hid rfl
      clear hrd h4 f4 hq hda hl4
      have y3 := blk_cell HF5.out.b6 3 (.slice none 0 0) rfl
      have yf3 := blk_free HF5.out.b6 3
      go_wp2_with fail
      refine (dirs_any b g n hnb q.1 _ HF6.out.rd (Nat.le_trans HOKQ.out.len HN.out) (by rw [HDPQ.out]; omega)).mono ?_
      rintro r w5 ⟨a5, k5, rfl, hrd, h5, f5⟩
      obtain ⟨e, he⟩ : ∃ x, x = Qr.dirs (n + 1) q.1 := ⟨_, rfl⟩
      rw [← he] at hrd h5 ⊢
      have HE := Lib.hid he
      have hda := HF6.out.data hrd
      obtain ⟨l5, hl5⟩ : ∃ x, x = e.2.length := ⟨_, rfl⟩
      rw [List.length_map, ← hl5] at hda ⊢
      have HF7 := Lib.hid (HF6.out.step h5 f5)
      have HF8 : Hid (FJ w b g w.heap.size (w.heap.size + 2) [(w.heap.size + 1, Obj.cells #[.int .i64 0, .string ⟨#[]⟩, .string ⟨#[]⟩, .slice none 0 0, .slice none 0 0, .slice none 0 0, .int .i64 0] 92 (0, 0))] 92 [.int 1, .str nm, .str nm2, .seq 7 (q.2.map Rd.A.d), .seq 3 (e.2.map Qr.Dir.d), .seq 7 [], .int a] [.int .i64 1, .string ⟨nm.toArray⟩, .string ⟨nm2.toArray⟩, .slice a4 l4 k4, .slice a5 l5 k5, .slice none 0 0, .int .i64 a] e.1 (w5.setCell ⟨w.heap.size, 4, none⟩ (.slice a5 l5 k5))) := Lib.hid (HF7.out.put 4 hda rfl)
      have HOKE : Hid (Rd.Ok s e.1) := by rw [HE.out]; exact Lib.hid (HOKQ.out.trans (Qr.ok_dirs (n + 1) _))
      have HOKE2 : Hid (Rd.Ok s3 e.1) := by rw [HE.out]; exact Lib.hid (HOKQ2.out.trans (Qr.ok_dirs (n + 1) _))
      have HDPE : Hid (e.1.deep = s.deep) := by rw [HE.out, Qr.dirs_deep, HDPQ.out]; exact Lib.hid rfl
      clear hrd h5 f5 he hda hl5 y3 yf3
      have y4 := blk_cell HF7.out.b6 4 (.slice none 0 0) rfl
      have yf4 := blk_free HF7.out.b6 4
      have HBL : Hid (Below (w5.setCell ⟨w.heap.size, 4, none⟩ (.slice a5 l5 k5)).heap.size (w5.setCell ⟨w.heap.size, 4, none⟩ (.slice a5 l5 k5)) ((w5.setCell ⟨w.heap.size, 4, none⟩ (.slice a5 l5 k5)).alloc (.cells #[.string ⟨#[123]⟩] 9))) := Lib.hid ((Below.refl _ _).alloc (Nat.le_refl _) _)
      have HTX : Hid (Txts ((w5.setCell ⟨w.heap.size, 4, none⟩ (.slice a5 l5 k5)).alloc (.cells #[.string ⟨#[123]⟩] 9)) (.slice (some ⟨w5.heap.size, 0, none⟩) 1 1) [Rd.lbrc]) := by
        have h1 := txts_one (w5.setCell ⟨w.heap.size, 4, none⟩ (.slice a5 l5 k5)) Rd.lbrc ⟨#[123]⟩ 9 rfl
        rw [size_set] at h1
        exact Lib.hid h1
      go_wp2_with fail
      refine (ris_any b g e.1 _ [Rd.lbrc] _ ((HF8.out.below HBL.out).rd) HTX.out (by simp)).mono ?_
      rintro r w6 ⟨rfl, hb6⟩
      rw [show ([Rd.lbrc].any (Rd.isS e.1)) = Rd.isS e.1 Rd.lbrc by simp]
      have HF9 := Lib.hid ((HF8.out.below HBL.out).below hb6)
      obtain ⟨C, hC⟩ : ∃ C, C = Rd.isS e.1 Rd.lbrc := ⟨_, rfl⟩
      have HC := Lib.hid hC
      rw [← hC]
      clear hC hb6 y4 yf4
      cases C
      · have HZ : Hid (Qr.setIf f e.1 = (e.1, [])) := by unfold Qr.setIf; rw [if_neg (by rw [← HC.out]; simp)]; exact Lib.hid rfl
        have n1 : ¬ w.heap.size = w.heap.size + 1 := by omega
        have n2 : ¬ w.heap.size + 1 = w.heap.size := by omega
        have HR : Hid (Qr.fieldOf f (n + 1) a s = (e.1, (.mk 1 nm nm2 q.2 e.2 [] a))) := by
          refine Lib.hid ?_
          unfold Qr.fieldOf
          dsimp only
          rw [HAL.out, ← HQ.out, ← HE.out, HZ.out]
        have y0 := blk_cell HF9.out.b6 0 (.int .i64 1) rfl
        have yf0 := blk_free HF9.out.b6 0
        have y1 := blk_cell HF9.out.b6 1 (.string ⟨nm.toArray⟩) rfl
        have yf1 := blk_free HF9.out.b6 1
        have y2 := blk_cell HF9.out.b6 2 (.string ⟨nm2.toArray⟩) rfl
        have yf2 := blk_free HF9.out.b6 2
        have y3 := blk_cell HF9.out.b6 3 (.slice a4 l4 k4) rfl
        have yf3 := blk_free HF9.out.b6 3
        have y4 := blk_cell HF9.out.b6 4 (.slice a5 l5 k5) rfl
        have yf4 := blk_free HF9.out.b6 4
        have y5 := blk_cell HF9.out.b6 5 (.slice none 0 0) rfl
        have yf5 := blk_free HF9.out.b6 5
        have y6 := blk_cell HF9.out.b6 6 (.int .i64 a) rfl
        have yf6 := blk_free HF9.out.b6 6
        have z0 := blk_cell (HF9.out.cb _ (List.mem_singleton.2 rfl)) 0 (.int .i64 0) rfl
        have zf0 := blk_free (HF9.out.cb _ (List.mem_singleton.2 rfl)) 0
        have z1 := blk_cell (HF9.out.cb _ (List.mem_singleton.2 rfl)) 1 (.string ⟨#[]⟩) rfl
        have zf1 := blk_free (HF9.out.cb _ (List.mem_singleton.2 rfl)) 1
        have z2 := blk_cell (HF9.out.cb _ (List.mem_singleton.2 rfl)) 2 (.string ⟨#[]⟩) rfl
        have zf2 := blk_free (HF9.out.cb _ (List.mem_singleton.2 rfl)) 2
        have z3 := blk_cell (HF9.out.cb _ (List.mem_singleton.2 rfl)) 3 (.slice none 0 0) rfl
        have zf3 := blk_free (HF9.out.cb _ (List.mem_singleton.2 rfl)) 3
        have z4 := blk_cell (HF9.out.cb _ (List.mem_singleton.2 rfl)) 4 (.slice none 0 0) rfl
        have zf4 := blk_free (HF9.out.cb _ (List.mem_singleton.2 rfl)) 4
        have z5 := blk_cell (HF9.out.cb _ (List.mem_singleton.2 rfl)) 5 (.slice none 0 0) rfl
        have zf5 := blk_free (HF9.out.cb _ (List.mem_singleton.2 rfl)) 5
        have z6 := blk_cell (HF9.out.cb _ (List.mem_singleton.2 rfl)) 6 (.int .i64 0) rfl
        have zf6 := blk_free (HF9.out.cb _ (List.mem_singleton.2 rfl)) 6
        have hfin := HF9.out.fin (r := w.heap.size + 1) (List.mem_singleton.2 rfl)
        simp only [putCells, Nat.reduceAdd, Nat.zero_add] at hfin
        have HFN := Lib.hid hfin
        clear hfin
        go_wp2_with fail
        refine bodyPost_ret (v := .agg #[.int .i64 1, .string ⟨nm.toArray⟩, .string ⟨nm2.toArray⟩, .slice a4 l4 k4, .slice a5 l5 k5, .slice none 0 0, .int .i64 a]) (by simp [results, Tryz.results166, go_sem, z0, z1, z2, z3, z4, z5, z6, n1, n2]) rfl ?_
        rw [HR.out]
        unfold Qr.Sel.d
        rw [Qr.Sel.dl_map]
        exact ⟨_, rfl, HFN.out⟩
      · have HZ : Hid (Qr.setIf f e.1 = Qr.selsOf f e.1) := by unfold Qr.setIf; rw [if_pos HC.out.symm]; exact Lib.hid rfl
        have HEZ : Hid (e.1.err = 0) := Lib.hid (by have := HC.out.symm; unfold Rd.isS at this; simp only [Bool.and_eq_true, decide_eq_true_eq] at this; exact this.1.1)
        have HSZ : Hid (s.err = 0) := by
          refine Lib.hid ?_
          by_cases h0 : s.err = 0
          · exact h0
          · have := HOKE.out.err h0
            have h2 := HEZ.out
            rw [this] at h2
            exact absurd h2 h0
        go_wp2_with fail
        refine (HS.out e.1 w6 HF9.out.rd (Nat.le_trans HOKE.out.len HN.out) HDPE.out HSZ.out ?_).mono ?_
        · rcases HGX.out HSZ.out with hx | hx
          · left; rw [HOKE2.out.err hx]; exact hx
          · right; exact Nat.lt_of_le_of_lt HOKE2.out.len hx
        rintro r w7 ⟨a6, k6, rfl, hrd, h7, f7⟩
        obtain ⟨z, hz⟩ : ∃ x, x = Qr.selsOf f e.1 := ⟨_, rfl⟩
        rw [← hz] at hrd h7 HZ ⊢
        have hda := HF9.out.data hrd
        obtain ⟨l6, hl6⟩ : ∃ x, x = z.2.length := ⟨_, rfl⟩
        rw [List.length_map, ← hl6] at hda ⊢
        have HFA := Lib.hid (HF9.out.step h7 f7)
        have HFB : Hid (FJ w b g w.heap.size (w.heap.size + 2) [(w.heap.size + 1, Obj.cells #[.int .i64 0, .string ⟨#[]⟩, .string ⟨#[]⟩, .slice none 0 0, .slice none 0 0, .slice none 0 0, .int .i64 0] 92 (0, 0))] 92 [.int 1, .str nm, .str nm2, .seq 7 (q.2.map Rd.A.d), .seq 3 (e.2.map Qr.Dir.d), .seq 7 (z.2.map Qr.Sel.d), .int a] [.int .i64 1, .string ⟨nm.toArray⟩, .string ⟨nm2.toArray⟩, .slice a4 l4 k4, .slice a5 l5 k5, .slice a6 l6 k6, .int .i64 a] z.1 (w7.setCell ⟨w.heap.size, 5, none⟩ (.slice a6 l6 k6))) := Lib.hid (HFA.out.put 5 hda rfl)
        clear hrd h7 f7 hz hda hl6
        have n1 : ¬ w.heap.size = w.heap.size + 1 := by omega
        have n2 : ¬ w.heap.size + 1 = w.heap.size := by omega
        have HR : Hid (Qr.fieldOf f (n + 1) a s = (z.1, (.mk 1 nm nm2 q.2 e.2 z.2 a))) := by
          refine Lib.hid ?_
          unfold Qr.fieldOf
          dsimp only
          rw [HAL.out, ← HQ.out, ← HE.out, HZ.out]
        have y0 := blk_cell HFA.out.b6 0 (.int .i64 1) rfl
        have yf0 := blk_free HFA.out.b6 0
        have y1 := blk_cell HFA.out.b6 1 (.string ⟨nm.toArray⟩) rfl
        have yf1 := blk_free HFA.out.b6 1
        have y2 := blk_cell HFA.out.b6 2 (.string ⟨nm2.toArray⟩) rfl
        have yf2 := blk_free HFA.out.b6 2
        have y3 := blk_cell HFA.out.b6 3 (.slice a4 l4 k4) rfl
        have yf3 := blk_free HFA.out.b6 3
        have y4 := blk_cell HFA.out.b6 4 (.slice a5 l5 k5) rfl
        have yf4 := blk_free HFA.out.b6 4
        have y5 := blk_cell HFA.out.b6 5 (.slice none 0 0) rfl
        have yf5 := blk_free HFA.out.b6 5
        have y6 := blk_cell HFA.out.b6 6 (.int .i64 a) rfl
        have yf6 := blk_free HFA.out.b6 6
        have z0 := blk_cell (HFA.out.cb _ (List.mem_singleton.2 rfl)) 0 (.int .i64 0) rfl
        have zf0 := blk_free (HFA.out.cb _ (List.mem_singleton.2 rfl)) 0
        have z1 := blk_cell (HFA.out.cb _ (List.mem_singleton.2 rfl)) 1 (.string ⟨#[]⟩) rfl
        have zf1 := blk_free (HFA.out.cb _ (List.mem_singleton.2 rfl)) 1
        have z2 := blk_cell (HFA.out.cb _ (List.mem_singleton.2 rfl)) 2 (.string ⟨#[]⟩) rfl
        have zf2 := blk_free (HFA.out.cb _ (List.mem_singleton.2 rfl)) 2
        have z3 := blk_cell (HFA.out.cb _ (List.mem_singleton.2 rfl)) 3 (.slice none 0 0) rfl
        have zf3 := blk_free (HFA.out.cb _ (List.mem_singleton.2 rfl)) 3
        have z4 := blk_cell (HFA.out.cb _ (List.mem_singleton.2 rfl)) 4 (.slice none 0 0) rfl
        have zf4 := blk_free (HFA.out.cb _ (List.mem_singleton.2 rfl)) 4
        have z5 := blk_cell (HFA.out.cb _ (List.mem_singleton.2 rfl)) 5 (.slice none 0 0) rfl
        have zf5 := blk_free (HFA.out.cb _ (List.mem_singleton.2 rfl)) 5
        have z6 := blk_cell (HFA.out.cb _ (List.mem_singleton.2 rfl)) 6 (.int .i64 0) rfl
        have zf6 := blk_free (HFA.out.cb _ (List.mem_singleton.2 rfl)) 6
        have hfin := HFB.out.fin (r := w.heap.size + 1) (List.mem_singleton.2 rfl)
        simp only [putCells, Nat.reduceAdd, Nat.zero_add] at hfin
        have HFN := Lib.hid hfin
        clear hfin
        go_wp2_with fail
        refine bodyPost_ret (v := .agg #[.int .i64 1, .string ⟨nm.toArray⟩, .string ⟨nm2.toArray⟩, .slice a4 l4 k4, .slice a5 l5 k5, .slice a6 l6 k6, .int .i64 a]) (by simp [results, Tryz.results166, go_sem, z0, z1, z2, z3, z4, z5, z6, n1, n2]) rfl ?_
        rw [HR.out]
        unfold Qr.Sel.d
        rw [Qr.Sel.dl_map]
        exact ⟨_, rfl, HFN.out⟩
end Go.Proofs.YtabcaljnpahgpaaGreatDoor
