/-
  'Parse' of a value, of a type, walked. The document's 'Same' of values (places aside), walked. The document's lexer: escapes.
-/
import Derived.Test.YtefjgpkpplkkgaaGreatDoorZa18
import Derived.Test.YtefjgpkpplkkgaaGreatDoorZa4
import Derived.Test.YtefjgpkpplkkgaaGreatDoorZa14
import Derived.Test.YtefjgpkpplkkgaaGreatDoorZa6
namespace Go.Proofs.YtefjgpkpplkkgaaGreatDoor
set_option linter.unusedSimpArgs false
set_option linter.unusedVariables false
open Go Go.RowKit

theorem below_frv {n b : Nat} {w w2 wr : World} (h : Below n w w2) (hw : n ≤ w.heap.size) (hf : Fr b w2 wr) (hb : n ≤ b) : Below n w wr :=
  ⟨hf.os.trans h.os, hf.tape.trans h.tape, hf.output.trans h.output, Nat.le_trans h.size hf.size, fun k hk => by rw [hf.block k (by have := h.size; omega) (by omega)]; exact h.block k hk⟩
theorem put_cell {w : World} {g x : Nat} (h : x ≠ g) (cs : List Value) (k : Nat) : (putCells w g 0 cs).drew.cell? ⟨x, k, none⟩ = w.cell? ⟨x, k, none⟩ := by
  have e : (putCells w g 0 cs).drew.heap[x]? = w.heap[x]? := putCells_ne g x h cs 0 w
  unfold World.cell?
  dsimp only
  rw [e]
set_option maxRecDepth 100000 in
theorem rend_any (b g : Nat) (s : Rd.St) (w : World) (h : RdAt w b g s) :
    Calls Tryz.prog 40 #[.pointer (some ⟨b, 0, none⟩)] w fun r w' => r = .returned (.tuple #[]) ∧ RdAt w' b g (Rd.fin s) ∧ Fr b w w' := by
  have H := Lib.hid h
  clear h
  go_enter Tryz.func40, Tryz.ntmps40
  go_wp2_with fail
  refine (rpeek_any b g s w H.out).mono ?_
  rintro r w1 ⟨rfl, hb1⟩
  have H1 := Lib.hid (H.out.below hb1)
  have HB1 := Lib.hid hb1
  obtain ⟨tk, htk⟩ : ∃ z, z = Rd.peek s := ⟨_, rfl⟩
  have HTK := Lib.hid htk
  rw [← htk]
  clear hb1 htk
  by_cases hk : tk.kind = 0
  · have e6 := neF (n := tk.kind) (k := 0) (by omega)
    have HF : Hid (Rd.fin s = s) := Lib.hid (by unfold Rd.fin; rw [if_neg (by rw [← HTK.out]; simp [hk])])
    clear hk
    go_wp2_with fail
    go_end0
    exact ⟨rfl, by rw [HF.out]; exact H1.out, But.of_below HB1.out⟩
  · have e6 := neT (n := tk.kind) (k := 0) (by omega)
    have HF : Hid (Rd.fin s = Rd.wrong s) := Lib.hid (by unfold Rd.fin; rw [if_pos (by rw [← HTK.out]; exact hk)])
    clear hk
    go_wp2_with fail
    refine (rwrong_any b g s _ H1.out).mono ?_
    rintro r w2 ⟨rfl, h2, f2⟩
    go_wp2_with fail
    go_end0
    exact ⟨rfl, by rw [HF.out]; exact h2, (But.of_below HB1.out).trans f2⟩

/-- What 'Parse' leaves. -/
def VpPost (l : List UInt8) (fixed : Bool) (w : World) (r : Ending) (w' : World) : Prop :=
  Below w.heap.size w w' ∧ StdAll l ∧
    ((∃ (z : Vl.Z) (a1 a2 : Option Addr) (c1 c2 : Nat), z = Vl.ofV (Vl.parse l fixed).2 ∧ (Vl.parse l fixed).1.err = 0 ∧ r = .returned (.tuple #[.agg #[.int .i64 z.kind, .string ⟨z.text.toArray⟩, .slice a1 z.items.length c1, .slice a2 z.fields.length c2, .int .i64 z.at_], .int .i64 0, .int .i64 0]) ∧
      Reads w' (fun x => w.heap.size ≤ x) z.d [.int .i64 z.kind, .string ⟨z.text.toArray⟩, .slice a1 z.items.length c1, .slice a2 z.fields.length c2, .int .i64 z.at_]) ∨
     ((Vl.parse l fixed).1.err ≠ 0 ∧ r = .returned (.tuple #[.agg #[.int .i64 0, .string ⟨#[]⟩, .slice none 0 0, .slice none 0 0, .int .i64 0], .int .i64 (Vl.parse l fixed).1.at_, .int .i64 (Vl.parse l fixed).1.err])))
set_option maxHeartbeats 2000000 in
set_option maxRecDepth 100000 in
theorem vparse_any (s : ByteArray) (fixed : Bool) (w : World) (hs : s.size ≤ 9223372036854775807) (hE : Env w) (h3 : 3 ≤ w.heap.size) :
    Calls Tryz.prog 13 #[.string s, .bool fixed] w (VpPost s.data.toList fixed w) := by
  have HE := Lib.hid hE
  clear hE
  obtain ⟨w0, hw0⟩ : ∃ z, z = w.alloc (.cells #[.int .i64 0, .string ⟨#[]⟩, .slice none 0 0, .slice none 0 0, .int .i64 0] 25) := ⟨_, rfl⟩
  have hb0 : Below w.heap.size w w0 := by rw [hw0]; exact (Below.refl _ _).alloc (Nat.le_refl _) _
  have hsz0 : w0.heap.size = w.heap.size + 1 := by rw [hw0]; simp
  have hz0 : w0.heap[w.heap.size]? = some (.cells #[.int .i64 0, .string ⟨#[]⟩, .slice none 0 0, .slice none 0 0, .int .i64 0] 25 (0, 0)) := by rw [hw0]; exact heap_at_new _ _
  have HW0 := Lib.hid hw0
  have HB0 := Lib.hid hb0
  have HZ0 := Lib.hid hz0
  have HC := Lib.hid (rnew_any s w0 hs (HE.out.below hb0) (by omega))
  rw [hw0] at HC
  clear hw0 hb0 hz0
  go_enter Tryz.func13, Tryz.ntmps13
  go_wp2_with fail
  refine HC.out.mono ?_
  rw [← HW0.out]
  rintro r w1 ⟨hb1, hstd, g, cap, ts, a, e, rfl, hg, hrow, hok, hpos, hbg⟩
  obtain ⟨w2, hw2⟩ : ∃ z, z = w1.alloc (.cells #[.slice (some ⟨g, 0, none⟩) ts.length cap, .int .i64 0, .int .i64 0, .int .i64 a, .int .i64 e] 77) := ⟨_, rfl⟩
  obtain ⟨s0, hs0⟩ : ∃ z, z = Rd.begin_ s.data.toList := ⟨_, rfl⟩
  have hb2 : Below w1.heap.size w1 w2 := by rw [hw2]; exact (Below.refl _ _).alloc (Nat.le_refl _) _
  have hR : RdAt w2 w1.heap.size g s0 := by
    rw [hs0]
    have hgl := hrow.lt
    exact NewPost.rdAt (T := 77) (by rw [hw2]; exact heap_at_new _ _) (hrow.heap hb2.size (hb2.block g hgl)) (by omega) hok hpos hbg
  have HSTD := Lib.hid hstd
  have HBW := Lib.hid (HB0.out.trans ((hb1.trans (hb2.mono hb1.size)).mono HB0.out.size))
  have hm := hR.rest_len
  obtain ⟨n, hn⟩ : ∃ z, z = s0.rest.length := ⟨_, rfl⟩
  have HPG : Hid ((Vl.parse s.data.toList fixed).1 = Rd.fin (Rd.value fixed (n + 1) s0).1 ∧ Vl.ofV (Vl.parse s.data.toList fixed).2 = Vl.ofV (Rd.value fixed (n + 1) s0).2) := by rw [hn, hs0]; exact Lib.hid ⟨rfl, rfl⟩
  have hd0 : s0.deep = 0 := by rw [hs0, hbg]
  have hnb : n ≤ 1501 := by omega
  have hsz1 := hb1.size
  have HZ2 : Hid (w2.heap[w.heap.size]? = some (.cells #[.int .i64 0, .string ⟨#[]⟩, .slice none 0 0, .slice none 0 0, .int .i64 0] 25 (0, 0))) := Lib.hid (by
    rw [hb2.block w.heap.size (by omega), hb1.block w.heap.size (by omega)]; exact HZ0.out)
  have HCV := Lib.hid (rvalue_any w1.heap.size g fixed n (by omega) s0 w2 hR (by omega) ⟨by omega, by omega⟩)
  have hne : w.heap.size ≠ w1.heap.size := by omega
  have HX := Lib.hid hw2
  rw [hw2] at HCV
  clear hstd hs0 hn hbg hb2 hR hrow hok hb1 hm hg hw2 HC
  go_wp2_with fail
  refine HCV.out.mono ?_
  rw [← HX.out]
  rintro r w3 ⟨cs, rfl, hrd, hr3, hf3⟩
  rw [← Vl.ofV_d] at hrd
  obtain ⟨v, hv⟩ : ∃ z, z = Vl.ofV (Rd.value fixed (n + 1) s0).2 := ⟨_, rfl⟩
  obtain ⟨s3, hs3⟩ : ∃ z, z = (Rd.value fixed (n + 1) s0).1 := ⟨_, rfl⟩
  rw [← hv] at hrd HPG
  rw [← hs3] at hr3 HPG
  obtain ⟨a1, a2, c1, c2, rfl, -, -⟩ := Z_open hrd
  obtain ⟨w4, hw4⟩ : ∃ z, z = w3.alloc (.cells #[.int .i64 v.kind, .string ⟨v.text.toArray⟩, .slice a1 v.items.length c1, .slice a2 v.fields.length c2, .int .i64 v.at_] 25) := ⟨_, rfl⟩
  have hb4 : Below w3.heap.size w3 w4 := by rw [hw4]; exact (Below.refl _ _).alloc (Nat.le_refl _) _
  have hz4 : w4.heap[w3.heap.size]? = some (.cells #[.int .i64 v.kind, .string ⟨v.text.toArray⟩, .slice a1 v.items.length c1, .slice a2 v.fields.length c2, .int .i64 v.at_] 25 (0, 0)) := by rw [hw4]; exact heap_at_new _ _
  have HZ4 := Lib.hid hz4
  have hs2 : w2.heap.size = w1.heap.size + 1 := by rw [HX.out]; simp
  have hs23 := hf3.size
  have HF4 := Lib.hid (hf3.trans (But.of_below hb4))
  have HRD4 := Lib.hid (hrd.to (Stands.below hb4))
  have HCE := Lib.hid (rend_any w1.heap.size g s3 w4 (hr3.below hb4))
  have HW4 := Lib.hid hw4
  rw [hw4] at HCE
  have hs34 := hb4.size
  clear hrd hr3 hf3 hb4 hz4 hw4 hv hs3 HCV
  go_wp2_with fail
  refine HCE.out.mono ?_
  rw [← HW4.out]
  rintro r w5 ⟨rfl, hr5, hf5⟩
  obtain ⟨s5, hs5⟩ : ∃ z, z = Rd.fin s3 := ⟨_, rfl⟩
  rw [← hs5] at hr5 HPG
  have c4' := hr5.c4
  have c3' := hr5.c3
  have HF5 := Lib.hid (HF4.out.trans hf5)
  have HZ5 : Hid (w5.heap[w3.heap.size]? = some (.cells #[.int .i64 v.kind, .string ⟨v.text.toArray⟩, .slice a1 v.items.length c1, .slice a2 v.fields.length c2, .int .i64 v.at_] 25 (0, 0))) := Lib.hid (by
    rw [hf5.block _ (block_lt HZ4.out) (by show ¬ w3.heap.size = w1.heap.size; omega)]; exact HZ4.out)
  have HY5 : Hid (w5.heap[w.heap.size]? = some (.cells #[.int .i64 0, .string ⟨#[]⟩, .slice none 0 0, .slice none 0 0, .int .i64 0] 25 (0, 0))) := Lib.hid (by
    rw [HF5.out.block _ (block_lt HZ2.out) (by show ¬ w.heap.size = w1.heap.size; omega)]; exact HZ2.out)
  have HRD5 : Hid (Reads w5 (fun x => w2.heap.size ≤ x) v.d [.int .i64 v.kind, .string ⟨v.text.toArray⟩, .slice a1 v.items.length c1, .slice a2 v.fields.length c2, .int .i64 v.at_]) :=
    Lib.hid (HRD4.out.to (Stands.but hf5 (fun x hx e => by have e' : x = w1.heap.size := e; omega)))
  have HB5 : Hid (Below w.heap.size w w5) := Lib.hid (below_frv (b := w1.heap.size) HBW.out (Nat.le_refl _) HF5.out (by omega))
  clear hr5 hf5 hs5 HCE
  have q0 := blk_cell HY5.out 0 (.int .i64 0) rfl
  have q1 := blk_cell HY5.out 1 (.string ⟨#[]⟩) rfl
  have q2 := blk_cell HY5.out 2 (.slice none 0 0) rfl
  have q3 := blk_cell HY5.out 3 (.slice none 0 0) rfl
  have q4 := blk_cell HY5.out 4 (.int .i64 0) rfl
  have f0 := blk_free HY5.out 0
  have f1 := blk_free HY5.out 1
  have f2 := blk_free HY5.out 2
  have f3 := blk_free HY5.out 3
  have f4 := blk_free HY5.out 4
  by_cases he : s5.err = 0
  · have e5 := neF (n := s5.err) (k := 0) (by omega)
    have HERR := Lib.hid he
    have z0 := blk_cell HZ5.out 0 (.int .i64 v.kind) rfl
    have z1 := blk_cell HZ5.out 1 (.string ⟨v.text.toArray⟩) rfl
    have z2 := blk_cell HZ5.out 2 (.slice a1 v.items.length c1) rfl
    have z3 := blk_cell HZ5.out 3 (.slice a2 v.fields.length c2) rfl
    have z4 := blk_cell HZ5.out 4 (.int .i64 v.at_) rfl
    clear he
    have n1 : ¬ w3.heap.size = w.heap.size := by omega
    have n2 : ¬ w.heap.size = w3.heap.size := by omega
    go_wp2_with fail
    refine bodyPost_ret (v := .tuple #[.agg #[.int .i64 v.kind, .string ⟨v.text.toArray⟩, .slice a1 v.items.length c1, .slice a2 v.fields.length c2, .int .i64 v.at_], .int .i64 0, .int .i64 0]) (by simp [results, Tryz.results13, go_sem, q0, q1, q2, q3, q4]) rfl ?_
    have hb6 := new_below HB5.out [.int .i64 v.kind, .string ⟨v.text.toArray⟩, .slice a1 v.items.length c1, .slice a2 v.fields.length c2, .int .i64 v.at_]
    have hst : Stands w5 (fun x => w2.heap.size ≤ x) (putCells w5 w.heap.size 0 [.int .i64 v.kind, .string ⟨v.text.toArray⟩, .slice a1 v.items.length c1, .slice a2 v.fields.length c2, .int .i64 v.at_]) (fun x => w.heap.size ≤ x) :=
      ⟨by rw [putCells_size]; exact Nat.le_refl _, fun x _ hx => ⟨by show w.heap.size ≤ x; omega, putCells_ne _ _ (by show ¬ x = w.heap.size; omega) _ _ _⟩⟩
    have hrd := HRD5.out.to hst
    exact ⟨hb6, HSTD.out, .inl ⟨v, a1, a2, c1, c2, HPG.out.2.symm, by rw [HPG.out.1]; exact HERR.out, rfl, hrd⟩⟩
  · have e5 := neT (n := s5.err) (k := 0) (by omega)
    have HERR := Lib.hid he
    clear he
    go_wp2_with fail
    have hS : w5.cell? ⟨w1.heap.size, 3, none⟩ = some (.int .i64 s5.at_) ∧ w5.cell? ⟨w1.heap.size, 4, none⟩ = some (.int .i64 s5.err) := ⟨c3', c4'⟩
    refine wp_region_phase (fun w' => w'.cell? ⟨w1.heap.size, 3, none⟩ = some (.int .i64 s5.at_) ∧ w'.cell? ⟨w1.heap.size, 4, none⟩ = some (.int .i64 s5.err)) 8 (by kernel_rfl) ?_
    refine wpAnyB_take (i := 0) (v := (.agg #[.int .i64 0, .string ⟨#[]⟩, .slice none 0 0, .slice none 0 0, .int .i64 0])) (by kernel_rfl) (by decide) rfl (by kernel_rfl) (by kernel_rfl) (by kernel_rfl) (fun _ _ _ h => h) (Or.inl ⟨by rfl, fun w hSw => by obtain ⟨s3, s4⟩ := hSw; go_simp⟩) hS ?_; simp only [Act.put, Array.getInternal_eq_getElem, List.getElem_toArray, List.getElem_cons_zero, List.getElem_cons_succ, List.setIfInBounds_toArray, List.set_cons_zero, List.set_cons_succ]
    refine wpAnyB_take (i := 1) (v := (.pointer (some ⟨w1.heap.size, 3, none⟩))) (by kernel_rfl) (by decide) rfl (by kernel_rfl) (by kernel_rfl) (by kernel_rfl) (fun _ _ _ h => h) (Or.inl ⟨by rfl, fun w hSw => by obtain ⟨s3, s4⟩ := hSw; go_simp⟩) hS ?_; simp only [Act.put, Array.getInternal_eq_getElem, List.getElem_toArray, List.getElem_cons_zero, List.getElem_cons_succ, List.setIfInBounds_toArray, List.set_cons_zero, List.set_cons_succ]
    refine wpAnyB_take (i := 2) (v := (.int .i64 s5.at_)) (by kernel_rfl) (by decide) rfl (by kernel_rfl) (by kernel_rfl) (by kernel_rfl) (fun _ _ _ h => h) (Or.inl ⟨by rfl, fun w hSw => by obtain ⟨s3, s4⟩ := hSw; go_simp⟩) hS ?_; simp only [Act.put, Array.getInternal_eq_getElem, List.getElem_toArray, List.getElem_cons_zero, List.getElem_cons_succ, List.setIfInBounds_toArray, List.set_cons_zero, List.set_cons_succ]
    refine wpAnyB_take (i := 3) (v := (.pointer (some ⟨w1.heap.size, 4, none⟩))) (by kernel_rfl) (by decide) rfl (by kernel_rfl) (by kernel_rfl) (by kernel_rfl) (fun _ _ _ h => h) (Or.inl ⟨by rfl, fun w hSw => by obtain ⟨s3, s4⟩ := hSw; go_simp⟩) hS ?_; simp only [Act.put, Array.getInternal_eq_getElem, List.getElem_toArray, List.getElem_cons_zero, List.getElem_cons_succ, List.setIfInBounds_toArray, List.set_cons_zero, List.set_cons_succ]
    refine wpAnyB_take (i := 4) (v := (.int .i64 s5.err)) (by kernel_rfl) (by decide) rfl (by kernel_rfl) (by kernel_rfl) (by kernel_rfl) (fun _ _ _ h => h) (Or.inl ⟨by rfl, fun w hSw => by obtain ⟨s3, s4⟩ := hSw; go_simp⟩) hS ?_; simp only [Act.put, Array.getInternal_eq_getElem, List.getElem_toArray, List.getElem_cons_zero, List.getElem_cons_succ, List.setIfInBounds_toArray, List.set_cons_zero, List.set_cons_succ]
    refine wpAnyB_one (i := 5) (by kernel_rfl) ?_
    refine wpOp_intro (by decide) (fun K5 HK5 => ?_); simp only [List.drop_succ_cons, List.drop_zero, List.take_succ_cons, List.take_zero]
    go_wp2_with fail
    have hS2 : (putCells w5 w.heap.size 0 [.int .i64 0, .string ⟨#[]⟩, .slice none 0 0, .slice none 0 0, .int .i64 0]).drew.cell? ⟨w1.heap.size, 3, none⟩ = some (.int .i64 s5.at_) ∧ (putCells w5 w.heap.size 0 [.int .i64 0, .string ⟨#[]⟩, .slice none 0 0, .slice none 0 0, .int .i64 0]).drew.cell? ⟨w1.heap.size, 4, none⟩ = some (.int .i64 s5.err) := by
      have hq := fun k => put_cell (w := w5) (show w1.heap.size ≠ w.heap.size by omega) [.int .i64 0, .string ⟨#[]⟩, .slice none 0 0, .slice none 0 0, .int .i64 0] k
      exact ⟨(hq 3).trans hS.1, (hq 4).trans hS.2⟩
    refine HK5.out _ _ ⟨fun _ => hS2, ?_⟩
    clear HK5
    refine wpAnyB_take (i := 6) (v := (.int .i64 s5.at_)) (by kernel_rfl) (by decide) rfl (by kernel_rfl) (by kernel_rfl) (by kernel_rfl) (fun _ _ _ h => h) (Or.inl ⟨by rfl, fun w hSw => by obtain ⟨s3, s4⟩ := hSw; go_simp⟩) hS2 ?_; simp only [Act.put, Array.getInternal_eq_getElem, List.getElem_toArray, List.getElem_cons_zero, List.getElem_cons_succ, List.setIfInBounds_toArray, List.set_cons_zero, List.set_cons_succ]
    refine wpAnyB_take (i := 7) (v := (.int .i64 s5.err)) (by kernel_rfl) (by decide) rfl (by kernel_rfl) (by kernel_rfl) (by kernel_rfl) (fun _ _ _ h => h) (Or.inl ⟨by rfl, fun w hSw => by obtain ⟨s3, s4⟩ := hSw; go_simp⟩) hS2 ?_; simp only [Act.put, Array.getInternal_eq_getElem, List.getElem_toArray, List.getElem_cons_zero, List.getElem_cons_succ, List.setIfInBounds_toArray, List.set_cons_zero, List.set_cons_succ]
    refine wpAnyB_done (by kernel_rfl) ?_ _
    go_wp2
    refine bodyPost_ret (v := .tuple #[.agg #[.int .i64 0, .string ⟨#[]⟩, .slice none 0 0, .slice none 0 0, .int .i64 0], .int .i64 s5.at_, .int .i64 s5.err]) (by simp [results, Tryz.results13, go_sem, q0, q1, q2, q3, q4]) rfl ?_
    have hb6 := new_below HB5.out [.int .i64 0, .string ⟨#[]⟩, .slice none 0 0, .slice none 0 0, .int .i64 0]
    refine ⟨⟨hb6.os, hb6.tape, hb6.output, hb6.size, hb6.block⟩, HSTD.out, .inr ⟨by rw [HPG.out.1]; exact HERR.out, by rw [HPG.out.1]⟩⟩
end Go.Proofs.YtefjgpkpplkkgaaGreatDoor
namespace Go.Proofs.YtefjgpkpplkkgaaGreatDoor
set_option linter.unusedSimpArgs false
set_option linter.unusedVariables false
open Go Go.RowKit

/-- The document's 'Same', of values no greater than N. -/
def RefC (N : Nat) : Prop := ∀ (x y : Vl.Z), x.n ≤ N → ∀ (a1 a2 b1 b2 : Option Addr) (c1 c2 d1 d2 : Nat) (w : World) (P : Nat → Prop),
  Reads w P x.d [.int .i64 x.kind, .string ⟨x.text.toArray⟩, .slice a1 x.items.length c1, .slice a2 x.fields.length c2, .int .i64 x.at_] →
  Reads w P y.d [.int .i64 y.kind, .string ⟨y.text.toArray⟩, .slice b1 y.items.length d1, .slice b2 y.fields.length d2, .int .i64 y.at_] →
  Calls Tryz.prog 16 #[.agg #[.int .i64 x.kind, .string ⟨x.text.toArray⟩, .slice a1 x.items.length c1, .slice a2 x.fields.length c2, .int .i64 x.at_], .agg #[.int .i64 y.kind, .string ⟨y.text.toArray⟩, .slice b1 y.items.length d1, .slice b2 y.fields.length d2, .int .i64 y.at_], .bool false] w
    (fun r w' => r = .returned (.bool (x.same y)) ∧ Below w.heap.size w w')
set_option maxHeartbeats 2000000 in
set_option maxRecDepth 100000 in
theorem refArgs_any (N : Nat) (IH : RefC N) (xs ys : List Vl.ZA) (hx : ∀ x ∈ xs, x.n ≤ N) (a b : Option Addr) (c d : Nat) (w : World) (P : Nat → Prop) (hlx : xs.length ≤ 9223372036854775807)
    (hrx : Reads w P (.seq 7 (xs.map Vl.ZA.d)) [.slice a xs.length c]) (hry : Reads w P (.seq 7 (ys.map Vl.ZA.d)) [.slice b ys.length d]) :
    Calls Tryz.prog 46 #[.slice a xs.length c, .slice b ys.length d, .bool false] w (fun r w' => r = .returned (.bool (Vl.ZA.sames xs ys)) ∧ Below w.heap.size w w') := by
  have HX := Lib.hid hx
  have HRX := Lib.hid hrx
  have HRY := Lib.hid hry
  have HIH := Lib.hid IH
  clear hx hrx hry IH
  by_cases hlen : xs.length = ys.length
  rotate_left
  · have e0 : ((xs.length : Int) != (ys.length : Int)) = true := neT (by omega)
    have HS : Hid (Vl.ZA.sames xs ys = false) := Lib.hid (Vl.ZA.sames_len hlen)
    go_enter Tryz.func46, Tryz.ntmps46
    go_wp2_with fail
    go_ret
    exact ⟨by rw [HS.out]; rfl, Below.refl _ _⟩
  have e0 : ((xs.length : Int) != (ys.length : Int)) = false := neF (by omega)
  obtain ⟨S, hS⟩ : ∃ S, S = Vl.ZA.sames xs ys := ⟨_, rfl⟩
  have HS := Lib.hid hS
  rw [← hS]
  clear hS
  have HLEN := Lib.hid hlen
  clear hlen
  go_enter Tryz.func46, Tryz.ntmps46
  go_wp2_with fail
  go_loopg [15] (xs.length + 1) (fun k i wr => ∃ (j : Nat), k = xs.length + 1 - j ∧ j ≤ xs.length ∧ i = .int .i64 j ∧ S = Vl.ZA.sames (xs.drop j) (ys.drop j) ∧ Below w.heap.size w wr)
  case atStart => exact ⟨0, rfl, Nat.zero_le _, rfl, HS.out, Below.refl _ _⟩
  case round =>
    obtain ⟨j, hk, hj, rfl, hs, hbe⟩ := hrel
    have HK := Lib.hid hk
    have HS2 := Lib.hid hs
    have HBE := Lib.hid hbe
    clear hk hs hbe
    by_cases hjl : j < xs.length
    · have e1 : decide (j < xs.length) = true := decide_eq_true hjl
      have hjy : j < ys.length := by have := HLEN.out; omega
      have e2 : decide (j < ys.length) = true := decide_eq_true hjy
      obtain ⟨x, hx⟩ : ∃ z, xs[j]? = some z := ⟨xs[j], List.getElem?_eq_getElem hjl⟩
      obtain ⟨y, hy⟩ : ∃ z, ys[j]? = some z := ⟨ys[j], List.getElem?_eq_getElem hjy⟩
      have hdx : xs.drop j = x :: xs.drop (j + 1) := by rw [List.drop_eq_getElem_cons hjl]; rw [List.getElem?_eq_getElem hjl] at hx; rw [Option.some.inj hx]
      have hdy : ys.drop j = y :: ys.drop (j + 1) := by rw [List.drop_eq_getElem_cons hjy]; rw [List.getElem?_eq_getElem hjy] at hy; rw [Option.some.inj hy]
      have HS3 : Hid (S = (x.same y && Vl.ZA.sames (xs.drop (j + 1)) (ys.drop (j + 1)))) := by have := HS2.out; rw [hdx, hdy, Vl.ZA.sames_cons] at this; exact Lib.hid this
      have HEQ := Lib.hid (Vl.ZA.same_eq x y)
      have HNX := Lib.hid (HX.out x (List.mem_of_getElem? hx))
      obtain ⟨g, o, cs, ha, -, hgl, hlen, hcell, hd⟩ := HRX.out.el j x.d (by rw [List.getElem?_map, hx]; rfl)
      obtain ⟨g', o', cs', hb, -, hgl', hlen', hcell', hd'⟩ := HRY.out.el j y.d (by rw [List.getElem?_map, hy]; rfl)
      obtain ⟨a1, a2, u1, u2, rfl, hdv⟩ := ZA_open hd
      obtain ⟨b1, b2, v1, v2, rfl, hdv'⟩ := ZA_open hd'
      have k0 : ∀ q : Later wr, q.1.cell? ⟨g, o + j * 7, none⟩ = _ := Later.cell ((HBE.out.cell (p := ⟨g, o + j * 7, none⟩) hgl).trans (hcell 0 _ rfl))
      have k1 : ∀ q : Later wr, q.1.cell? ⟨g, o + j * 7 + 1, none⟩ = _ := Later.cell ((HBE.out.cell (p := ⟨g, o + j * 7 + 1, none⟩) hgl).trans (hcell 1 _ rfl))
      have k2 : ∀ q : Later wr, q.1.cell? ⟨g, o + j * 7 + 2, none⟩ = _ := Later.cell ((HBE.out.cell (p := ⟨g, o + j * 7 + 2, none⟩) hgl).trans (hcell 2 _ rfl))
      have k3 : ∀ q : Later wr, q.1.cell? ⟨g, o + j * 7 + 3, none⟩ = _ := Later.cell ((HBE.out.cell (p := ⟨g, o + j * 7 + 3, none⟩) hgl).trans (hcell 3 _ rfl))
      have k4 : ∀ q : Later wr, q.1.cell? ⟨g, o + j * 7 + 4, none⟩ = _ := Later.cell ((HBE.out.cell (p := ⟨g, o + j * 7 + 4, none⟩) hgl).trans (hcell 4 _ rfl))
      have k5 : ∀ q : Later wr, q.1.cell? ⟨g, o + j * 7 + 5, none⟩ = _ := Later.cell ((HBE.out.cell (p := ⟨g, o + j * 7 + 5, none⟩) hgl).trans (hcell 5 _ rfl))
      have k6 : ∀ q : Later wr, q.1.cell? ⟨g, o + j * 7 + 6, none⟩ = _ := Later.cell ((HBE.out.cell (p := ⟨g, o + j * 7 + 6, none⟩) hgl).trans (hcell 6 _ rfl))
      have m0 : ∀ q : Later wr, q.1.cell? ⟨g', o' + j * 7, none⟩ = _ := Later.cell ((HBE.out.cell (p := ⟨g', o' + j * 7, none⟩) hgl').trans (hcell' 0 _ rfl))
      have m1 : ∀ q : Later wr, q.1.cell? ⟨g', o' + j * 7 + 1, none⟩ = _ := Later.cell ((HBE.out.cell (p := ⟨g', o' + j * 7 + 1, none⟩) hgl').trans (hcell' 1 _ rfl))
      have m2 : ∀ q : Later wr, q.1.cell? ⟨g', o' + j * 7 + 2, none⟩ = _ := Later.cell ((HBE.out.cell (p := ⟨g', o' + j * 7 + 2, none⟩) hgl').trans (hcell' 2 _ rfl))
      have m3 : ∀ q : Later wr, q.1.cell? ⟨g', o' + j * 7 + 3, none⟩ = _ := Later.cell ((HBE.out.cell (p := ⟨g', o' + j * 7 + 3, none⟩) hgl').trans (hcell' 3 _ rfl))
      have m4 : ∀ q : Later wr, q.1.cell? ⟨g', o' + j * 7 + 4, none⟩ = _ := Later.cell ((HBE.out.cell (p := ⟨g', o' + j * 7 + 4, none⟩) hgl').trans (hcell' 4 _ rfl))
      have m5 : ∀ q : Later wr, q.1.cell? ⟨g', o' + j * 7 + 5, none⟩ = _ := Later.cell ((HBE.out.cell (p := ⟨g', o' + j * 7 + 5, none⟩) hgl').trans (hcell' 5 _ rfl))
      have m6 : ∀ q : Later wr, q.1.cell? ⟨g', o' + j * 7 + 6, none⟩ = _ := Later.cell ((HBE.out.cell (p := ⟨g', o' + j * 7 + 6, none⟩) hgl').trans (hcell' 6 _ rfl))
      subst ha
      subst hb
      have HCALL : ∀ q : Later wr, Calls Tryz.prog 16 #[.agg #[.int .i64 x.v.kind, .string ⟨x.v.text.toArray⟩, .slice a1 x.v.items.length u1, .slice a2 x.v.fields.length u2, .int .i64 x.v.at_], .agg #[.int .i64 y.v.kind, .string ⟨y.v.text.toArray⟩, .slice b1 y.v.items.length v1, .slice b2 y.v.fields.length v2, .int .i64 y.v.at_], .bool false] q.1 (fun r w' => r = .returned (.bool (x.v.same y.v)) ∧ Below q.1.heap.size q.1 w') := fun q => HIH.out x.v y.v (by have := HNX.out; have := Vl.ZA.n_eq x; omega) a1 a2 b1 b2 u1 u2 v1 v2 q.1 P (hdv.to (Stands.below (HBE.out.trans (q.2.mono HBE.out.size)))) (hdv'.to (Stands.below (HBE.out.trans (q.2.mono HBE.out.size))))
      obtain ⟨qv, hqv⟩ : ∃ q, q = x.v.same y.v := ⟨_, rfl⟩
      rw [← hqv] at HCALL HEQ
      have HQV := Lib.hid hqv
      have HCALLH := Lib.hid HCALL
      clear hx hy hdx hdy hlen hlen' hcell hcell' hd hd' hdv hdv' HS2 hqv HCALL
      by_cases hn : x.name = y.name
      rotate_left
      · have en : (x.name == y.name) = false := by rw [beq_eq_false_iff_ne]; exact hn
        have HF : Hid (S = false) := by rw [HS3.out, HEQ.out, decide_eq_false hn]; exact Lib.hid rfl
        clear hn
        go_wp2_with fail
        refine wp_region_later (by kernel_rfl) (by kernel_rfl) ?_
        repeat (go_big_quiet_step (exact Later.call (HCALLH.out _)))
        refine wpQuiet_nil ?_
        rintro w6 ⟨q6, rfl⟩
        go_wp2_with fail
        go_ret
        exact ⟨by rw [HF.out]; rfl, HBE.out.trans (q6.2.mono HBE.out.size)⟩
      have en : (x.name == y.name) = true := by rw [beq_iff_eq]; exact hn
      have HF : Hid (S = (qv && Vl.ZA.sames (xs.drop (j + 1)) (ys.drop (j + 1)))) := by rw [HS3.out, HEQ.out, decide_eq_true hn, Bool.true_and]; exact Lib.hid rfl
      clear hn
      go_wp2_with fail
      refine wp_region_later (by kernel_rfl) (by kernel_rfl) ?_
      repeat (go_big_quiet_step (exact Later.call (HCALLH.out _)))
      refine wpQuiet_nil ?_
      rintro w6 ⟨q6, rfl⟩
      cases qv
      · go_wp2_with fail
        go_ret
        exact ⟨by rw [HF.out]; rfl, HBE.out.trans (q6.2.mono HBE.out.size)⟩
      · go_wp2_with fail
        go_roundg (xs.length + 1 - (j + 1))
        case measure => rw [HK.out]; omega
        case rel => exact ⟨j + 1, rfl, hjl, by go_num, by rw [HF.out]; rfl, HBE.out.trans (q6.2.mono HBE.out.size)⟩
    · have e1 : decide (j < xs.length) = false := decide_eq_false hjl
      have HS3 : Hid (S = true) := by
        have := HS2.out
        rw [List.drop_eq_nil_of_le (by omega), List.drop_eq_nil_of_le (by have := HLEN.out; omega), Vl.ZA.sames_nil] at this
        exact Lib.hid this
      go_wp2_with fail
      go_ret
      exact ⟨by rw [HS3.out]; rfl, HBE.out⟩
set_option maxHeartbeats 2000000 in
set_option maxRecDepth 100000 in
theorem ref_step (N : Nat) (hNb : N ≤ 9000000000000000000) (IH : RefC N) : RefC (N + 1) := by
  intro x y hN a1 a2 b1 b2 c1 c2 d1 d2 w P hx hy
  by_cases hk : x.kind = y.kind
  rotate_left
  · have e1 : (x.kind != y.kind) = true := by simp [hk]
    have HS : Hid (x.same y = false) := by rw [Vl.Z.same_eq, decide_eq_false hk]; exact Lib.hid rfl
    have HB : Hid (Below w.heap.size w ((w.alloc (.cells #[.int .i64 x.kind, .string ⟨x.text.toArray⟩, .slice a1 x.items.length c1, .slice a2 x.fields.length c2, .int .i64 x.at_] 25)).alloc (.cells #[.int .i64 y.kind, .string ⟨y.text.toArray⟩, .slice b1 y.items.length d1, .slice b2 y.fields.length d2, .int .i64 y.at_] 25))) := Lib.hid (((Below.refl _ _).alloc (Nat.le_refl _) _).alloc (by simp) _)
    clear hk hx hy
    go_enter Tryz.func16, Tryz.ntmps16
    go_wp2_with fail
    go_ret
    exact ⟨by rw [HS.out]; rfl, HB.out⟩
  rw [← hk] at hy ⊢
  have HKK := Lib.hid hk
  obtain ⟨x1, x2, x3, x4, ex, hxi, hxf⟩ := Z_open hx
  obtain ⟨y1, y2, y3, y4, ey, hyi, hyf⟩ := Z_open hy
  obtain ⟨rfl, rfl, rfl, rfl⟩ : a1 = x1 ∧ c1 = x3 ∧ a2 = x2 ∧ c2 = x4 := by simpa [and_assoc] using ex
  obtain ⟨rfl, rfl, rfl, rfl⟩ : b1 = y1 ∧ d1 = y3 ∧ b2 = y2 ∧ d2 = y4 := by simpa [and_assoc, hk] using ey
  have hn := Vl.Z.n_eq x
  have hl1 := Vl.Z.ns_len x.items
  have hl2 := Vl.ZA.ns_len x.fields
  obtain ⟨wc, hwc⟩ : ∃ z, z = ((w.alloc (.cells #[.int .i64 x.kind, .string ⟨x.text.toArray⟩, .slice a1 x.items.length c1, .slice a2 x.fields.length c2, .int .i64 x.at_] 25)).alloc (.cells #[.int .i64 x.kind, .string ⟨y.text.toArray⟩, .slice b1 y.items.length d1, .slice b2 y.fields.length d2, .int .i64 y.at_] 25)) := ⟨_, rfl⟩
  have hbc : Below w.heap.size w wc := by rw [hwc]; exact ((Below.refl _ _).alloc (Nat.le_refl _) _).alloc (by simp) _
  have HBC := Lib.hid hbc
  have HWC := Lib.hid hwc
  have HXF := Lib.hid (hxf.to (Stands.below hbc))
  have HYF := Lib.hid (hyf.to (Stands.below hbc))
  have HXI := Lib.hid (hxi.to (Stands.below hbc))
  have HYI := Lib.hid (hyi.to (Stands.below hbc))
  have HEQ := Lib.hid (Vl.Z.same_eq x y)
  have HNF : Hid (∀ z ∈ x.fields, z.n ≤ N) := Lib.hid (fun z hz => by have := Vl.ZA.ns_mem hz; omega)
  have HNI : Hid (∀ z ∈ x.items, z.n ≤ N) := Lib.hid (fun z hz => by have := Vl.Z.ns_mem hz; omega)
  have HIH := Lib.hid IH
  have hfb : x.fields.length ≤ 9223372036854775807 := by omega
  have hib : x.items.length ≤ 9223372036854775807 := by omega
  have hx0 : (wc.heap[w.heap.size]? = some (.cells #[.int .i64 x.kind, .string ⟨x.text.toArray⟩, .slice a1 x.items.length c1, .slice a2 x.fields.length c2, .int .i64 x.at_] 25 (0, 0))) := by
    rw [hwc, Lib.alloc_old _ _ _ (by simp)]; exact heap_at_new _ _
  have hy0 : (wc.heap[w.heap.size + 1]? = some (.cells #[.int .i64 x.kind, .string ⟨y.text.toArray⟩, .slice b1 y.items.length d1, .slice b2 y.fields.length d2, .int .i64 y.at_] 25 (0, 0))) := by
    rw [hwc]
    have := heap_at_new (w.alloc (.cells #[.int .i64 x.kind, .string ⟨x.text.toArray⟩, .slice a1 x.items.length c1, .slice a2 x.fields.length c2, .int .i64 x.at_] 25)) (.cells #[.int .i64 x.kind, .string ⟨y.text.toArray⟩, .slice b1 y.items.length d1, .slice b2 y.fields.length d2, .int .i64 y.at_] 25)
    rw [show (w.alloc (.cells #[.int .i64 x.kind, .string ⟨x.text.toArray⟩, .slice a1 x.items.length c1, .slice a2 x.fields.length c2, .int .i64 x.at_] 25)).heap.size = w.heap.size + 1 by simp] at this
    exact this
  have HX0 := Lib.hid hx0
  have HY0 := Lib.hid hy0
  clear hxi hyi hxf hyf hx hy ex ey hbc hwc IH hx0 hy0 hn hk
  obtain ⟨S, hS⟩ : ∃ S, S = x.same y := ⟨_, rfl⟩
  rw [← hS] at HEQ ⊢
  clear hS
  have HE2 : Hid (S = (decide (x.text = y.text) && (Vl.Z.sames x.items y.items && Vl.ZA.sames x.fields y.fields))) := by rw [HEQ.out, decide_eq_true HKK.out]; exact Lib.hid rfl
  clear HEQ
  by_cases ht : x.text = y.text
  rotate_left
  · have e3 : (x.text == y.text) = false := by rw [beq_eq_false_iff_ne]; exact ht
    have HS : Hid (S = false) := by rw [HE2.out, decide_eq_false ht]; exact Lib.hid rfl
    clear ht
    go_enter Tryz.func16, Tryz.ntmps16
    go_wp2_with fail
    go_ret
    exact ⟨by rw [HS.out]; rfl, by rw [← HWC.out]; exact HBC.out⟩
  have e3 : (x.text == y.text) = true := by rw [beq_iff_eq]; exact ht
  have HE3 : Hid (S = (Vl.Z.sames x.items y.items && Vl.ZA.sames x.fields y.fields)) := by rw [HE2.out, decide_eq_true ht]; exact Lib.hid rfl
  clear ht HE2
  by_cases hlen : x.items.length = y.items.length
  rotate_left
  · have e4 : ((x.items.length : Int) != (y.items.length : Int)) = true := neT (by omega)
    have HS : Hid (S = false) := by rw [HE3.out, Vl.Z.sames_len hlen]; exact Lib.hid rfl
    clear hlen
    go_enter Tryz.func16, Tryz.ntmps16
    go_wp2_with fail
    go_ret
    exact ⟨by rw [HS.out]; rfl, by rw [← HWC.out]; exact HBC.out⟩
  have e4 : ((x.items.length : Int) != (y.items.length : Int)) = false := neF (by omega)
  have HLEN := Lib.hid hlen
  clear hlen
  go_enter Tryz.func16, Tryz.ntmps16
  go_wp2_with fail
  rw [← HWC.out]
  go_loopg [42] (x.items.length + 1) (fun k i wr => ∃ (j : Nat), k = x.items.length + 1 - j ∧ j ≤ x.items.length ∧ i = .int .i64 j ∧ S = (Vl.Z.sames (x.items.drop j) (y.items.drop j) && Vl.ZA.sames x.fields y.fields) ∧ Below wc.heap.size wc wr)
  case atStart => exact ⟨0, rfl, Nat.zero_le _, rfl, HE3.out, Below.refl _ _⟩
  case round =>
    obtain ⟨j, hk, hj, rfl, hs, hbe⟩ := hrel
    have HK := Lib.hid hk
    have HS2 := Lib.hid hs
    have HBE := Lib.hid hbe
    have HX2 : Hid (wr.heap[w.heap.size]? = some (.cells #[.int .i64 x.kind, .string ⟨x.text.toArray⟩, .slice a1 x.items.length c1, .slice a2 x.fields.length c2, .int .i64 x.at_] 25 (0, 0))) := Lib.hid ((hbe.block _ (block_lt HX0.out)).trans HX0.out)
    have HY2 : Hid (wr.heap[w.heap.size + 1]? = some (.cells #[.int .i64 x.kind, .string ⟨y.text.toArray⟩, .slice b1 y.items.length d1, .slice b2 y.fields.length d2, .int .i64 y.at_] 25 (0, 0))) := Lib.hid ((hbe.block _ (block_lt HY0.out)).trans HY0.out)
    clear hk hs hbe
    by_cases hjl : j < x.items.length
    · have e5 : decide (j < x.items.length) = true := decide_eq_true hjl
      have hjy : j < y.items.length := by have := HLEN.out; omega
      have e6 : decide (j < y.items.length) = true := decide_eq_true hjy
      obtain ⟨p, hp⟩ : ∃ z, x.items[j]? = some z := ⟨x.items[j], List.getElem?_eq_getElem hjl⟩
      obtain ⟨q, hq⟩ : ∃ z, y.items[j]? = some z := ⟨y.items[j], List.getElem?_eq_getElem hjy⟩
      have hdx : x.items.drop j = p :: x.items.drop (j + 1) := by rw [List.drop_eq_getElem_cons hjl]; rw [List.getElem?_eq_getElem hjl] at hp; rw [Option.some.inj hp]
      have hdy : y.items.drop j = q :: y.items.drop (j + 1) := by rw [List.drop_eq_getElem_cons hjy]; rw [List.getElem?_eq_getElem hjy] at hq; rw [Option.some.inj hq]
      have HS3 : Hid (S = ((p.same q && Vl.Z.sames (x.items.drop (j + 1)) (y.items.drop (j + 1))) && Vl.ZA.sames x.fields y.fields)) := by have := HS2.out; rw [hdx, hdy, Vl.Z.sames_cons] at this; exact Lib.hid this
      have HNP := Lib.hid (HNI.out p (List.mem_of_getElem? hp))
      obtain ⟨g, o, cs, ha, -, hgl, hlen, hcell, hd⟩ := HXI.out.el j p.d (by rw [List.getElem?_map, hp]; rfl)
      obtain ⟨g', o', cs', hb, -, hgl', hlen', hcell', hd'⟩ := HYI.out.el j q.d (by rw [List.getElem?_map, hq]; rfl)
      obtain ⟨p1, p2, u1, u2, rfl, -, -⟩ := Z_open hd
      obtain ⟨q1, q2, v1, v2, rfl, -, -⟩ := Z_open hd'
      have k0 : ∀ q : Later wr, q.1.cell? ⟨g, o + j * 5, none⟩ = _ := Later.cell ((HBE.out.cell (p := ⟨g, o + j * 5, none⟩) hgl).trans (hcell 0 _ rfl))
      have k1 : ∀ q : Later wr, q.1.cell? ⟨g, o + j * 5 + 1, none⟩ = _ := Later.cell ((HBE.out.cell (p := ⟨g, o + j * 5 + 1, none⟩) hgl).trans (hcell 1 _ rfl))
      have k2 : ∀ q : Later wr, q.1.cell? ⟨g, o + j * 5 + 2, none⟩ = _ := Later.cell ((HBE.out.cell (p := ⟨g, o + j * 5 + 2, none⟩) hgl).trans (hcell 2 _ rfl))
      have k3 : ∀ q : Later wr, q.1.cell? ⟨g, o + j * 5 + 3, none⟩ = _ := Later.cell ((HBE.out.cell (p := ⟨g, o + j * 5 + 3, none⟩) hgl).trans (hcell 3 _ rfl))
      have k4 : ∀ q : Later wr, q.1.cell? ⟨g, o + j * 5 + 4, none⟩ = _ := Later.cell ((HBE.out.cell (p := ⟨g, o + j * 5 + 4, none⟩) hgl).trans (hcell 4 _ rfl))
      have m0 : ∀ q : Later wr, q.1.cell? ⟨g', o' + j * 5, none⟩ = _ := Later.cell ((HBE.out.cell (p := ⟨g', o' + j * 5, none⟩) hgl').trans (hcell' 0 _ rfl))
      have m1 : ∀ q : Later wr, q.1.cell? ⟨g', o' + j * 5 + 1, none⟩ = _ := Later.cell ((HBE.out.cell (p := ⟨g', o' + j * 5 + 1, none⟩) hgl').trans (hcell' 1 _ rfl))
      have m2 : ∀ q : Later wr, q.1.cell? ⟨g', o' + j * 5 + 2, none⟩ = _ := Later.cell ((HBE.out.cell (p := ⟨g', o' + j * 5 + 2, none⟩) hgl').trans (hcell' 2 _ rfl))
      have m3 : ∀ q : Later wr, q.1.cell? ⟨g', o' + j * 5 + 3, none⟩ = _ := Later.cell ((HBE.out.cell (p := ⟨g', o' + j * 5 + 3, none⟩) hgl').trans (hcell' 3 _ rfl))
      have m4 : ∀ q : Later wr, q.1.cell? ⟨g', o' + j * 5 + 4, none⟩ = _ := Later.cell ((HBE.out.cell (p := ⟨g', o' + j * 5 + 4, none⟩) hgl').trans (hcell' 4 _ rfl))
      have z1 : ∀ r : Later wr, r.1.cell? ⟨w.heap.size, 2, none⟩ = some (.slice a1 x.items.length c1) := Later.cell (blk_cell HX2.out 2 _ rfl)
      have z2 : ∀ r : Later wr, r.1.cell? ⟨w.heap.size + 1, 2, none⟩ = some (.slice b1 y.items.length d1) := Later.cell (blk_cell HY2.out 2 _ rfl)
      subst ha
      subst hb
      have HCALL : ∀ r : Later wr, Calls Tryz.prog 16 #[.agg #[.int .i64 p.kind, .string ⟨p.text.toArray⟩, .slice p1 p.items.length u1, .slice p2 p.fields.length u2, .int .i64 p.at_], .agg #[.int .i64 q.kind, .string ⟨q.text.toArray⟩, .slice q1 q.items.length v1, .slice q2 q.fields.length v2, .int .i64 q.at_], .bool false] r.1 (fun e w' => e = .returned (.bool (p.same q)) ∧ Below r.1.heap.size r.1 w') := fun r => HIH.out p q HNP.out p1 p2 q1 q2 u1 u2 v1 v2 r.1 P (hd.to (Stands.below (HBE.out.trans (r.2.mono HBE.out.size)))) (hd'.to (Stands.below (HBE.out.trans (r.2.mono HBE.out.size))))
      obtain ⟨qv, hqv⟩ : ∃ r, r = p.same q := ⟨_, rfl⟩
      rw [← hqv] at HCALL HS3
      have HCALLH := Lib.hid HCALL
      clear hp hq hdx hdy hlen hlen' hcell hcell' hd hd' HS2 hqv HCALL
      go_wp2_with fail
      refine wp_region_later (by kernel_rfl) (by kernel_rfl) ?_
      repeat (go_big_quiet_step (exact Later.call (HCALLH.out _)))
      refine wpQuiet_nil ?_
      rintro w6 ⟨q6, rfl⟩
      have HB6 := Lib.hid (HBE.out.trans (q6.2.mono HBE.out.size))
      have HB7 := Lib.hid (HBC.out.trans (HB6.out.mono HBC.out.size))
      clear k0 k1 k2 k3 k4 m0 m1 m2 m3 m4 z1 z2
      cases qv
      · go_wp2_with fail
        go_ret
        exact ⟨by rw [HS3.out]; rfl, HB7.out⟩
      · go_wp2_with fail
        go_roundg (x.items.length + 1 - (j + 1))
        case measure => rw [HK.out]; omega
        case rel => exact ⟨j + 1, rfl, hjl, by go_num, by rw [HS3.out]; rfl, HB6.out⟩
    · have e5 : decide (j < x.items.length) = false := decide_eq_false hjl
      have HS3 : Hid (S = Vl.ZA.sames x.fields y.fields) := by
        have := HS2.out
        rw [List.drop_eq_nil_of_le (by omega), List.drop_eq_nil_of_le (by have := HLEN.out; omega), Vl.Z.sames_nil, Bool.true_and] at this
        exact Lib.hid this
      have z3 : wr.cell? ⟨w.heap.size, 3, none⟩ = some (.slice a2 x.fields.length c2) := blk_cell HX2.out 3 _ rfl
      have z4 : wr.cell? ⟨w.heap.size + 1, 3, none⟩ = some (.slice b2 y.fields.length d2) := blk_cell HY2.out 3 _ rfl
      have HCF := Lib.hid (refArgs_any N HIH.out x.fields y.fields HNF.out a2 b2 c2 d2 wr P hfb (HXF.out.to (Stands.below HBE.out)) (HYF.out.to (Stands.below HBE.out)))
      have HB7 := Lib.hid (HBC.out.trans (HBE.out.mono HBC.out.size))
      go_wp2_with fail
      refine HCF.out.mono ?_
      rintro r w4 ⟨rfl, hb4⟩
      have HB4 := Lib.hid (HB7.out.trans (hb4.mono HB7.out.size))
      clear hb4 z3 z4
      go_wp2_with fail
      go_ret
      exact ⟨by rw [HS3.out]; rfl, HB4.out⟩
theorem ref_any : ∀ (N : Nat), N ≤ 9000000000000000000 → RefC N
  | 0, _ => fun x y hN => by have := Vl.Z.n_pos x; omega
  | N + 1, h => ref_step N (by omega) (ref_any N (by omega))
end Go.Proofs.YtefjgpkpplkkgaaGreatDoor
namespace Go.Proofs.YtefjgpkpplkkgaaGreatDoor
set_option linter.unusedSimpArgs false
set_option linter.unusedVariables false
open Go Go.RowKit

def hexI (q : Int) : Int := if 48 ≤ q ∧ q ≤ 57 then q - 48 else if 97 ≤ q ∧ q ≤ 102 then q - 87 else if 65 ≤ q ∧ q ≤ 70 then q - 55 else -1
set_option maxHeartbeats 400000 in
theorem refHex_any (q : Int) (w : World) (h0 : -1 ≤ q) (h1 : q ≤ 255) :
    Calls Tryz.prog 210 #[.int .i64 q] w fun e w' => e = .returned (.int .i64 (hexI q)) ∧ w' = w := by
  go_enter Tryz.func210, Tryz.ntmps210
  go_wp2
  all_goals go_ret
  all_goals refine ⟨congrArg (fun b => Ending.returned (.int .i64 b)) ?_, rfl⟩
  all_goals unfold hexI
  all_goals (repeat' split)
  all_goals omega
theorem conv_lit (w : World) (cs : List Int) (hb : ∀ x ∈ cs, 0 ≤ x ∧ x < 256) :
    Sem.run Tryz.prog (convert 63 9 (.slice (some ⟨w.heap.size, 0, none⟩) cs.length cs.length)) (w.alloc (.cells (cs.map (Value.int .u8)).toArray 5)) = .ok (.string ⟨(cs.map fun x => UInt8.ofNat x.toNat).toArray⟩) (w.alloc (.cells (cs.map (Value.int .u8)).toArray 5)) := by
  have := run_convert_bytes_back (w.alloc (.cells (cs.map (Value.int .u8)).toArray 5)) 63 9 5 ⟨w.heap.size, 0, none⟩ cs.length (cs.map fun x => UInt8.ofNat x.toNat) Tryz.underlying63 Tryz.underlying5 Tryz.underlying9 (fun j hj => by
    rw [addr_add0]
    have hj2 : j < cs.length := by simpa using hj
    refine cell_at_new w _ _ _ j _ ?_
    have hbj := hb cs[j] (List.getElem_mem hj2)
    simp [hj2]
    omega)
  rw [List.length_map] at this
  exact this
set_option maxHeartbeats 1000000 in
set_option maxRecDepth 100000 in
theorem refEncode1_any (r : Nat) (w : World) (h0 : 0 ≤ r) (h1 : r < 128) :
    Calls Tryz.prog 211 #[.int .i64 r] w fun e w' => ∃ m : ByteArray, m.size ≤ 4 ∧ e = .returned (.string m) ∧ Below w.heap.size w w' := by
  have hr0 : (0 : Int) ≤ (r : Int) := Int.natCast_nonneg _
  have hcv := conv_lit w [(r : Int)] (by intro x hx; simp at hx; omega)
  simp only [List.map_cons, List.map_nil, List.length_cons, List.length_nil, Nat.zero_add, Nat.reduceAdd] at hcv
  have e1 : decide ((r : Int) < 128) = true := decide_eq_true (by omega)
  go_enter Tryz.func211, Tryz.ntmps211
  go_wp2_with fail
  go_ret
  exact ⟨_, by show List.length _ ≤ 4; simp, rfl, (Below.refl _ _).alloc (Nat.le_refl _) _⟩
set_option maxHeartbeats 1000000 in
set_option maxRecDepth 100000 in
theorem refEncode2_any (r : Nat) (w : World) (h0 : 128 ≤ r) (h1 : r < 2048) :
    Calls Tryz.prog 211 #[.int .i64 r] w fun e w' => ∃ m : ByteArray, m.size ≤ 4 ∧ e = .returned (.string m) ∧ Below w.heap.size w w' := by
  have hr0 : (0 : Int) ≤ (r : Int) := Int.natCast_nonneg _
  have hcv := conv_lit w [192 + (r : Int) / 64, 128 + (r : Int) % 64] (by intro x hx; simp at hx; omega)
  simp only [List.map_cons, List.map_nil, List.length_cons, List.length_nil, Nat.zero_add, Nat.reduceAdd] at hcv
  have e1 : decide ((r : Int) < 128) = false := decide_eq_false (by omega); have e2 : decide ((r : Int) < 2048) = true := decide_eq_true (by omega)
  go_enter Tryz.func211, Tryz.ntmps211
  go_wp2_with fail
  go_ret
  exact ⟨_, by show List.length _ ≤ 4; simp, rfl, (Below.refl _ _).alloc (Nat.le_refl _) _⟩
set_option maxHeartbeats 1000000 in
set_option maxRecDepth 100000 in
theorem refEncode3_any (r : Nat) (w : World) (h0 : 2048 ≤ r) (h1 : r < 65536) :
    Calls Tryz.prog 211 #[.int .i64 r] w fun e w' => ∃ m : ByteArray, m.size ≤ 4 ∧ e = .returned (.string m) ∧ Below w.heap.size w w' := by
  have hr0 : (0 : Int) ≤ (r : Int) := Int.natCast_nonneg _
  have hcv := conv_lit w [224 + (r : Int) / 4096, 128 + (r : Int) / 64 % 64, 128 + (r : Int) % 64] (by intro x hx; simp at hx; omega)
  simp only [List.map_cons, List.map_nil, List.length_cons, List.length_nil, Nat.zero_add, Nat.reduceAdd] at hcv
  have e1 : decide ((r : Int) < 128) = false := decide_eq_false (by omega); have e2 : decide ((r : Int) < 2048) = false := decide_eq_false (by omega); have e3 : decide ((r : Int) < 65536) = true := decide_eq_true (by omega)
  go_enter Tryz.func211, Tryz.ntmps211
  go_wp2_with fail
  go_ret
  exact ⟨_, by show List.length _ ≤ 4; simp, rfl, (Below.refl _ _).alloc (Nat.le_refl _) _⟩
theorem refEncode_any (r : Nat) (w : World) (h1 : r < 65536) :
    Calls Tryz.prog 211 #[.int .i64 r] w fun e w' => ∃ m : ByteArray, m.size ≤ 4 ∧ e = .returned (.string m) ∧ Below w.heap.size w w' := by
  by_cases h2 : r < 128
  · exact refEncode1_any r w (Nat.zero_le _) h2
  by_cases h3 : r < 2048
  · exact refEncode2_any r w (by omega) h3
  · exact refEncode3_any r w (by omega) h1
/-- How many bytes an escape has. -/
def escN (s : ByteArray) (a : Nat) : Nat := match Lx.esc (bt s (a + 1)) with
  | some _ => 2
  | none => if (bt s (a + 1)).toNat = 117 then (match Lx.hex (sfx s (a + 2)) with
    | none => 0
    | some v => if 55296 ≤ v ∧ v < 57344 then 0 else 6) else 0
def escF : ByteArray := ⟨#[34, 92, 47, 98, 102, 110, 114, 116]⟩
def escOk (c : UInt8) : Bool := if (List.range 8).any (fun i => decide ((bt escF i).toNat = c.toNat)) then (Lx.esc c).isSome else (Lx.esc c).isNone
set_option maxRecDepth 100000 in
theorem escOk_fin : ∀ n : Fin 256, escOk (UInt8.ofNat n.val) = true := by decide +kernel
theorem esc_of (c : UInt8) : ((∃ i, i < 8 ∧ (bt escF i).toNat = c.toNat) → ∃ v, Lx.esc c = some v) ∧ ((∀ i, i < 8 → ¬ (bt escF i).toNat = c.toNat) → Lx.esc c = none) := by
  have := escOk_fin ⟨c.toNat, UInt8.toNat_lt c⟩
  have hk : escOk c = true := by simpa using this
  unfold escOk at hk
  constructor
  · rintro ⟨i, hi, h⟩
    rw [if_pos (List.any_eq_true.2 ⟨i, List.mem_range.2 hi, decide_eq_true h⟩)] at hk
    exact Option.isSome_iff_exists.1 hk
  · intro h
    rw [if_neg (fun e => by
      obtain ⟨i, hi, h2⟩ := List.any_eq_true.1 e
      exact h i (List.mem_range.1 hi) (of_decide_eq_true h2))] at hk
    exact Option.isNone_iff_eq_none.1 hk
theorem escF_ne : ∀ i, i < 8 → (bt escF i).toNat ≠ 0 := by decide
theorem hexI_of (s : ByteArray) (b : Nat) : (b < s.size ∧ ∃ v, Lx.hexv (bt s b) = some v ∧ hexI (oneAt s b) = v ∧ v < 16) ∨ ((b < s.size → Lx.hexv (bt s b) = none) ∧ hexI (oneAt s b) = -1) := by
  unfold oneAt
  by_cases h : b < s.size
  · rw [if_pos h]
    unfold Lx.hexv hexI
    have := bt_lt s b
    by_cases h1 : 48 ≤ (bt s b).toNat ∧ (bt s b).toNat ≤ 57
    · exact .inl ⟨h, _, if_pos h1, by rw [if_pos (by omega)]; omega, by omega⟩
    by_cases h2 : 97 ≤ (bt s b).toNat ∧ (bt s b).toNat ≤ 102
    · exact .inl ⟨h, _, by rw [if_neg h1, if_pos h2], by rw [if_neg (by omega), if_pos (by omega)]; omega, by omega⟩
    by_cases h3 : 65 ≤ (bt s b).toNat ∧ (bt s b).toNat ≤ 70
    · exact .inl ⟨h, _, by rw [if_neg h1, if_neg h2, if_pos h3], by rw [if_neg (by omega), if_neg (by omega), if_pos (by omega)]; omega, by omega⟩
    · exact .inr ⟨fun _ => by rw [if_neg h1, if_neg h2, if_neg h3], by rw [if_neg (by omega), if_neg (by omega), if_neg (by omega)]⟩
  · rw [if_neg h]
    exact .inr ⟨fun e => absurd e h, by decide⟩
theorem oneAt_ne8 {s : ByteArray} {a n : Nat} (h : ¬ (bt s a).toNat = n) (q : Int) (hq : oneAt s a = q) : (q == (n : Int)) = false := by
  rw [beq_eq_false_iff_ne]
  intro e
  unfold oneAt at hq
  split at hq
  · omega
  · omega
def EscPost (s : ByteArray) (a : Nat) (w : World) (r : Ending) (w' : World) : Prop := ∃ m : ByteArray, m.size ≤ 4 ∧ r = .returned (.tuple #[.string m, .int .i64 (escN s a)]) ∧ Below w.heap.size w w'
set_option maxHeartbeats 4000000 in
set_option maxRecDepth 100000 in
theorem refEscape_any (s : ByteArray) (a : Nat) (w : World) (hs : s.size ≤ 4096) (ha : a < s.size) :
    Calls Tryz.prog 172 #[.string s, .int .i64 a] w (EscPost s a w) := by
  have hs1 : s.size ≤ 9223372036854775807 := by omega
  have ha0 : (0 : Int) ≤ (a : Int) := Int.natCast_nonneg _
  obtain ⟨q, hq⟩ : ∃ q, oneAt s (a + 1) = q := ⟨_, rfl⟩
  have HQ := Lib.hid hq
  have HONE : Hid (∀ w2, Calls Tryz.prog 164 #[.string s, .int .i64 ((a : Int) + 1)] w2 fun e w' => e = .returned (.int .i64 q) ∧ w' = w2) := Lib.hid (fun w2 => by rw [← hq]; exact one_int s (a + 1) _ w2 (by omega) hs1 (by omega))
  clear hq
  go_enter Tryz.func172, Tryz.ntmps172
  go_wp2_with fail
  go_loopg [8] 9 (fun k v wr => ∃ i : Nat, k = 9 - i ∧ i ≤ 8 ∧ v = .int .i64 (i : Nat) ∧ (∀ j, j < i → ¬ (q = (bt escF j).toNat)) ∧ Below w.heap.size w wr)
  case atStart => exact ⟨0, rfl, by omega, rfl, fun j hj => by omega, Below.refl _ _⟩
  case round =>
    obtain ⟨i, hk, hi, rfl, hne, hb⟩ := hrel
    have HK := Lib.hid hk
    have HNE := Lib.hid hne
    have HB := Lib.hid hb
    have hi0 : (0 : Int) ≤ (i : Int) := Int.natCast_nonneg _
    clear hk hne hb
    by_cases hil : i < 8
    · have e8 : decide ((i : Int) < 8) = true := decide_eq_true (by omega)
      have hi8 : (i : Int) < 8 := by omega
      have hb1 := bt_lt ⟨#[34, 92, 47, 98, 102, 110, 114, 116]⟩ i
      have hb2 : ((bt ⟨#[34, 92, 47, 98, 102, 110, 114, 116]⟩ i).toNat : Int) < 256 := by omega
      by_cases hm : q = (bt escF i).toNat
      · have et : (q == ((bt ⟨#[34, 92, 47, 98, 102, 110, 114, 116]⟩ i).toNat : Int)) = true := by rw [beq_iff_eq]; exact hm
        have HN : Hid (escN s a = 2) := Lib.hid (by
          have h0 := escF_ne i hil
          have h1 : a + 1 < s.size := by
            rcases Nat.lt_or_ge (a + 1) s.size with h | h
            · exact h
            · have := HQ.out
              unfold oneAt at this
              rw [if_neg (by omega)] at this
              omega
          have h2 : (bt escF i).toNat = (bt s (a + 1)).toNat := by
            have := HQ.out
            unfold oneAt at this
            rw [if_pos h1] at this
            omega
          obtain ⟨v, hv⟩ := (esc_of (bt s (a + 1))).1 ⟨i, hil, h2⟩
          unfold escN
          rw [hv])
        clear hm
        go_wp2_with fail
        refine wp_region_later (by kernel_rfl) (by kernel_rfl) ?_
        repeat (go_big_quiet_step (exact Later.call_same (HONE.out _)))
        refine wpQuiet_nil ?_
        rintro w6 ⟨x6, rfl⟩
        go_wp2_with fail
        go_ret2
        refine ⟨_, ?_, by rw [HN.out]; rfl, HB.out.trans (x6.2.mono HB.out.size)⟩
        rw [ByteArray.size_extract]
        exact Nat.le_trans (Nat.sub_le_sub_right (Nat.min_le_left _ _) _) (by omega)
      · have et : (q == ((bt ⟨#[34, 92, 47, 98, 102, 110, 114, 116]⟩ i).toNat : Int)) = false := by rw [beq_eq_false_iff_ne]; exact hm
        have HM := Lib.hid hm
        clear hm
        go_wp2_with fail
        refine wp_region_later (by kernel_rfl) (by kernel_rfl) ?_
        repeat (go_big_quiet_step (exact Later.call_same (HONE.out _)))
        refine wpQuiet_nil ?_
        rintro w6 ⟨x6, rfl⟩
        go_wp2_with fail
        go_roundg (9 - (i + 1))
        case measure => rw [HK.out]; omega
        case rel => exact ⟨i + 1, rfl, hil, by go_num, fun j hj => by
          rcases Nat.lt_or_ge j i with h | h
          · exact HNE.out j h
          · have : j = i := by omega
            subst this
            exact HM.out, HB.out.trans (x6.2.mono HB.out.size)⟩
    · have e8 : decide ((i : Int) < 8) = false := decide_eq_false (by omega)
      have HES : Hid (a + 1 < s.size → Lx.esc (bt s (a + 1)) = none) := Lib.hid (fun h1 => (esc_of (bt s (a + 1))).2 (fun j hj h2 => HNE.out j (by omega) (by
        have := HQ.out
        unfold oneAt at this
        rw [if_pos h1] at this
        omega)))
      have HE0 : Hid (¬ a + 1 < s.size → Lx.esc (bt s (a + 1)) = none) := Lib.hid (fun h1 => by rw [bt_end s _ (by omega)]; decide)
      have HESC : Hid (Lx.esc (bt s (a + 1)) = none) := Lib.hid (by
        by_cases h : a + 1 < s.size
        · exact HES.out h
        · exact HE0.out h)
      go_wp2_with fail
      refine (HONE.out _).mono ?_
      rintro r w1 ⟨rfl, hw1⟩
      obtain rfl := hw1.symm
      clear hw1
      by_cases h117 : (bt s (a + 1)).toNat = 117
      rotate_left
      · have eq7 : (q != 117) = true := by
          rw [bne, show (q == (117 : Int)) = false from oneAt_ne8 (n := 117) h117 q HQ.out]; rfl
        have HN : Hid (escN s a = 0) := Lib.hid (by unfold escN; rw [HESC.out]; simp only []; rw [if_neg h117])
        clear h117
        go_wp2_with fail
        go_ret2
        exact ⟨⟨#[]⟩, by decide, by rw [HN.out]; rfl, HB.out⟩
      have hq7 : q = 117 := by
        have := HQ.out
        unfold oneAt at this
        have h1 : a + 1 < s.size := by
          rcases Nat.lt_or_ge (a + 1) s.size with h | h
          · exact h
          · rw [bt_end s _ h] at h117; exact absurd h117 (by decide)
        rw [if_pos h1] at this
        omega
      have eq7 : (q != 117) = false := by rw [hq7]; rfl
      have HNX : Hid (escN s a = (match Lx.hex (sfx s (a + 2)) with | none => 0 | some v => if 55296 ≤ v ∧ v < 57344 then 0 else 6)) := Lib.hid (by unfold escN; rw [HESC.out]; simp only []; rw [if_pos h117])
      subst hq7
      clear eq7 h117
      go_wp2_with fail
      go_loopg [9, 10] 5 (fun k v9 v10 wr => ∃ i r : Nat, k = 7 - i ∧ 2 ≤ i ∧ i ≤ 6 ∧ v9 = .int .i64 (r : Nat) ∧ v10 = .int .i64 (i : Nat) ∧ r < 16 ^ (i - 2) ∧ Lx.hexs (6 - i) r (sfx s (a + i)) = Lx.hex (sfx s (a + 2)) ∧ Below w.heap.size w wr)
      case atStart => exact ⟨2, 0, rfl, by omega, by omega, rfl, rfl, by decide, rfl, HB.out⟩
      case round =>
        obtain ⟨i, r, hk, hi1, hi2, rfl, rfl, hr, hx, hb⟩ := hrel
        have HK2 := Lib.hid hk
        have HX := Lib.hid hx
        have HB2 := Lib.hid hb
        have HR := Lib.hid hr
        have hr16 : r < 65536 := Nat.lt_of_lt_of_le hr (by
          have : 16 ^ (i - 2) ≤ 16 ^ 4 := Nat.pow_le_pow_right (by decide) (by omega)
          simpa using this)
        have hi0 : (0 : Int) ≤ (i : Int) := Int.natCast_nonneg _
        have hr0 : (0 : Int) ≤ (r : Int) := Int.natCast_nonneg _
        clear hk hx hb hr
        by_cases hil : i < 6
        · have e6 : decide ((i : Int) < 6) = true := decide_eq_true (by omega)
          have hoq : -1 ≤ oneAt s (a + i) ∧ oneAt s (a + i) ≤ 255 := by
            unfold oneAt
            have := bt_lt s (a + i)
            split <;> omega
          have hways := hexI_of s (a + i)
          obtain ⟨o1, ho1⟩ : ∃ q, oneAt s (a + i) = q := ⟨_, rfl⟩
          rw [ho1] at hoq hways
          have HO1 := Lib.hid ho1
          clear ho1
          go_wp2_with fail
          refine (one_int s (a + i) _ _ (by omega) hs1 (by omega)).mono ?_
          rintro r0 w1 ⟨rfl, hw1⟩
          obtain rfl := hw1.symm
          rw [HO1.out]
          clear hw1
          go_wp2_with fail
          refine (refHex_any o1 _ hoq.1 hoq.2).mono ?_
          rintro r0 w1 ⟨rfl, hw1⟩
          obtain rfl := hw1.symm
          clear hw1
          rcases hways with ⟨hlt, v, hv, hhv, hv16⟩ | ⟨hno, hh1⟩
          · rw [hhv]
            have hv0 : (0 : Int) ≤ (v : Int) := Int.natCast_nonneg _
            have ev : decide ((v : Int) < 0) = false := decide_eq_false (by omega)
            have HX2 : Hid (Lx.hexs (6 - (i + 1)) (r * 16 + v) (sfx s (a + (i + 1))) = Lx.hex (sfx s (a + 2))) := Lib.hid (by
              have h := HX.out
              rw [show 6 - i = (6 - (i + 1)) + 1 by omega, sfx_cons s (a + i) hlt, Lx.hexs, hv] at h
              exact h)
            have hp : r * 16 + v < 16 ^ (i + 1 - 2) := by
              have h := HR.out
              rw [show i + 1 - 2 = (i - 2) + 1 by omega, Nat.pow_succ]
              omega
            have HP := Lib.hid hp
            clear hhv hv hp hlt
            go_wp2_with fail
            go_roundg (7 - (i + 1))
            case measure => rw [HK2.out]; omega
            case rel => exact ⟨i + 1, r * 16 + v, rfl, by omega, by omega, by go_num, by go_num, HP.out, HX2.out, HB2.out⟩
          · rw [hh1]
            have HN : Hid (escN s a = 0) := Lib.hid (by
              have h := HX.out
              rw [HNX.out, ← h, show 6 - i = (6 - (i + 1)) + 1 by omega]
              by_cases hlt : a + i < s.size
              · rw [sfx_cons s (a + i) hlt, Lx.hexs, hno hlt]
              · rw [sfx_end s (a + i) (by omega), Lx.hexs])
            clear hh1 hno
            go_wp2_with fail
            go_ret2
            exact ⟨⟨#[]⟩, by decide, by rw [HN.out]; rfl, HB2.out⟩
        · have e6 : decide ((i : Int) < 6) = false := decide_eq_false (by omega)
          have hx : Lx.hex (sfx s (a + 2)) = some r := by
            rw [← HX.out, show 6 - i = 0 by omega, Lx.hexs]
          have HNR : Hid (escN s a = if 55296 ≤ r ∧ r < 57344 then 0 else 6) := Lib.hid (by rw [HNX.out, hx])
          clear hx HX
          by_cases hsu : 55296 ≤ r ∧ r < 57344
          · have es1 : decide ((55296 : Int) ≤ (r : Int)) = true := decide_eq_true (by omega)
            have es2 : decide ((r : Int) ≤ 57343) = true := decide_eq_true (by omega)
            have HN : Hid (escN s a = 0) := Lib.hid (by rw [HNR.out, if_pos hsu])
            clear hsu
            go_wp2_with fail
            go_ret2
            exact ⟨⟨#[]⟩, by decide, by rw [HN.out]; rfl, HB2.out⟩
          · have es : decide ((55296 : Int) ≤ (r : Int)) = false ∨ (decide ((55296 : Int) ≤ (r : Int)) = true ∧ decide ((r : Int) ≤ 57343) = false) := by
              by_cases h : 55296 ≤ r
              · exact .inr ⟨decide_eq_true (by omega), decide_eq_false (by omega)⟩
              · exact .inl (decide_eq_false (by omega))
            have HN : Hid (escN s a = 6) := Lib.hid (by rw [HNR.out, if_neg hsu])
            clear hsu
            rcases es with es1 | ⟨es1, es2⟩
            all_goals
              go_wp2_with fail
              refine (refEncode_any r _ hr16).mono ?_
              rintro r0 w9 ⟨m, hm, rfl, hb9⟩
              have HB9 := Lib.hid (HB2.out.trans (hb9.mono HB2.out.size))
              clear hb9
              go_wp2_with fail
              go_ret2
              exact ⟨m, hm, by rw [HN.out]; rfl, HB9.out⟩
end Go.Proofs.YtefjgpkpplkkgaaGreatDoor
