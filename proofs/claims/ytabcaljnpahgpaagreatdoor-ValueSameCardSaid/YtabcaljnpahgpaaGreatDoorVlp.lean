/-
  'Parse' of a value, of a type, walked.
-/
import Derived.Test.YtabcaljnpahgpaaGreatDoorK14
import Derived.Test.YtabcaljnpahgpaaGreatDoorVsm
import Derived.Test.YtabcaljnpahgpaaGreatDoorVlm
namespace Go.Proofs.YtabcaljnpahgpaaGreatDoor
set_option linter.unusedSimpArgs false
set_option linter.unusedVariables false
open Go Go.RowKit

theorem below_frv {n b : Nat} {w w2 wr : World} (h : Below n w w2) (hw : n ≤ w.heap.size) (hf : Fr b w2 wr) (hb : n ≤ b) : Below n w wr :=
  ⟨hf.os.trans h.os, hf.tape.trans h.tape, hf.output.trans h.output, Nat.le_trans h.size hf.size, fun k hk => by rw [hf.block k (by have := h.size; omega) (by omega)]; exact h.block k hk⟩
theorem put_cell {w : World} {g x : Nat} (h : x ≠ g) (cs : List Value) (k : Nat) : (putCells w g 0 cs).drew.cell? ⟨x, k, none⟩ = w.cell? ⟨x, k, none⟩ := by
  have e : (putCells w g 0 cs).drew.heap[x]? = w.heap[x]? := putCells_ne g x h cs 0 w
  unfold World.cell?
  dsimp only
  rw [e]
set_option maxRecDepth 100000 in
theorem rend_any (b g : Nat) (s : Rd.St) (w : World) (h : RdAt w b g s) :
    Calls Tryz.prog 50 #[.pointer (some ⟨b, 0, none⟩)] w fun r w' => r = .returned (.tuple #[]) ∧ RdAt w' b g (Rd.fin s) ∧ Fr b w w' := by
  have H := Lib.hid h
  clear h
  go_enter Tryz.func50, Tryz.ntmps50
  go_wp2_with fail
  refine (rpeek_any b g s w H.out).mono ?_
  rintro r w1 ⟨rfl, hb1⟩
  have H1 := Lib.hid (H.out.below hb1)
  have HB1 := Lib.hid hb1
  obtain ⟨tk, htk⟩ : ∃ z, z = Rd.peek s := ⟨_, rfl⟩
  have HTK := Lib.hid htk
  rw [← htk]
  clear hb1 htk
  by_cases hk : tk.kind = 0
  · have e6 := neF (n := tk.kind) (k := 0) (by omega)
    have HF : Hid (Rd.fin s = s) := Lib.hid (by unfold Rd.fin; rw [if_neg (by rw [← HTK.out]; simp [hk])])
    clear hk
    go_wp2_with fail
    go_end0
    exact ⟨rfl, by rw [HF.out]; exact H1.out, But.of_below HB1.out⟩
  · have e6 := neT (n := tk.kind) (k := 0) (by omega)
    have HF : Hid (Rd.fin s = Rd.wrong s) := Lib.hid (by unfold Rd.fin; rw [if_pos (by rw [← HTK.out]; exact hk)])
    clear hk
    go_wp2_with fail
    refine (rwrong_any b g s _ H1.out).mono ?_
    rintro r w2 ⟨rfl, h2, f2⟩
    go_wp2_with fail
    go_end0
    exact ⟨rfl, by rw [HF.out]; exact h2, (But.of_below HB1.out).trans f2⟩

/-- What 'Parse' leaves. -/
def VpPost (l : List UInt8) (fixed : Bool) (w : World) (r : Ending) (w' : World) : Prop :=
  Below w.heap.size w w' ∧ StdAll l ∧
    ((∃ (z : Vl.Z) (a1 a2 : Option Addr) (c1 c2 : Nat), z = Vl.ofV (Vl.parse l fixed).2 ∧ (Vl.parse l fixed).1.err = 0 ∧ r = .returned (.tuple #[.agg #[.int .i64 z.kind, .string ⟨z.text.toArray⟩, .slice a1 z.items.length c1, .slice a2 z.fields.length c2, .int .i64 z.at_], .int .i64 0, .int .i64 0]) ∧
      Reads w' (fun x => w.heap.size ≤ x) z.d [.int .i64 z.kind, .string ⟨z.text.toArray⟩, .slice a1 z.items.length c1, .slice a2 z.fields.length c2, .int .i64 z.at_]) ∨
     ((Vl.parse l fixed).1.err ≠ 0 ∧ r = .returned (.tuple #[.agg #[.int .i64 0, .string ⟨#[]⟩, .slice none 0 0, .slice none 0 0, .int .i64 0], .int .i64 (Vl.parse l fixed).1.at_, .int .i64 (Vl.parse l fixed).1.err])))
/-- What 'ParseType' leaves. -/
def VtPost (l : List UInt8) (w : World) (r : Ending) (w' : World) : Prop :=
  Below w.heap.size w w' ∧
    (((Vl.parseType l).1.err = 0 ∧ r = .returned (.tuple #[.string ⟨(Vl.parseType l).2.toArray⟩, .int .i64 0, .int .i64 0])) ∨
     ((Vl.parseType l).1.err ≠ 0 ∧ r = .returned (.tuple #[.string ⟨#[]⟩, .int .i64 (Vl.parseType l).1.at_, .int .i64 (Vl.parseType l).1.err])))

set_option maxHeartbeats 2000000 in
set_option maxRecDepth 100000 in
theorem vparse_any (s : ByteArray) (fixed : Bool) (w : World) (hs : s.size ≤ 9223372036854775807) (hE : Env w) (h3 : 3 ≤ w.heap.size) :
    Calls Tryz.prog 24 #[.string s, .bool fixed] w (VpPost s.data.toList fixed w) := by
  have HE := Lib.hid hE
  clear hE
  obtain ⟨w0, hw0⟩ : ∃ z, z = w.alloc (.cells #[.int .i64 0, .string ⟨#[]⟩, .slice none 0 0, .slice none 0 0, .int .i64 0] 55) := ⟨_, rfl⟩
  have hb0 : Below w.heap.size w w0 := by rw [hw0]; exact (Below.refl _ _).alloc (Nat.le_refl _) _
  have hsz0 : w0.heap.size = w.heap.size + 1 := by rw [hw0]; simp
  have hz0 : w0.heap[w.heap.size]? = some (.cells #[.int .i64 0, .string ⟨#[]⟩, .slice none 0 0, .slice none 0 0, .int .i64 0] 55 (0, 0)) := by rw [hw0]; exact heap_at_new _ _
  have HW0 := Lib.hid hw0
  have HB0 := Lib.hid hb0
  have HZ0 := Lib.hid hz0
  have HC := Lib.hid (rnew_any s w0 hs (HE.out.below hb0) (by omega))
  rw [hw0] at HC
  clear hw0 hb0 hz0
  go_enter Tryz.func24, Tryz.ntmps24
  go_wp2_with fail
  refine HC.out.mono ?_
  rw [← HW0.out]
  rintro r w1 ⟨hb1, hstd, g, cap, ts, a, e, rfl, hg, hrow, hok, hpos, hbg⟩
  obtain ⟨w2, hw2⟩ : ∃ z, z = w1.alloc (.cells #[.slice (some ⟨g, 0, none⟩) ts.length cap, .int .i64 0, .int .i64 0, .int .i64 a, .int .i64 e] 76) := ⟨_, rfl⟩
  obtain ⟨s0, hs0⟩ : ∃ z, z = Rd.begin_ s.data.toList := ⟨_, rfl⟩
  have hb2 : Below w1.heap.size w1 w2 := by rw [hw2]; exact (Below.refl _ _).alloc (Nat.le_refl _) _
  have hR : RdAt w2 w1.heap.size g s0 := by
    rw [hs0]
    have hgl := hrow.lt
    exact NewPost.rdAt (T := 76) (by rw [hw2]; exact heap_at_new _ _) (hrow.heap hb2.size (hb2.block g hgl)) (by omega) hok hpos hbg
  have HSTD := Lib.hid hstd
  have HBW := Lib.hid (HB0.out.trans ((hb1.trans (hb2.mono hb1.size)).mono HB0.out.size))
  have hm := hR.rest_len
  obtain ⟨n, hn⟩ : ∃ z, z = s0.rest.length := ⟨_, rfl⟩
  have HPG : Hid ((Vl.parse s.data.toList fixed).1 = Rd.fin (Rd.value fixed (n + 1) s0).1 ∧ Vl.ofV (Vl.parse s.data.toList fixed).2 = Vl.ofV (Rd.value fixed (n + 1) s0).2) := by rw [hn, hs0]; exact Lib.hid ⟨rfl, rfl⟩
  have hd0 : s0.deep = 0 := by rw [hs0, hbg]
  have hnb : n ≤ 1501 := by omega
  have hsz1 := hb1.size
  have HZ2 : Hid (w2.heap[w.heap.size]? = some (.cells #[.int .i64 0, .string ⟨#[]⟩, .slice none 0 0, .slice none 0 0, .int .i64 0] 55 (0, 0))) := Lib.hid (by
    rw [hb2.block w.heap.size (by omega), hb1.block w.heap.size (by omega)]; exact HZ0.out)
  have HCV := Lib.hid (rvalue_any w1.heap.size g fixed n (by omega) s0 w2 hR (by omega) ⟨by omega, by omega⟩)
  have hne : w.heap.size ≠ w1.heap.size := by omega
  have HX := Lib.hid hw2
  rw [hw2] at HCV
  clear hstd hs0 hn hbg hb2 hR hrow hok hb1 hm hg hw2 HC
  go_wp2_with fail
  refine HCV.out.mono ?_
  rw [← HX.out]
  rintro r w3 ⟨cs, rfl, hrd, hr3, hf3⟩
  rw [← Vl.ofV_d] at hrd
  obtain ⟨v, hv⟩ : ∃ z, z = Vl.ofV (Rd.value fixed (n + 1) s0).2 := ⟨_, rfl⟩
  obtain ⟨s3, hs3⟩ : ∃ z, z = (Rd.value fixed (n + 1) s0).1 := ⟨_, rfl⟩
  rw [← hv] at hrd HPG
  rw [← hs3] at hr3 HPG
  obtain ⟨a1, a2, c1, c2, rfl, -, -⟩ := Z_open hrd
  obtain ⟨w4, hw4⟩ : ∃ z, z = w3.alloc (.cells #[.int .i64 v.kind, .string ⟨v.text.toArray⟩, .slice a1 v.items.length c1, .slice a2 v.fields.length c2, .int .i64 v.at_] 55) := ⟨_, rfl⟩
  have hb4 : Below w3.heap.size w3 w4 := by rw [hw4]; exact (Below.refl _ _).alloc (Nat.le_refl _) _
  have hz4 : w4.heap[w3.heap.size]? = some (.cells #[.int .i64 v.kind, .string ⟨v.text.toArray⟩, .slice a1 v.items.length c1, .slice a2 v.fields.length c2, .int .i64 v.at_] 55 (0, 0)) := by rw [hw4]; exact heap_at_new _ _
  have HZ4 := Lib.hid hz4
  have hs2 : w2.heap.size = w1.heap.size + 1 := by rw [HX.out]; simp
  have hs23 := hf3.size
  have HF4 := Lib.hid (hf3.trans (But.of_below hb4))
  have HRD4 := Lib.hid (hrd.to (Stands.below hb4))
  have HCE := Lib.hid (rend_any w1.heap.size g s3 w4 (hr3.below hb4))
  have HW4 := Lib.hid hw4
  rw [hw4] at HCE
  have hs34 := hb4.size
  clear hrd hr3 hf3 hb4 hz4 hw4 hv hs3 HCV
  go_wp2_with fail
  refine HCE.out.mono ?_
  rw [← HW4.out]
  rintro r w5 ⟨rfl, hr5, hf5⟩
  obtain ⟨s5, hs5⟩ : ∃ z, z = Rd.fin s3 := ⟨_, rfl⟩
  rw [← hs5] at hr5 HPG
  have c4' := hr5.c4
  have c3' := hr5.c3
  have HF5 := Lib.hid (HF4.out.trans hf5)
  have HZ5 : Hid (w5.heap[w3.heap.size]? = some (.cells #[.int .i64 v.kind, .string ⟨v.text.toArray⟩, .slice a1 v.items.length c1, .slice a2 v.fields.length c2, .int .i64 v.at_] 55 (0, 0))) := Lib.hid (by
    rw [hf5.block _ (block_lt HZ4.out) (by show ¬ w3.heap.size = w1.heap.size; omega)]; exact HZ4.out)
  have HY5 : Hid (w5.heap[w.heap.size]? = some (.cells #[.int .i64 0, .string ⟨#[]⟩, .slice none 0 0, .slice none 0 0, .int .i64 0] 55 (0, 0))) := Lib.hid (by
    rw [HF5.out.block _ (block_lt HZ2.out) (by show ¬ w.heap.size = w1.heap.size; omega)]; exact HZ2.out)
  have HRD5 : Hid (Reads w5 (fun x => w2.heap.size ≤ x) v.d [.int .i64 v.kind, .string ⟨v.text.toArray⟩, .slice a1 v.items.length c1, .slice a2 v.fields.length c2, .int .i64 v.at_]) :=
    Lib.hid (HRD4.out.to (Stands.but hf5 (fun x hx e => by have e' : x = w1.heap.size := e; omega)))
  have HB5 : Hid (Below w.heap.size w w5) := Lib.hid (below_frv (b := w1.heap.size) HBW.out (Nat.le_refl _) HF5.out (by omega))
  clear hr5 hf5 hs5 HCE
  have q0 := blk_cell HY5.out 0 (.int .i64 0) rfl
  have q1 := blk_cell HY5.out 1 (.string ⟨#[]⟩) rfl
  have q2 := blk_cell HY5.out 2 (.slice none 0 0) rfl
  have q3 := blk_cell HY5.out 3 (.slice none 0 0) rfl
  have q4 := blk_cell HY5.out 4 (.int .i64 0) rfl
  have f0 := blk_free HY5.out 0
  have f1 := blk_free HY5.out 1
  have f2 := blk_free HY5.out 2
  have f3 := blk_free HY5.out 3
  have f4 := blk_free HY5.out 4
  by_cases he : s5.err = 0
  · have e5 := neF (n := s5.err) (k := 0) (by omega)
    have HERR := Lib.hid he
    have z0 := blk_cell HZ5.out 0 (.int .i64 v.kind) rfl
    have z1 := blk_cell HZ5.out 1 (.string ⟨v.text.toArray⟩) rfl
    have z2 := blk_cell HZ5.out 2 (.slice a1 v.items.length c1) rfl
    have z3 := blk_cell HZ5.out 3 (.slice a2 v.fields.length c2) rfl
    have z4 := blk_cell HZ5.out 4 (.int .i64 v.at_) rfl
    clear he
    have n1 : ¬ w3.heap.size = w.heap.size := by omega
    have n2 : ¬ w.heap.size = w3.heap.size := by omega
    go_wp2_with fail
    refine bodyPost_ret (v := .tuple #[.agg #[.int .i64 v.kind, .string ⟨v.text.toArray⟩, .slice a1 v.items.length c1, .slice a2 v.fields.length c2, .int .i64 v.at_], .int .i64 0, .int .i64 0]) (by simp [results, Tryz.results24, go_sem, q0, q1, q2, q3, q4]) rfl ?_
    have hb6 := new_below HB5.out [.int .i64 v.kind, .string ⟨v.text.toArray⟩, .slice a1 v.items.length c1, .slice a2 v.fields.length c2, .int .i64 v.at_]
    have hst : Stands w5 (fun x => w2.heap.size ≤ x) (putCells w5 w.heap.size 0 [.int .i64 v.kind, .string ⟨v.text.toArray⟩, .slice a1 v.items.length c1, .slice a2 v.fields.length c2, .int .i64 v.at_]) (fun x => w.heap.size ≤ x) :=
      ⟨by rw [putCells_size]; exact Nat.le_refl _, fun x _ hx => ⟨by show w.heap.size ≤ x; omega, putCells_ne _ _ (by show ¬ x = w.heap.size; omega) _ _ _⟩⟩
    have hrd := HRD5.out.to hst
    exact ⟨hb6, HSTD.out, .inl ⟨v, a1, a2, c1, c2, HPG.out.2.symm, by rw [HPG.out.1]; exact HERR.out, rfl, hrd⟩⟩
  · have e5 := neT (n := s5.err) (k := 0) (by omega)
    have HERR := Lib.hid he
    clear he
    go_wp2_with fail
    have hS : w5.cell? ⟨w1.heap.size, 3, none⟩ = some (.int .i64 s5.at_) ∧ w5.cell? ⟨w1.heap.size, 4, none⟩ = some (.int .i64 s5.err) := ⟨c3', c4'⟩
    refine wp_region_phase (fun w' => w'.cell? ⟨w1.heap.size, 3, none⟩ = some (.int .i64 s5.at_) ∧ w'.cell? ⟨w1.heap.size, 4, none⟩ = some (.int .i64 s5.err)) 8 (by kernel_rfl) ?_
    refine wpAnyB_take (i := 0) (v := (.agg #[.int .i64 0, .string ⟨#[]⟩, .slice none 0 0, .slice none 0 0, .int .i64 0])) (by kernel_rfl) (by decide) rfl (by kernel_rfl) (by kernel_rfl) (by kernel_rfl) (fun _ _ _ h => h) (Or.inl ⟨by rfl, fun w hSw => by obtain ⟨s3, s4⟩ := hSw; go_simp⟩) hS ?_; simp only [Act.put, Array.getInternal_eq_getElem, List.getElem_toArray, List.getElem_cons_zero, List.getElem_cons_succ, List.setIfInBounds_toArray, List.set_cons_zero, List.set_cons_succ]
    refine wpAnyB_take (i := 1) (v := (.pointer (some ⟨w1.heap.size, 3, none⟩))) (by kernel_rfl) (by decide) rfl (by kernel_rfl) (by kernel_rfl) (by kernel_rfl) (fun _ _ _ h => h) (Or.inl ⟨by rfl, fun w hSw => by obtain ⟨s3, s4⟩ := hSw; go_simp⟩) hS ?_; simp only [Act.put, Array.getInternal_eq_getElem, List.getElem_toArray, List.getElem_cons_zero, List.getElem_cons_succ, List.setIfInBounds_toArray, List.set_cons_zero, List.set_cons_succ]
    refine wpAnyB_take (i := 2) (v := (.int .i64 s5.at_)) (by kernel_rfl) (by decide) rfl (by kernel_rfl) (by kernel_rfl) (by kernel_rfl) (fun _ _ _ h => h) (Or.inl ⟨by rfl, fun w hSw => by obtain ⟨s3, s4⟩ := hSw; go_simp⟩) hS ?_; simp only [Act.put, Array.getInternal_eq_getElem, List.getElem_toArray, List.getElem_cons_zero, List.getElem_cons_succ, List.setIfInBounds_toArray, List.set_cons_zero, List.set_cons_succ]
    refine wpAnyB_take (i := 3) (v := (.pointer (some ⟨w1.heap.size, 4, none⟩))) (by kernel_rfl) (by decide) rfl (by kernel_rfl) (by kernel_rfl) (by kernel_rfl) (fun _ _ _ h => h) (Or.inl ⟨by rfl, fun w hSw => by obtain ⟨s3, s4⟩ := hSw; go_simp⟩) hS ?_; simp only [Act.put, Array.getInternal_eq_getElem, List.getElem_toArray, List.getElem_cons_zero, List.getElem_cons_succ, List.setIfInBounds_toArray, List.set_cons_zero, List.set_cons_succ]
    refine wpAnyB_take (i := 4) (v := (.int .i64 s5.err)) (by kernel_rfl) (by decide) rfl (by kernel_rfl) (by kernel_rfl) (by kernel_rfl) (fun _ _ _ h => h) (Or.inl ⟨by rfl, fun w hSw => by obtain ⟨s3, s4⟩ := hSw; go_simp⟩) hS ?_; simp only [Act.put, Array.getInternal_eq_getElem, List.getElem_toArray, List.getElem_cons_zero, List.getElem_cons_succ, List.setIfInBounds_toArray, List.set_cons_zero, List.set_cons_succ]
    refine wpAnyB_one (i := 5) (by kernel_rfl) ?_
    refine wpOp_intro (by decide) (fun K5 HK5 => ?_); simp only [List.drop_succ_cons, List.drop_zero, List.take_succ_cons, List.take_zero]
    go_wp2_with fail
    have hS2 : (putCells w5 w.heap.size 0 [.int .i64 0, .string ⟨#[]⟩, .slice none 0 0, .slice none 0 0, .int .i64 0]).drew.cell? ⟨w1.heap.size, 3, none⟩ = some (.int .i64 s5.at_) ∧ (putCells w5 w.heap.size 0 [.int .i64 0, .string ⟨#[]⟩, .slice none 0 0, .slice none 0 0, .int .i64 0]).drew.cell? ⟨w1.heap.size, 4, none⟩ = some (.int .i64 s5.err) := by
      have hq := fun k => put_cell (w := w5) (show w1.heap.size ≠ w.heap.size by omega) [.int .i64 0, .string ⟨#[]⟩, .slice none 0 0, .slice none 0 0, .int .i64 0] k
      exact ⟨(hq 3).trans hS.1, (hq 4).trans hS.2⟩
    refine HK5.out _ _ ⟨fun _ => hS2, ?_⟩
    clear HK5
    refine wpAnyB_take (i := 6) (v := (.int .i64 s5.at_)) (by kernel_rfl) (by decide) rfl (by kernel_rfl) (by kernel_rfl) (by kernel_rfl) (fun _ _ _ h => h) (Or.inl ⟨by rfl, fun w hSw => by obtain ⟨s3, s4⟩ := hSw; go_simp⟩) hS2 ?_; simp only [Act.put, Array.getInternal_eq_getElem, List.getElem_toArray, List.getElem_cons_zero, List.getElem_cons_succ, List.setIfInBounds_toArray, List.set_cons_zero, List.set_cons_succ]
    refine wpAnyB_take (i := 7) (v := (.int .i64 s5.err)) (by kernel_rfl) (by decide) rfl (by kernel_rfl) (by kernel_rfl) (by kernel_rfl) (fun _ _ _ h => h) (Or.inl ⟨by rfl, fun w hSw => by obtain ⟨s3, s4⟩ := hSw; go_simp⟩) hS2 ?_; simp only [Act.put, Array.getInternal_eq_getElem, List.getElem_toArray, List.getElem_cons_zero, List.getElem_cons_succ, List.setIfInBounds_toArray, List.set_cons_zero, List.set_cons_succ]
    refine wpAnyB_done (by kernel_rfl) ?_ _
    go_wp2
    refine bodyPost_ret (v := .tuple #[.agg #[.int .i64 0, .string ⟨#[]⟩, .slice none 0 0, .slice none 0 0, .int .i64 0], .int .i64 s5.at_, .int .i64 s5.err]) (by simp [results, Tryz.results24, go_sem, q0, q1, q2, q3, q4]) rfl ?_
    have hb6 := new_below HB5.out [.int .i64 0, .string ⟨#[]⟩, .slice none 0 0, .slice none 0 0, .int .i64 0]
    refine ⟨⟨hb6.os, hb6.tape, hb6.output, hb6.size, hb6.block⟩, HSTD.out, .inr ⟨by rw [HPG.out.1]; exact HERR.out, by rw [HPG.out.1]⟩⟩
end Go.Proofs.YtabcaljnpahgpaaGreatDoor
