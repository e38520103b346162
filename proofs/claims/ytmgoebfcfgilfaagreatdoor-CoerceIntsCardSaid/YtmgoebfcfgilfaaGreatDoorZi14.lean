/-
  The reader: how it lies in memory; Peek, Fail, Wrong, Next, walked. The reader: Is, Word, walked. The reader: Take, Want, Name, End, Down, Up, Some, walked. The reader: Type, walked.
-/
import Derived.Test.YtmgoebfcfgilfaaGreatDoorZi3
import Derived.Test.YtmgoebfcfgilfaaGreatDoorZi13
import Derived.Test.YtmgoebfcfgilfaaGreatDoorZi7
import Derived.Deep.LoopGhost
namespace Go.Proofs.YtmgoebfcfgilfaaGreatDoor
set_option linter.unusedSimpArgs false
set_option linter.unusedVariables false
open Go Go.RowKit

@[go_sem high] theorem field_tok0 (x y z : Value) (w : World) : (Instr.field 87 (.agg #[x, y, z]) 0).run Tryz.prog w = .ok x w := by kernel_rfl
@[go_sem high] theorem field_tok1 (x y z : Value) (w : World) : (Instr.field 87 (.agg #[x, y, z]) 1).run Tryz.prog w = .ok y w := by kernel_rfl
@[go_sem high] theorem field_tok2 (x y z : Value) (w : World) : (Instr.field 87 (.agg #[x, y, z]) 2).run Tryz.prog w = .ok z w := by kernel_rfl
theorem drewN_add (w : World) (n m : Nat) : (w.drewN n).drewN m = w.drewN (n + m) := by simp [World.drewN, Nat.add_assoc]
/-- A token stored into a new block, draws between. -/
theorem tok_stored (w : World) (T : TypeId) (x y z k t a : Value) (n m : Nat) :
    ((((((w.alloc (.cells #[x, y, z] T)).drewN n).setCell ⟨w.heap.size, 0, none⟩ k).setCell ⟨w.heap.size, 1, none⟩ t).setCell ⟨w.heap.size, 2, none⟩ a).drewN m) = (w.alloc (.cells #[k, t, a] T)).drewN (n + m) := by
  have h0 : ∀ (v : World) (p : Addr) (u : Value), (v.drewN n).setCell p u = (v.setCell p u).drewN n := fun _ _ _ => rfl
  rw [h0, h0, h0, drewN_add, World.setCell_alloc_at _ _ _ _ _ rfl, World.setCell_alloc_at _ _ _ _ _ rfl, World.setCell_alloc_at _ _ _ _ _ rfl]
  rfl

/-- Tokens that a reader may hold. -/
structure TsOk (ts : List Lx.Tok) : Prop where
  len : ts.length ≤ 1501
  last : ∀ t, ts[ts.length - 1]? = some t → t.kind = 0
  kind : ∀ t ∈ ts, t.kind ≤ 5
  size : ∀ t ∈ ts, t.text.length ≤ 1000000000
  at_ : ∀ t ∈ ts, t.at_ ≤ 4096
/-- A reader in memory, in block b; its tokens in block g. -/
structure RdAt (w : World) (b g : Nat) (s : Rd.St) : Prop where
  ex : ∃ (T : TypeId) (cap : Nat) (ts : List Lx.Tok) (i : Nat), w.heap[b]? = some (.cells #[.slice (some ⟨g, 0, none⟩) ts.length cap, .int .i64 i, .int .i64 s.deep, .int .i64 s.at_, .int .i64 s.err] T (0, 0)) ∧
    TokRow w g ts ∧ s.rest = ts.drop i ∧ i < ts.length ∧ TsOk ts
  ne : g ≠ b
section
variable {w w' : World} {b g : Nat} {s : Rd.St}
theorem RdAt.lt (h : RdAt w b g s) : b < w.heap.size ∧ g < w.heap.size := by
  obtain ⟨⟨T, cap, ts, i, h1, h2, h3, h4, h5⟩, _⟩ := h
  exact ⟨block_lt h1, h2.lt⟩
theorem TokRow.heap {w w' : World} {g : Nat} {ts : List Lx.Tok} (h : TokRow w g ts) (hs : w.heap.size ≤ w'.heap.size) (he : w'.heap[g]? = w.heap[g]?) : TokRow w' g ts := by
  have e : ∀ k, w'.cell? ⟨g, k, none⟩ = w.cell? ⟨g, k, none⟩ := fun k => World.cell?_of_block he
  exact ⟨Nat.lt_of_lt_of_le h.lt hs, fun i t x => (e _).trans (h.kind i t x), fun i t x => (e _).trans (h.text i t x), fun i t x => (e _).trans (h.at_ i t x)⟩
theorem RdAt.to (h : RdAt w b g s) (hs : w.heap.size ≤ w'.heap.size) (hb : w'.heap[b]? = w.heap[b]?) (hg : w'.heap[g]? = w.heap[g]?) : RdAt w' b g s := by
  obtain ⟨⟨T, cap, ts, i, h1, h2, h3, h4, h5⟩, h6⟩ := h
  exact ⟨⟨T, cap, ts, i, by rw [hb]; exact h1, h2.heap hs hg, h3, h4, h5⟩, h6⟩
theorem RdAt.but {X : Nat → Prop} (h : RdAt w b g s) (hb : But X w w') (hX : ∀ k, X k → k ≠ b ∧ k ≠ g) : RdAt w' b g s :=
  h.to hb.size (hb.block b h.lt.1 (fun x => (hX _ x).1 rfl)) (hb.block g h.lt.2 (fun x => (hX _ x).2 rfl))
theorem RdAt.below (h : RdAt w b g s) (hb : Below w.heap.size w w') : RdAt w' b g s := h.to hb.size (hb.block b h.lt.1) (hb.block g h.lt.2)
theorem RdAt.drewN (h : RdAt w b g s) (n : Nat) : RdAt (w.drewN n) b g s := h.to (Nat.le_refl _) rfl rfl
theorem rest_head {ts l : List Lx.Tok} {i : Nat} (h : l = ts.drop i) (hi : i < ts.length) : ∃ t r, l = t :: r ∧ ts[i]? = some t ∧ r = ts.drop (i + 1) :=
  ⟨ts[i], ts.drop (i + 1), by rw [h, List.drop_eq_getElem_cons hi], List.getElem?_eq_getElem hi, rfl⟩
/-- The token at hand, as the walk reads it. -/
theorem RdAt.open_ (h : RdAt w b g s) : ∃ (cap n i : Nat), w.cell? ⟨b, 0, none⟩ = some (.slice (some ⟨g, 0, none⟩) n cap) ∧ w.cell? ⟨b, 1, none⟩ = some (.int .i64 i) ∧ i < n ∧ n ≤ 1501 ∧
    w.cell? ⟨g, i * 3, none⟩ = some (.int .i64 (Rd.peek s).kind) ∧ w.cell? ⟨g, i * 3 + 1, none⟩ = some (.string ⟨(Rd.peek s).text.toArray⟩) ∧ w.cell? ⟨g, i * 3 + 2, none⟩ = some (.int .i64 (Rd.peek s).at_) := by
  obtain ⟨⟨T, cap, ts, i, h1, h2, h3, h4, h5⟩, h6⟩ := h
  obtain ⟨t, r, e1, e2, e3⟩ := rest_head h3 h4
  have ep : Rd.peek s = t := by unfold Rd.peek; rw [e1]; rfl
  refine ⟨cap, ts.length, i, by simp [World.cell?, h1], by simp [World.cell?, h1], h4, h5.len, ?_, ?_, ?_⟩
  · rw [ep, Nat.mul_comm]; exact h2.kind i t e2
  · rw [ep, Nat.mul_comm]; exact h2.text i t e2
  · rw [ep, Nat.mul_comm]; exact h2.at_ i t e2
theorem RdAt.c2 (h : RdAt w b g s) : w.cell? ⟨b, 2, none⟩ = some (.int .i64 s.deep) := by
  obtain ⟨⟨T, cap, ts, i, h1, _⟩, _⟩ := h
  simp [World.cell?, h1]
theorem RdAt.c3 (h : RdAt w b g s) : w.cell? ⟨b, 3, none⟩ = some (.int .i64 s.at_) := by
  obtain ⟨⟨T, cap, ts, i, h1, _⟩, _⟩ := h
  simp [World.cell?, h1]
theorem RdAt.c4 (h : RdAt w b g s) : w.cell? ⟨b, 4, none⟩ = some (.int .i64 s.err) := by
  obtain ⟨⟨T, cap, ts, i, h1, _⟩, _⟩ := h
  simp [World.cell?, h1]
theorem RdAt.fz (h : RdAt w b g s) (k : Nat) : w.frozen? ⟨b, k, none⟩ = false := by
  obtain ⟨⟨T, cap, ts, i, h1, _⟩, _⟩ := h
  simp [World.frozen?, h1]
theorem heap_set1 {w : World} {b : Nat} {cs : Array Value} {T : TypeId} {fz : Nat × Nat} {k : Nat} {v : Value} (h : w.heap[b]? = some (.cells cs T fz)) : (w.setCell ⟨b, k, none⟩ v).heap[b]? = some (.cells (cs.setIfInBounds k v) T fz) := by
  simp [World.setCell, Array.getElem?_modify, h]
theorem heap_set_ne {w : World} {b k c : Nat} {v : Value} (h : c ≠ b) : (w.setCell ⟨b, k, none⟩ v).heap[c]? = w.heap[c]? := Below.heap_setCell _ _ _ _ (fun e => h e)
theorem size_set {w : World} {p : Addr} {v : Value} : (w.setCell p v).heap.size = w.heap.size := by simp [World.setCell]
theorem RdAt.set_ne (h : RdAt w b g s) {c : Nat} (hb : b ≠ c) (hg : g ≠ c) (k : Nat) (v : Value) : RdAt (w.setCell ⟨c, k, none⟩ v) b g s :=
  h.to (by rw [size_set]; exact Nat.le_refl _) (heap_set_ne hb) (heap_set_ne hg)
theorem RdAt.failed (h : RdAt w b g s) (hs : s.err = 0) (e : Nat) : RdAt ((w.setCell ⟨b, 4, none⟩ (.int .i64 e)).setCell ⟨b, 3, none⟩ (.int .i64 (Rd.peek s).at_)) b g (Rd.fail e s) := by
  obtain ⟨⟨T, cap, ts, i, h1, h2, h3, h4, h5⟩, h6⟩ := h
  unfold Rd.fail
  rw [if_pos hs]
  have h7 := heap_set1 (k := 3) (v := .int .i64 (Rd.peek s).at_) (heap_set1 (k := 4) (v := .int .i64 e) h1)
  exact ⟨⟨T, cap, ts, i, by rw [h7]; rfl, h2.heap (by rw [size_set, size_set]; exact Nat.le_refl _) (by rw [heap_set_ne h6, heap_set_ne h6]), h3, h4, h5⟩, h6⟩
theorem RdAt.nexted (h : RdAt w b g s) (hs : s.err = 0) (hk : (Rd.peek s).kind ≠ 0) {i : Nat} (hi : w.cell? ⟨b, 1, none⟩ = some (.int .i64 i)) : RdAt (w.setCell ⟨b, 1, none⟩ (.int .i64 (i + 1))) b g (Rd.next s) := by
  obtain ⟨⟨T, cap, ts, j, h1, h2, h3, h4, h5⟩, h6⟩ := h
  have hij : (i : Int) = j := by
    simp [World.cell?, h1] at hi
    exact hi.symm
  obtain ⟨t, r, e1, e2, e3⟩ := rest_head h3 h4
  have ep : Rd.peek s = t := by unfold Rd.peek; rw [e1]; rfl
  unfold Rd.next
  rw [if_pos ⟨hs, hk⟩]
  have hlt : j + 1 < ts.length := by
    rcases Nat.lt_or_ge (j + 1) ts.length with h | h
    · exact h
    · have := h5.last t (by rw [show ts.length - 1 = j by omega]; exact e2)
      rw [ep] at hk
      exact absurd this hk
  have h7 := heap_set1 (k := 1) (v := .int .i64 (i + 1)) h1
  exact ⟨⟨T, cap, ts, j + 1, by rw [h7, hij]; rfl, h2.heap (by rw [size_set]; exact Nat.le_refl _) (by rw [heap_set_ne h6]), by show s.rest.drop 1 = _; rw [e1, e3]; rfl, hlt, h5⟩, h6⟩
end

set_option maxRecDepth 100000 in
theorem rpeek_any (b g : Nat) (s : Rd.St) (w : World) (h : RdAt w b g s) :
    Calls Tryz.prog 35 #[.pointer (some ⟨b, 0, none⟩)] w fun e w' => e = .returned (.agg #[.int .i64 (Rd.peek s).kind, .string ⟨(Rd.peek s).text.toArray⟩, .int .i64 (Rd.peek s).at_]) ∧ Below w.heap.size w w' := by
  obtain ⟨cap, n, i, k0, k1, hi, hn, t0, t1, t2⟩ := h.open_
  have hlt := h.lt
  have hi0 : (0 : Int) ≤ (i : Int) := Int.natCast_nonneg _
  have hi1 : (i : Int) < (n : Int) := by omega
  have H := Lib.hid h
  clear h
  go_enter Tryz.func35, Tryz.ntmps35
  go_wp2_with fail
  refine wp_region_cuts [10] (by kernel_rfl) (by kernel_rfl) ?_; simp only [wpMix, List.take_succ_cons, List.take_zero, List.drop_succ_cons, List.drop_zero, Nat.sub_zero, Nat.reduceSub, Nat.reduceAdd]
  repeat (go_big_quiet_step (fail))
  refine wpQuiet_nil ?_; rintro _ ⟨nq, rfl⟩
  go_wp2
  repeat (go_big_quiet_step (fail))
  refine wpQuiet_nil ?_
  rintro _ ⟨nr, rfl⟩
  rw [tok_stored]
  go_wp2
  refine bodyPost_ret (v := .agg #[.int .i64 (Rd.peek s).kind, .string ⟨(Rd.peek s).text.toArray⟩, .int .i64 (Rd.peek s).at_]) (by simp [results, Tryz.results35, go_sem]) rfl ⟨rfl, ?_⟩
  (repeat' (first | (with_reducible assumption) | (with_reducible exact Below.refl _ _) | (with_reducible refine Below.drewN ?_ _) | (with_reducible refine Below.drew ?_) | (with_reducible refine Below.alloc ?_ ?_ _))) <;> (simp; try omega)

set_option maxRecDepth 100000 in
theorem rfail_any (b g e : Nat) (s : Rd.St) (w : World) (h : RdAt w b g s) :
    Calls Tryz.prog 125 #[.pointer (some ⟨b, 0, none⟩), .int .i64 e] w fun r w' => r = .returned (.tuple #[]) ∧ RdAt w' b g (Rd.fail e s) ∧ Fr b w w' := by
  have c4 := h.c4
  have H := Lib.hid h
  clear h
  go_enter Tryz.func125, Tryz.ntmps125
  by_cases hs : s.err = 0
  · have e4 := eqT (n := s.err) (k := 0) (by omega)
    go_wp2_with fail
    refine (rpeek_any b g s w H.out).mono ?_
    rintro r w1 ⟨rfl, hb1⟩
    have h1 := H.out.below hb1
    have d4 := h1.c4
    have d3 := h1.c3
    have f4 := h1.fz 4
    have f3 := h1.fz 3
    have H1 := Lib.hid h1
    have HB := Lib.hid hb1
    clear h1 hb1 c4
    go_wp2
    go_end0
    exact ⟨rfl, H1.out.failed hs e, Fr.set (Fr.set (But.of_below HB.out) _ _) _ _⟩
  · have e4 := eqF (n := s.err) (k := 0) (by omega)
    go_wp2_with fail
    go_end0
    refine ⟨rfl, ?_, But.refl _ _⟩
    unfold Rd.fail
    rw [if_neg hs]
    exact H.out

set_option maxRecDepth 100000 in
theorem rwrong_any (b g : Nat) (s : Rd.St) (w : World) (h : RdAt w b g s) :
    Calls Tryz.prog 64 #[.pointer (some ⟨b, 0, none⟩)] w fun r w' => r = .returned (.tuple #[]) ∧ RdAt w' b g (Rd.wrong s) ∧ Fr b w w' := by
  have H := Lib.hid h
  clear h
  go_enter Tryz.func64, Tryz.ntmps64
  go_wp2_with fail
  refine (rfail_any b g 41 s w H.out).mono ?_
  rintro r w1 ⟨rfl, h1, hf1⟩
  go_wp2_with fail
  go_end0
  exact ⟨rfl, h1, hf1⟩

/-- A token's block, new. -/
structure TkB (w : World) (c : Nat) (t : Lx.Tok) : Prop where
  c0 : w.cell? ⟨c, 0, none⟩ = some (.int .i64 t.kind)
  c1 : w.cell? ⟨c, 1, none⟩ = some (.string ⟨t.text.toArray⟩)
  c2 : w.cell? ⟨c, 2, none⟩ = some (.int .i64 t.at_)
theorem tkb_new (w : World) (t : Lx.Tok) (T : TypeId) : TkB (w.alloc (.cells #[.int .i64 t.kind, .string ⟨t.text.toArray⟩, .int .i64 t.at_] T)) w.heap.size t := by
  exact ⟨cell_at_new _ _ _ _ _ _ rfl, cell_at_new _ _ _ _ _ _ rfl, cell_at_new _ _ _ _ _ _ rfl⟩
structure TkZ (w : World) (c : Nat) : Prop where
  c0 : w.cell? ⟨c, 0, none⟩ = some (.int .i64 0)
  c1 : w.cell? ⟨c, 1, none⟩ = some (.string ⟨#[]⟩)
  c2 : w.cell? ⟨c, 2, none⟩ = some (.int .i64 0)
  f0 : w.frozen? ⟨c, 0, none⟩ = false
  f1 : w.frozen? ⟨c, 1, none⟩ = false
  f2 : w.frozen? ⟨c, 2, none⟩ = false
theorem tkb_zero (w : World) (T : TypeId) : TkZ (w.alloc (.cells #[.int .i64 0, .string ⟨#[]⟩, .int .i64 0] T)) w.heap.size := by
  exact ⟨cell_at_new _ _ _ _ _ _ rfl, cell_at_new _ _ _ _ _ _ rfl, cell_at_new _ _ _ _ _ _ rfl, frozen_at_new _ _ _ _, frozen_at_new _ _ _ _, frozen_at_new _ _ _ _⟩
theorem TkZ.below {w w' : World} {c : Nat} (h : TkZ w c) (hc : c < w.heap.size) (hb : Below w.heap.size w w') : TkZ w' c := by
  have e := hb.block c hc
  have e1 : ∀ k, w'.cell? ⟨c, k, none⟩ = w.cell? ⟨c, k, none⟩ := fun k => World.cell?_of_block e
  have e2 : ∀ k, w'.frozen? ⟨c, k, none⟩ = w.frozen? ⟨c, k, none⟩ := fun k => World.frozen?_of_block e
  exact ⟨(e1 _).trans h.c0, (e1 _).trans h.c1, (e1 _).trans h.c2, (e2 _).trans h.f0, (e2 _).trans h.f1, (e2 _).trans h.f2⟩

set_option maxRecDepth 100000 in
theorem rnext_any (b g : Nat) (s : Rd.St) (w : World) (h : RdAt w b g s) :
    Calls Tryz.prog 86 #[.pointer (some ⟨b, 0, none⟩)] w fun r w' => r = .returned (.agg #[.int .i64 (Rd.peek s).kind, .string ⟨(Rd.peek s).text.toArray⟩, .int .i64 (Rd.peek s).at_]) ∧ RdAt w' b g (Rd.next s) ∧ Fr b w w' := by
  have hlt := h.lt
  have H := Lib.hid h
  clear h
  go_enter Tryz.func86, Tryz.ntmps86
  go_wp2_with fail
  have hba : Below w.heap.size w (w.alloc (.cells #[.int .i64 0, .string ⟨#[]⟩, .int .i64 0] 87)) := (Below.refl _ _).alloc (Nat.le_refl _) _
  have hz := tkb_zero w 87
  refine (rpeek_any b g s _ (H.out.below hba)).mono ?_
  rintro r w1 ⟨rfl, hb1⟩
  have hz1 := hz.below (by simp) hb1
  have hb2 := hba.trans (hb1.mono hba.size)
  obtain ⟨tk, htk⟩ : ∃ t, t = Rd.peek s := ⟨_, rfl⟩
  have HTK := Lib.hid htk
  rw [← htk]
  have hbW : Below w.heap.size w (w1.alloc (.cells #[.int .i64 tk.kind, .string ⟨tk.text.toArray⟩, .int .i64 tk.at_] 87)) := hb2.alloc hb2.size _
  have hT := tkb_new w1 tk 87
  have hzW : TkZ (w1.alloc (.cells #[.int .i64 tk.kind, .string ⟨tk.text.toArray⟩, .int .i64 tk.at_] 87)) w.heap.size := hz1.below (by have := hb1.size; simp at this; omega) ((Below.refl _ _).alloc (Nat.le_refl _) _)
  have hR := H.out.below hbW
  have c4 := hR.c4
  have f1 := hR.fz 1
  obtain ⟨_, _, i, _, c1, _⟩ := hR.open_
  obtain ⟨t0, t1, t2⟩ := hT
  obtain ⟨z0, z1, z2, y0, y1, y2⟩ := hzW
  have n1 : ¬ b = w.heap.size := by omega
  have n2 : ¬ w.heap.size = b := by omega
  have n3 : ¬ b = w1.heap.size := by have := hb2.size; omega
  have n4 : ¬ w1.heap.size = b := by have := hb2.size; omega
  have n5 : ¬ w.heap.size = w1.heap.size := by have := hb1.size; simp at this; omega
  have n6 : ¬ w1.heap.size = w.heap.size := fun e => n5 e.symm
  have HW1 := Lib.hid hbW
  have HR := Lib.hid hR
  clear hbW hb1 hb2 htk hR hz hz1 hba
  by_cases hnx : s.err = 0 ∧ tk.kind ≠ 0
  · obtain ⟨he, hk⟩ := hnx
    have e4 := eqT (n := s.err) (k := 0) (by omega)
    have e5 := neT (n := tk.kind) (k := 0) (by omega)
    have HK : Hid (s.err = 0 ∧ (Rd.peek s).kind ≠ 0) := Lib.hid ⟨he, by rw [← HTK.out]; exact hk⟩
    clear he hk
    go_wp2_with fail
    refine bodyPost_ret (v := .agg #[.int .i64 tk.kind, .string ⟨tk.text.toArray⟩, .int .i64 tk.at_]) (by simp [results, Tryz.results86, go_sem, z0, z1, z2, n1, n2]) rfl ⟨by rw [HTK.out], ?_, ?_⟩
    · exact (((HR.out.nexted HK.out.1 HK.out.2 c1).set_ne n1 (by omega) _ _).set_ne n1 (by omega) _ _).set_ne n1 (by omega) _ _
    · exact But.setCell (But.setCell (But.setCell (Fr.set (But.of_below HW1.out) _ _) (.inr (Nat.le_refl _)) _) (.inr (Nat.le_refl _)) _) (.inr (Nat.le_refl _)) _
  · have HN : Hid (Rd.next s = s) := by
      unfold Rd.next
      rw [if_neg (by rw [← HTK.out]; exact hnx)]
      exact Lib.hid rfl
    have hcase : (((s.err : Int) == 0) = false) ∨ (((s.err : Int) == 0) = true ∧ ((tk.kind : Int) != 0) = false) := by
      by_cases he : s.err = 0
      · refine .inr ⟨eqT (by omega), neF ?_⟩
        by_cases hk : tk.kind = 0
        · omega
        · exact absurd ⟨he, hk⟩ hnx
      · exact .inl (eqF (by omega))
    clear hnx
    rcases hcase with e4 | ⟨e4, e5⟩
    all_goals
      go_wp2_with fail
      refine bodyPost_ret (v := .agg #[.int .i64 tk.kind, .string ⟨tk.text.toArray⟩, .int .i64 tk.at_]) (by simp [results, Tryz.results86, go_sem, z0, z1, z2, n1, n2]) rfl ⟨by rw [HTK.out], ?_, ?_⟩
      · rw [HN.out]
        exact ((HR.out.set_ne n1 (by omega) _ _).set_ne n1 (by omega) _ _).set_ne n1 (by omega) _ _
      · exact But.setCell (But.setCell (But.setCell (But.of_below HW1.out) (.inr (Nat.le_refl _)) _) (.inr (Nat.le_refl _)) _) (.inr (Nat.le_refl _)) _
end Go.Proofs.YtmgoebfcfgilfaaGreatDoor
namespace Go.Proofs.YtmgoebfcfgilfaaGreatDoor
set_option linter.unusedSimpArgs false
set_option linter.unusedVariables false
open Go Go.RowKit

/-- A slice of texts. -/
def Txts (w : World) (v : Value) (ls : List (List UInt8)) : Prop :=
  ∃ a cap, v = .slice a ls.length cap ∧ ∀ (i : Nat) s, ls[i]? = some s → ∃ b off, a = some ⟨b, off, none⟩ ∧ b < w.heap.size ∧ w.cell? ⟨b, off + i, none⟩ = some (.string ⟨s.toArray⟩)
theorem Txts.form {w : World} {v : Value} {ls : List (List UInt8)} (h : Txts w v ls) : ∃ a cap, v = .slice a ls.length cap := by
  obtain ⟨a, cap, h1, h2⟩ := h
  exact ⟨a, cap, h1⟩
theorem Txts.at {w : World} {a : Option Addr} {n cap : Nat} {ls : List (List UInt8)} (h : Txts w (.slice a n cap) ls) {i : Nat} {s : List UInt8} (hi : ls[i]? = some s) :
    ∃ b off, a = some ⟨b, off, none⟩ ∧ b < w.heap.size ∧ w.cell? ⟨b, off + i, none⟩ = some (.string ⟨s.toArray⟩) := by
  obtain ⟨a', cap', h1, h2⟩ := h
  obtain ⟨b, off, e, h3, h4⟩ := h2 i s hi
  simp only [Value.slice.injEq] at h1
  exact ⟨b, off, by rw [h1.1, e], h3, h4⟩
theorem Txts.below {w w' : World} {v : Value} {ls : List (List UInt8)} (h : Txts w v ls) (hb : Below w.heap.size w w') : Txts w' v ls := by
  obtain ⟨a, cap, h1, h2⟩ := h
  refine ⟨a, cap, h1, fun i s hi => ?_⟩
  obtain ⟨b, off, e, h3, h4⟩ := h2 i s hi
  exact ⟨b, off, e, Nat.lt_of_lt_of_le h3 hb.size, by rw [hb.cell (p := ⟨b, off + i, none⟩) h3]; exact h4⟩
theorem Txts.nil (w : World) : Txts w (.slice none 0 0) [] := ⟨none, 0, rfl, fun i s h => by simp at h⟩
theorem txts_lit (w : World) (ls : List (List UInt8)) (cs : Array Value) (T : TypeId) (hc : cs = (ls.map fun s => Value.string ⟨s.toArray⟩).toArray) : Txts (w.alloc (.cells cs T)) (.slice (some ⟨w.heap.size, 0, none⟩) ls.length ls.length) ls := by
  subst hc
  refine ⟨_, _, rfl, fun i s hi => ⟨w.heap.size, 0, rfl, by simp, ?_⟩⟩
  rw [Nat.zero_add]
  exact cell_at_new _ _ _ _ _ _ (by simp [hi])
theorem any_split {ls : List (List UInt8)} {p : List UInt8 → Bool} {j : Nat} {s : List UInt8} (h : ls[j]? = some s) : (ls.drop j).any p = (p s || (ls.drop (j + 1)).any p) := by
  obtain ⟨hj, rfl⟩ := List.getElem?_eq_some_iff.1 h
  rw [List.drop_eq_getElem_cons hj, List.any_cons]
set_option maxHeartbeats 1000000 in
set_option maxRecDepth 100000 in
theorem ris_any (b g : Nat) (s : Rd.St) (v : Value) (ls : List (List UInt8)) (w : World) (h : RdAt w b g s) (hV : Txts w v ls) (hl : ls.length ≤ 1000000) :
    Calls Tryz.prog 61 #[.pointer (some ⟨b, 0, none⟩), v] w fun r w' => r = .returned (.bool (ls.any (Rd.isS s))) ∧ Below w.heap.size w w' := by
  obtain ⟨va, vc, rfl⟩ := hV.form
  have H := Lib.hid h
  have HV := Lib.hid hV
  clear h hV
  go_enter Tryz.func61, Tryz.ntmps61
  go_wp2_with fail
  refine (rpeek_any b g s w H.out).mono ?_
  rintro r w1 ⟨rfl, hb1⟩
  obtain ⟨tk, htk⟩ : ∃ t, t = Rd.peek s := ⟨_, rfl⟩
  have HTK := Lib.hid htk
  rw [← htk]
  obtain ⟨W1, hW1⟩ : ∃ W, W = w1.alloc (.cells #[.int .i64 tk.kind, .string ⟨tk.text.toArray⟩, .int .i64 tk.at_] 87) := ⟨_, rfl⟩
  have hbW : Below w.heap.size w W1 := by rw [hW1]; exact hb1.alloc hb1.size _
  have hT := tkb_new w1 tk 87
  rw [← hW1] at hT
  have c4 := (H.out.below hbW).c4
  obtain ⟨t0, t1, t2⟩ := hT
  have HW1 := Lib.hid hbW
  have HE := Lib.hid hW1
  clear hbW hb1 htk hW1
  go_wp2_with fail
  rw [← HE.out]
  go_loopg [12] ls.length (fun k s12 wr => ∃ j : Nat, j ≤ ls.length ∧ k = ls.length - j ∧ s12 = .int .i64 (j : Nat) ∧ (ls.drop j).any (Rd.isS s) = ls.any (Rd.isS s) ∧ wr = W1)
  case atStart => exact ⟨0, Nat.zero_le _, rfl, rfl, rfl, rfl⟩
  case round =>
    obtain ⟨j, hj, hk, rfl, hall, rfl⟩ := hrel
    have HK := Lib.hid hk
    have HALL := Lib.hid hall
    clear hk hall
    have hj0 : (0 : Int) ≤ (j : Int) := Int.natCast_nonneg _
    by_cases hjn : j < ls.length
    · have hjn1 : (j : Int) < (ls.length : Int) := by omega
      obtain ⟨c, hc⟩ : ∃ c, ls[j]? = some c := ⟨_, List.getElem?_eq_getElem hjn⟩
      obtain ⟨cb, co, rfl, _, hcell⟩ := (HV.out.below HW1.out).at hc
      have HSP := Lib.hid (any_split (p := Rd.isS s) hc)
      clear hc
      by_cases he : s.err = 0
      · have e4 := eqT (n := s.err) (k := 0) (by omega)
        by_cases hkd : tk.kind = 5
        · have e5 := eqT (n := tk.kind) (k := 5) (by omega)
          by_cases htx : tk.text = c
          · have hte2 : (tk.text == c) = true := by rw [htx]; simp
            have HR : Hid (true = ls.any (Rd.isS s)) := by
              rw [← HALL.out, HSP.out]
              unfold Rd.isS
              rw [← HTK.out, he, hkd, htx]
              exact Lib.hid (by simp)
            clear htx he hkd
            go_wp2
            go_ret
            exact ⟨congrArg (fun b => Ending.returned (.bool b)) HR.out, HW1.out⟩
          · have hte2 : (tk.text == c) = false := by rw [beq_eq_false_iff_ne]; exact htx
            have HF : Hid (Rd.isS s c = false) := by
              unfold Rd.isS
              rw [← HTK.out, decide_eq_false htx, Bool.and_false]
              exact Lib.hid rfl
            clear htx he hkd
            go_wp2
            go_roundg (ls.length - (j + 1))
            case measure => rw [HK.out]; omega
            case rel => exact ⟨j + 1, hjn, rfl, by simp, by rw [← HALL.out, HSP.out, HF.out, Bool.false_or], rfl⟩
        · have e5 := eqF (n := tk.kind) (k := 5) (by omega)
          have HF : Hid (Rd.isS s c = false) := by
            unfold Rd.isS
            rw [← HTK.out, decide_eq_false hkd, Bool.and_false, Bool.false_and]
            exact Lib.hid rfl
          clear he hkd
          go_wp2
          go_roundg (ls.length - (j + 1))
          case measure => rw [HK.out]; omega
          case rel => exact ⟨j + 1, hjn, rfl, by simp, by rw [← HALL.out, HSP.out, HF.out, Bool.false_or], rfl⟩
      · have e4 := eqF (n := s.err) (k := 0) (by omega)
        have HF : Hid (Rd.isS s c = false) := by
          unfold Rd.isS
          rw [decide_eq_false he, Bool.false_and, Bool.false_and]
          exact Lib.hid rfl
        clear he
        go_wp2
        go_roundg (ls.length - (j + 1))
        case measure => rw [HK.out]; omega
        case rel => exact ⟨j + 1, hjn, rfl, by simp, by rw [← HALL.out, HSP.out, HF.out, Bool.false_or], rfl⟩
    · have hjn1 : (ls.length : Int) ≤ (j : Int) := by omega
      have HR : Hid (false = ls.any (Rd.isS s)) := by
        rw [← HALL.out, List.drop_of_length_le (by omega)]
        exact Lib.hid rfl
      go_wp2
      go_ret
      exact ⟨congrArg (fun b => Ending.returned (.bool b)) HR.out, HW1.out⟩
theorem ris1_any (b g : Nat) (s : Rd.St) (c : List UInt8) (T : TypeId) (w : World) (h : RdAt w b g s) :
    Calls Tryz.prog 61 #[.pointer (some ⟨b, 0, none⟩), .slice (some ⟨w.heap.size, 0, none⟩) 1 1] (w.alloc (.cells #[.string ⟨c.toArray⟩] T)) fun r w' => r = .returned (.bool (Rd.isS s c)) ∧ Below w.heap.size w w' := by
  have hb : Below w.heap.size w (w.alloc (.cells #[.string ⟨c.toArray⟩] T)) := (Below.refl _ _).alloc (Nat.le_refl _) _
  refine (ris_any b g s _ [c] _ (h.below hb) (txts_lit w [c] _ T rfl) (by simp)).mono ?_
  rintro r w' ⟨rfl, hb2⟩
  exact ⟨by simp, hb.trans (hb2.mono hb.size)⟩

set_option maxHeartbeats 1000000 in
set_option maxRecDepth 100000 in
theorem rword_any (b g : Nat) (s : Rd.St) (v : Value) (ls : List (List UInt8)) (w : World) (h : RdAt w b g s) (hV : Txts w v ls) (hl : ls.length ≤ 1000000) :
    Calls Tryz.prog 59 #[.pointer (some ⟨b, 0, none⟩), v] w fun r w' => r = .returned (.bool (Rd.isW s ls)) ∧ Below w.heap.size w w' := by
  obtain ⟨va, vc, rfl⟩ := hV.form
  have H := Lib.hid h
  have HV := Lib.hid hV
  clear h hV
  go_enter Tryz.func59, Tryz.ntmps59
  go_wp2_with fail
  refine (rpeek_any b g s w H.out).mono ?_
  rintro r w1 ⟨rfl, hb1⟩
  obtain ⟨tk, htk⟩ : ∃ t, t = Rd.peek s := ⟨_, rfl⟩
  have HTK := Lib.hid htk
  rw [← htk]
  obtain ⟨W1, hW1⟩ : ∃ W, W = w1.alloc (.cells #[.int .i64 tk.kind, .string ⟨tk.text.toArray⟩, .int .i64 tk.at_] 87) := ⟨_, rfl⟩
  have hbW : Below w.heap.size w W1 := by rw [hW1]; exact hb1.alloc hb1.size _
  have hT := tkb_new w1 tk 87
  rw [← hW1] at hT
  have c4a := (H.out.below hbW).c4
  have c4 := c4a
  rw [hW1] at c4
  obtain ⟨t0, t1, t2⟩ := hT
  have HW1 := Lib.hid hbW
  have HE := Lib.hid hW1
  clear hbW hb1 htk hW1
  by_cases he : s.err = 0
  · have e4 := eqT (n := s.err) (k := 0) (by omega)
    have e4' := neF (n := s.err) (k := 0) (by omega)
    by_cases hkd : tk.kind = 1
    · have e5 := neF (n := tk.kind) (k := 1) (by omega)
      have HN : Hid (∀ ws, Rd.isW s ws = (ws.any (fun w => decide (tk.text = w)) || ws.isEmpty)) := Lib.hid fun ws => by
        unfold Rd.isW Rd.isN
        rw [← HTK.out, decide_eq_true he, decide_eq_true hkd]
        rfl
      clear he hkd
      go_wp2_with fail
      rw [← HE.out]
      go_loopg [22] ls.length (fun k s22 wr => ∃ j : Nat, j ≤ ls.length ∧ k = ls.length - j ∧ s22 = .int .i64 (j : Nat) ∧ (ls.drop j).any (fun w => decide (tk.text = w)) = ls.any (fun w => decide (tk.text = w)) ∧ wr = W1)
      case atStart => exact ⟨0, Nat.zero_le _, rfl, rfl, rfl, rfl⟩
      case round =>
        obtain ⟨j, hj, hk, rfl, hall, rfl⟩ := hrel
        have HK := Lib.hid hk
        have HALL := Lib.hid hall
        clear hk hall
        have hj0 : (0 : Int) ≤ (j : Int) := Int.natCast_nonneg _
        by_cases hjn : j < ls.length
        · have hjn1 : (j : Int) < (ls.length : Int) := by omega
          obtain ⟨c, hc⟩ : ∃ c, ls[j]? = some c := ⟨_, List.getElem?_eq_getElem hjn⟩
          obtain ⟨cb, co, rfl, _, hcell⟩ := (HV.out.below HW1.out).at hc
          have HSP := Lib.hid (any_split (p := fun w => decide (tk.text = w)) hc)
          clear hc
          by_cases htx : tk.text = c
          · have hte2 : (tk.text == c) = true := by rw [htx]; simp
            have HR : Hid (true = Rd.isW s ls) := by
              rw [HN.out, ← HALL.out, HSP.out, decide_eq_true htx]
              exact Lib.hid rfl
            clear htx
            go_wp2
            go_ret
            exact ⟨congrArg (fun b => Ending.returned (.bool b)) HR.out, HW1.out⟩
          · have hte2 : (tk.text == c) = false := by rw [beq_eq_false_iff_ne]; exact htx
            have HF := Lib.hid (decide_eq_false htx)
            clear htx
            go_wp2
            go_roundg (ls.length - (j + 1))
            case measure => rw [HK.out]; omega
            case rel => exact ⟨j + 1, hjn, rfl, by simp, by rw [← HALL.out, HSP.out]; show _ = (decide (tk.text = c) || _); rw [HF.out, Bool.false_or], rfl⟩
        · have hjn1 : (ls.length : Int) ≤ (j : Int) := by omega
          have HANY : Hid (ls.any (fun w => decide (tk.text = w)) = false) := by
            rw [← HALL.out, List.drop_of_length_le (by omega)]
            exact Lib.hid rfl
          by_cases hz : ls = []
          · have HR : Hid (true = Rd.isW s ls) := by rw [HN.out, HANY.out, hz]; exact Lib.hid rfl
            have hz0 := eqT (n := ls.length) (k := 0) (by simp [hz])
            clear hz
            go_wp2
            go_ret
            exact ⟨congrArg (fun b => Ending.returned (.bool b)) HR.out, HW1.out⟩
          · have HR : Hid (false = Rd.isW s ls) := by
              rw [HN.out, HANY.out]
              cases hls : ls with
              | nil => exact absurd hls hz
              | cons => exact Lib.hid rfl
            have hz0 := eqF (n := ls.length) (k := 0) (by
              intro e
              exact hz (List.eq_nil_of_length_eq_zero (by omega)))
            clear hz
            go_wp2
            go_ret
            exact ⟨congrArg (fun b => Ending.returned (.bool b)) HR.out, HW1.out⟩
    · have e5 := neT (n := tk.kind) (k := 1) (by omega)
      have HR : Hid (false = Rd.isW s ls) := by
        unfold Rd.isW Rd.isN
        rw [← HTK.out, decide_eq_false hkd, Bool.and_false, Bool.false_and]
        exact Lib.hid rfl
      clear he hkd
      go_wp2_with fail
      rw [← HE.out]
      go_ret
      exact ⟨congrArg (fun b => Ending.returned (.bool b)) HR.out, HW1.out⟩
  · have e4 := eqF (n := s.err) (k := 0) (by omega)
    have e4' := neT (n := s.err) (k := 0) (by omega)
    have HR : Hid (false = Rd.isW s ls) := by
      unfold Rd.isW Rd.isN
      rw [decide_eq_false he, Bool.false_and, Bool.false_and]
      exact Lib.hid rfl
    clear he
    go_wp2_with fail
    rw [← HE.out]
    go_ret
    exact ⟨congrArg (fun b => Ending.returned (.bool b)) HR.out, HW1.out⟩
theorem rword0_any (b g : Nat) (s : Rd.St) (w : World) (h : RdAt w b g s) :
    Calls Tryz.prog 59 #[.pointer (some ⟨b, 0, none⟩), .slice none 0 0] w fun r w' => r = .returned (.bool (Rd.isN s)) ∧ Below w.heap.size w w' := by
  refine (rword_any b g s _ [] w h (Txts.nil w) (by simp)).mono ?_
  rintro r w' ⟨rfl, hb⟩
  exact ⟨by unfold Rd.isW; simp, hb⟩
theorem rword1_any (b g : Nat) (s : Rd.St) (c : List UInt8) (T : TypeId) (w : World) (h : RdAt w b g s) :
    Calls Tryz.prog 59 #[.pointer (some ⟨b, 0, none⟩), .slice (some ⟨w.heap.size, 0, none⟩) 1 1] (w.alloc (.cells #[.string ⟨c.toArray⟩] T)) fun r w' => r = .returned (.bool (Rd.isW s [c])) ∧ Below w.heap.size w w' := by
  have hb : Below w.heap.size w (w.alloc (.cells #[.string ⟨c.toArray⟩] T)) := (Below.refl _ _).alloc (Nat.le_refl _) _
  refine (rword_any b g s _ [c] _ (h.below hb) (txts_lit w [c] _ T rfl) (by simp)).mono ?_
  rintro r w' ⟨rfl, hb2⟩
  exact ⟨rfl, hb.trans (hb2.mono hb.size)⟩
theorem rword2_any (b g : Nat) (s : Rd.St) (c d : List UInt8) (T : TypeId) (w : World) (h : RdAt w b g s) :
    Calls Tryz.prog 59 #[.pointer (some ⟨b, 0, none⟩), .slice (some ⟨w.heap.size, 0, none⟩) 2 2] (w.alloc (.cells #[.string ⟨c.toArray⟩, .string ⟨d.toArray⟩] T)) fun r w' => r = .returned (.bool (Rd.isW s [c, d])) ∧ Below w.heap.size w w' := by
  have hb : Below w.heap.size w (w.alloc (.cells #[.string ⟨c.toArray⟩, .string ⟨d.toArray⟩] T)) := (Below.refl _ _).alloc (Nat.le_refl _) _
  refine (rword_any b g s _ [c, d] _ (h.below hb) (txts_lit w [c, d] _ T rfl) (by simp)).mono ?_
  rintro r w' ⟨rfl, hb2⟩
  exact ⟨rfl, hb.trans (hb2.mono hb.size)⟩
end Go.Proofs.YtmgoebfcfgilfaaGreatDoor
namespace Go.Proofs.YtmgoebfcfgilfaaGreatDoor
set_option linter.unusedSimpArgs false
set_option linter.unusedVariables false
open Go Go.RowKit

set_option maxRecDepth 100000 in
theorem rtake_any (b g : Nat) (s : Rd.St) (c : List UInt8) (w : World) (h : RdAt w b g s) :
    Calls Tryz.prog 93 #[.pointer (some ⟨b, 0, none⟩), .string ⟨c.toArray⟩] w fun r w' => r = .returned (.bool (Rd.isS s c)) ∧ RdAt w' b g (Rd.take c s) ∧ Fr b w w' := by
  have H := Lib.hid h
  clear h
  go_enter Tryz.func93, Tryz.ntmps93
  go_wp2_with fail
  refine (ris1_any b g s c _ w H.out).mono ?_
  rintro r w1 ⟨rfl, hb1⟩
  obtain ⟨B, hB⟩ : ∃ B, B = Rd.isS s c := ⟨_, rfl⟩
  have HB := Lib.hid hB
  have H1 := Lib.hid (H.out.below hb1)
  have HB1 := Lib.hid hb1
  rw [← hB]
  clear hB hb1
  cases B
  · go_wp2_with fail
    go_ret
    refine ⟨congrArg (fun b => Ending.returned (.bool b)) HB.out, ?_, But.of_below HB1.out⟩
    unfold Rd.take
    rw [if_neg (by rw [← HB.out]; simp)]
    exact H1.out
  · go_wp2_with fail
    refine (rnext_any b g s w1 H1.out).mono ?_
    rintro r w2 ⟨rfl, h2, f2⟩
    have H2 := Lib.hid h2
    have F2 := Lib.hid f2
    clear h2 f2
    go_wp2_with fail
    go_ret
    refine ⟨congrArg (fun b => Ending.returned (.bool b)) HB.out, ?_, (But.of_below HB1.out).trans F2.out⟩
    unfold Rd.take
    rw [if_pos HB.out.symm]
    exact H2.out

set_option maxRecDepth 100000 in
theorem rwant_any (b g : Nat) (s : Rd.St) (c : List UInt8) (w : World) (h : RdAt w b g s) :
    Calls Tryz.prog 124 #[.pointer (some ⟨b, 0, none⟩), .string ⟨c.toArray⟩] w fun r w' => r = .returned (.tuple #[]) ∧ RdAt w' b g (Rd.want c s) ∧ Fr b w w' := by
  have H := Lib.hid h
  clear h
  go_enter Tryz.func124, Tryz.ntmps124
  go_wp2_with fail
  refine (rtake_any b g s c w H.out).mono ?_
  rintro r w1 ⟨rfl, h1, f1⟩
  obtain ⟨B, hB⟩ : ∃ B, B = Rd.isS s c := ⟨_, rfl⟩
  have HB := Lib.hid hB
  have H1 := Lib.hid h1
  have F1 := Lib.hid f1
  rw [← hB]
  clear hB h1 f1
  cases B
  · have H2 : Hid (RdAt w1 b g s) := by
      have := H1.out
      unfold Rd.take at this
      rw [if_neg (by rw [← HB.out]; simp)] at this
      exact Lib.hid this
    go_wp2_with fail
    refine (rwrong_any b g s w1 H2.out).mono ?_
    rintro r w2 ⟨rfl, h2, f2⟩
    go_wp2_with fail
    go_end0
    refine ⟨rfl, ?_, F1.out.trans f2⟩
    unfold Rd.want
    rw [if_neg (by rw [← HB.out]; simp)]
    exact h2
  · go_wp2_with fail
    go_end0
    refine ⟨rfl, ?_, F1.out⟩
    have := H1.out
    unfold Rd.take at this
    unfold Rd.want
    rw [if_pos HB.out.symm] at this ⊢
    exact this

set_option maxRecDepth 100000 in
theorem rname_any (b g : Nat) (s : Rd.St) (w : World) (h : RdAt w b g s) :
    Calls Tryz.prog 88 #[.pointer (some ⟨b, 0, none⟩)] w fun r w' => r = .returned (.string ⟨(Rd.name s).2.toArray⟩) ∧ RdAt w' b g (Rd.name s).1 ∧ Fr b w w' := by
  have H := Lib.hid h
  clear h
  go_enter Tryz.func88, Tryz.ntmps88
  go_wp2_with fail
  refine (rword0_any b g s w H.out).mono ?_
  rintro r w1 ⟨rfl, hb1⟩
  obtain ⟨B, hB⟩ : ∃ B, B = Rd.isN s := ⟨_, rfl⟩
  have HB := Lib.hid hB
  have H1 := Lib.hid (H.out.below hb1)
  have HB1 := Lib.hid hb1
  rw [← hB]
  clear hB hb1
  cases B
  · go_wp2_with fail
    refine (rwrong_any b g s w1 H1.out).mono ?_
    rintro r w2 ⟨rfl, h2, f2⟩
    have H2 := Lib.hid h2
    have F2 := Lib.hid f2
    clear h2 f2
    have e : Rd.name s = (Rd.wrong s, []) := by unfold Rd.name; rw [if_neg (by rw [← HB.out]; simp)]
    have HE := Lib.hid e
    clear e
    go_wp2_with fail
    go_ret
    exact ⟨by rw [HE.out]; rfl, by rw [HE.out]; exact H2.out, (But.of_below HB1.out).trans F2.out⟩
  · go_wp2_with fail
    refine (rnext_any b g s w1 H1.out).mono ?_
    rintro r w2 ⟨rfl, h2, f2⟩
    have H2 := Lib.hid h2
    have F2 := Lib.hid f2
    clear h2 f2
    have e : Rd.name s = (Rd.next s, (Rd.peek s).text) := by unfold Rd.name; rw [if_pos HB.out.symm]
    have HE := Lib.hid e
    clear e
    go_wp2_with fail
    go_ret
    exact ⟨by rw [HE.out]; rfl, by rw [HE.out]; exact H2.out, (But.of_below HB1.out).trans F2.out⟩

theorem RdAt.deeped {w : World} {b g : Nat} {s : Rd.St} (h : RdAt w b g s) (d : Int) : RdAt (w.setCell ⟨b, 2, none⟩ (.int .i64 d)) b g { s with deep := d } := by
  obtain ⟨⟨T, cap, ts, i, h1, h2, h3, h4, h5⟩, h6⟩ := h
  have h7 := heap_set1 (k := 2) (v := .int .i64 d) h1
  exact ⟨⟨T, cap, ts, i, by rw [h7]; rfl, h2.heap (by rw [size_set]; exact Nat.le_refl _) (by rw [heap_set_ne h6]), h3, h4, h5⟩, h6⟩

set_option maxRecDepth 100000 in
theorem rup_any (b g : Nat) (s : Rd.St) (c : List UInt8) (w : World) (h : RdAt w b g s) (hd : -1000000 ≤ s.deep ∧ s.deep ≤ 1000000) :
    Calls Tryz.prog 158 #[.pointer (some ⟨b, 0, none⟩), .string ⟨c.toArray⟩] w fun r w' => r = .returned (.tuple #[]) ∧ RdAt w' b g (Rd.up c s) ∧ Fr b w w' := by
  have H := Lib.hid h
  obtain ⟨d0, d1⟩ := hd
  clear h
  go_enter Tryz.func158, Tryz.ntmps158
  go_wp2_with fail
  refine (rwant_any b g s c w H.out).mono ?_
  rintro r w1 ⟨rfl, h1, f1⟩
  have c2 := h1.c2
  rw [Rd.want_deep] at c2
  have z2 := h1.fz 2
  have H1 := Lib.hid h1
  have F1 := Lib.hid f1
  clear h1 f1
  go_wp2
  go_end0
  refine ⟨rfl, ?_, F1.out.setCell (.inl rfl) _⟩
  have := H1.out.deeped (s.deep - 1)
  show RdAt _ b g { Rd.want c s with deep := (Rd.want c s).deep - 1 }
  rw [Rd.want_deep]
  exact this

set_option maxRecDepth 100000 in
theorem rdown_any (b g : Nat) (s : Rd.St) (c : List UInt8) (w : World) (h : RdAt w b g s) (hd : -1000000 ≤ s.deep ∧ s.deep ≤ 1000000) :
    Calls Tryz.prog 156 #[.pointer (some ⟨b, 0, none⟩), .string ⟨c.toArray⟩] w fun r w' => r = .returned (.tuple #[]) ∧ RdAt w' b g (Rd.down c s) ∧ Fr b w w' := by
  have H := Lib.hid h
  obtain ⟨d0, d1⟩ := hd
  clear h
  go_enter Tryz.func156, Tryz.ntmps156
  go_wp2_with fail
  refine (ris1_any b g s c _ w H.out).mono ?_
  rintro r w1 ⟨rfl, hb1⟩
  obtain ⟨B, hB⟩ : ∃ B, B = Rd.isS s c := ⟨_, rfl⟩
  have HB := Lib.hid hB
  have H1 := Lib.hid (H.out.below hb1)
  have c2 := (H.out.below hb1).c2
  have HB1 := Lib.hid hb1
  rw [← hB]
  clear hB hb1
  by_cases hx : B = true ∧ s.deep = 16
  · obtain ⟨rfl, h16⟩ := hx
    have e16 : (s.deep == 16) = true := by rw [h16]; rfl
    have HD : Hid (Rd.down c s = { Rd.want c (Rd.fail 42 s) with deep := (Rd.want c (Rd.fail 42 s)).deep + 1 }) := by
      unfold Rd.down
      rw [if_pos ⟨HB.out.symm, h16⟩]
      exact Lib.hid rfl
    clear h16
    go_wp2_with fail
    refine (rfail_any b g 42 s w1 H1.out).mono ?_
    rintro r w2 ⟨rfl, h2, f2⟩
    have H2 := Lib.hid h2
    have F2 := Lib.hid f2
    clear h2 f2 c2
    go_wp2_with fail
    refine (rwant_any b g (Rd.fail 42 s) c w2 H2.out).mono ?_
    rintro r w3 ⟨rfl, h3, f3⟩
    have c2 := h3.c2
    rw [Rd.want_deep, Rd.fail_deep] at c2
    have z2 := h3.fz 2
    have H3 := Lib.hid h3
    have F3 := Lib.hid f3
    clear h3 f3
    go_wp2
    go_end0
    refine ⟨rfl, ?_, (((But.of_below HB1.out).trans F2.out).trans F3.out).setCell (.inl rfl) _⟩
    rw [HD.out, Rd.want_deep, Rd.fail_deep]
    exact H3.out.deeped (s.deep + 1)
  · have HD : Hid (Rd.down c s = { Rd.want c s with deep := (Rd.want c s).deep + 1 }) := by
      unfold Rd.down
      rw [if_neg (fun h => hx ⟨by rw [HB.out]; exact h.1, h.2⟩)]
      exact Lib.hid rfl
    have hcase : B = false ∨ (B = true ∧ (s.deep == 16) = false) := by
      cases B
      · exact .inl rfl
      · refine .inr ⟨rfl, ?_⟩
        rw [beq_eq_false_iff_ne]
        exact fun h => hx ⟨rfl, h⟩
    clear hx
    rcases hcase with rfl | ⟨rfl, e16⟩
    all_goals
      go_wp2_with fail
      refine (rwant_any b g s c w1 H1.out).mono ?_
      rintro r w3 ⟨rfl, h3, f3⟩
      clear c2
      have c2 := h3.c2
      rw [Rd.want_deep] at c2
      have z2 := h3.fz 2
      have H3 := Lib.hid h3
      have F3 := Lib.hid f3
      clear h3 f3
      go_wp2
      go_end0
      refine ⟨rfl, ?_, ((But.of_below HB1.out).trans F3.out).setCell (.inl rfl) _⟩
      rw [HD.out, Rd.want_deep]
      exact H3.out.deeped (s.deep + 1)
namespace Rd
section
variable {α : Type} (c : List UInt8) (f : St → St × α)
end
end Rd

set_option maxHeartbeats 1000000 in
set_option maxRecDepth 100000 in
/-- The reader's 'Some', whatever is done. -/
theorem some_any {α : Type} (c : List UInt8) (f : Rd.St → Rd.St × α) (I : Rd.St → List α → World → Prop) (b g : Nat) (k : FuncId) (cap : Array Value) (hk : ∀ w, Sem.run Tryz.prog (callFunc k cap) w = .ok (.enter k cap) w)
    (hR : ∀ s out w, I s out w → RdAt w b g s) (hB : ∀ s out w w', I s out w → Below w.heap.size w w' → I s out w')
    (hdo : ∀ s out w, I s out w → s.err = 0 → Calls Tryz.prog k cap w fun r w' => r = .returned (.tuple #[]) ∧ I (f s).1 (out ++ [(f s).2]) w')
    (hG : ∀ s out w, I s out w → s.err = 0 → Rd.isS s c = false → (f s).1.err ≠ 0 ∨ (f s).1.rest.length < s.rest.length)
    (n : Nat) (s0 : Rd.St) (out0 : List α) (w : World) (h0 : I s0 out0 w) (hn : s0.err ≠ 0 ∨ s0.rest.length < n) :
    Calls Tryz.prog 121 #[.pointer (some ⟨b, 0, none⟩), .string ⟨c.toArray⟩, .bool false, .func (.func k) #[] cap] w fun r w' => r = .returned (.tuple #[]) ∧ I (Rd.loop c f n s0 out0).1 (Rd.loop c f n s0 out0).2 w' := by
  have H0 := Lib.hid h0
  have HRR := Lib.hid hR
  have HBB := Lib.hid hB
  have HDO := Lib.hid hdo
  have HG := Lib.hid hG
  obtain ⟨L, hL⟩ : ∃ L, L = Rd.loop c f n s0 out0 := ⟨_, rfl⟩
  have HL := Lib.hid hL
  rw [← hL]
  clear h0 hR hB hdo hG hL
  go_enter Tryz.func121, Tryz.ntmps121
  go_wp2_with fail
  go_loopg [] (n + 1) (fun q wr => ∃ (m : Nat) (s : Rd.St) (out : List α), q = m + 1 ∧ I s out wr ∧ (s.err ≠ 0 ∨ s.rest.length < m) ∧ Rd.loop c f m s out = L)
  case atStart => exact ⟨n, _, _, rfl, H0.out, hn, HL.out.symm⟩
  case round =>
    obtain ⟨m, s, out, rfl, hI, hm, hloop⟩ := hrel
    have HI := Lib.hid hI
    have HLP := Lib.hid hloop
    have HM := Lib.hid hm
    have c4 := (HRR.out _ _ _ hI).c4
    clear hI hloop hm
    by_cases he : s.err = 0
    · have e4 := eqT (n := s.err) (k := 0) (by omega)
      have HHE := Lib.hid he
      clear he
      go_wp2_with fail
      refine (ris1_any b g s c _ wr (HRR.out _ _ _ HI.out)).mono ?_
      rintro r w1 ⟨rfl, hb1⟩
      obtain ⟨B, hBe⟩ : ∃ B, B = Rd.isS s c := ⟨_, rfl⟩
      have HBE := Lib.hid hBe
      have H1 := Lib.hid (HBB.out _ _ _ _ HI.out hb1)
      rw [← hBe]
      clear hBe hb1
      cases B
      · obtain ⟨m', rfl⟩ : ∃ m', m = m' + 1 := by
          rcases HM.out with h | h
          · exact absurd HHE.out h
          · exact ⟨m - 1, by omega⟩
        have HST : Hid (Rd.loop c f m' (f s).1 (out ++ [(f s).2]) = L) := by
          rw [← HLP.out, Rd.loop, if_pos ⟨HHE.out, HBE.out.symm⟩]
          exact Lib.hid rfl
        go_wp2_with fail
        refine (HDO.out s out w1 H1.out HHE.out).mono ?_
        rintro r w2 ⟨rfl, h2⟩
        have H2 := Lib.hid h2
        clear h2
        have HST2 : Hid ((f s).1.err ≠ 0 ∨ (f s).1.rest.length < m') := by
          rcases HG.out s out w1 H1.out HHE.out HBE.out.symm with h | h
          · exact Lib.hid (.inl h)
          · rcases HM.out with h2 | h2
            · exact absurd HHE.out h2
            · exact Lib.hid (.inr (by omega))
        go_wp2_with fail
        go_roundg (m' + 1)
        case measure => omega
        case rel => exact ⟨m', (f s).1, out ++ [(f s).2], rfl, H2.out, HST2.out, HST.out⟩
      · have HEND : Hid (L = (s, out)) := by
          rw [← HLP.out]
          cases m with
          | zero => exact Lib.hid rfl
          | succ m => rw [Rd.loop, if_neg (fun h => by have := h.2; rw [← HBE.out] at this; cases this)]; exact Lib.hid rfl
        go_wp2_with fail
        go_end0
        exact ⟨rfl, by rw [HEND.out]; exact H1.out⟩
    · have e4 := eqF (n := s.err) (k := 0) (by omega)
      have HEND : Hid (L = (s, out)) := by
        rw [← HLP.out]
        cases m with
        | zero => exact Lib.hid rfl
        | succ m => rw [Rd.loop, if_neg (fun h => he h.1)]; exact Lib.hid rfl
      clear he
      go_wp2_with fail
      go_end0
      exact ⟨rfl, by rw [HEND.out]; exact HI.out⟩
end Go.Proofs.YtmgoebfcfgilfaaGreatDoor
namespace Go.Proofs.YtmgoebfcfgilfaaGreatDoor
set_option linter.unusedSimpArgs false
set_option linter.unusedVariables false
open Go Go.RowKit

theorem RdAt.rest_len {w : World} {b g : Nat} {s : Rd.St} (h : RdAt w b g s) : 1 ≤ s.rest.length ∧ s.rest.length ≤ 1501 := by
  obtain ⟨⟨T, cap, ts, i, h1, h2, h3, h4, h5⟩, h6⟩ := h
  rw [h3, List.length_drop]
  have := h5.len
  omega

end Go.Proofs.YtmgoebfcfgilfaaGreatDoor
