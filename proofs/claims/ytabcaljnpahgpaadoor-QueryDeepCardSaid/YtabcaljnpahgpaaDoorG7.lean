/-
  The reader: Value, walked. The reader: Value, Arg at any depth; Args, walked. A row in a variable of a call's own, beside the reader. The reader of a text: New, walked.
-/
import Derived.Test.YtabcaljnpahgpaaDoorG6
import Derived.Test.YtabcaljnpahgpaaDoorG3
namespace Go.Proofs.YtabcaljnpahgpaaDoor
set_option linter.unusedSimpArgs false
set_option linter.unusedVariables false
open Go Go.RowKit

/-- Within 'Value': its boxes, its result's place, the token at hand, the value being made. -/
structure VI (w0 : World) (b g t5 t6 : Nat) (fixed : Bool) (tk : Lx.Tok) (c6 : Array Value) (s : Rd.St) (w : World) : Prop where
  rd : RdAt w b g s
  b2 : w.heap[w0.heap.size]? = some (.cells #[.pointer (some ⟨b, 0, none⟩)] 87 (0, 0))
  b3 : w.heap[w0.heap.size + 1]? = some (.cells #[.bool fixed] 4 (0, 0))
  b4 : w.heap[w0.heap.size + 1 + 1]? = some (.cells #[.int .i64 0, .string ⟨#[]⟩, .slice none 0 0, .slice none 0 0, .int .i64 0] 39 (0, 0))
  b5 : w.heap[t5]? = some (.cells #[.int .i64 tk.kind, .string ⟨tk.text.toArray⟩, .int .i64 tk.at_] 68 (0, 0))
  b6 : w.heap[t6]? = some (.cells c6 39 (0, 0))
  fr : Fr b w0 w
  o5 : w0.heap.size + 3 ≤ t5
  o6 : t5 < t6
  lb : b < w0.heap.size
  lg : g < w0.heap.size
section
variable {w0 w w' : World} {b g t5 t6 : Nat} {fixed : Bool} {tk : Lx.Tok} {c6 : Array Value} {s s' : Rd.St}
theorem VI.step (h : VI w0 b g t5 t6 fixed tk c6 s w) (hr : RdAt w' b g s') (hf : Fr b w w') : VI w0 b g t5 t6 fixed tk c6 s' w' := by
  have lb := h.lb
  have o5 := h.o5
  have o6 := h.o6
  have e : ∀ x o, w.heap[x]? = some o → x ≠ b → w'.heap[x]? = some o := fun x o hx hb => by rw [hf.block x (block_lt hx) hb]; exact hx
  exact ⟨hr, e _ _ h.b2 (by omega), e _ _ h.b3 (by omega), e _ _ h.b4 (by omega), e _ _ h.b5 (by omega), e _ _ h.b6 (by omega), h.fr.trans hf, o5, o6, lb, h.lg⟩
theorem VI.below (h : VI w0 b g t5 t6 fixed tk c6 s w) (hb : Below w.heap.size w w') : VI w0 b g t5 t6 fixed tk c6 s w' := h.step (h.rd.below hb) (But.of_below hb)
theorem VI.put (h : VI w0 b g t5 t6 fixed tk c6 s w) (j : Nat) (v : Value) : VI w0 b g t5 t6 fixed tk (c6.setIfInBounds j v) s (w.setCell ⟨t6, j, none⟩ v) := by
  have lb := h.lb
  have lg := h.lg
  have o5 := h.o5
  have o6 := h.o6
  refine ⟨h.rd.set_ne (by omega) (by omega) _ _, by rw [heap_set_ne (by omega)]; exact h.b2, by rw [heap_set_ne (by omega)]; exact h.b3, by rw [heap_set_ne (by omega)]; exact h.b4, by rw [heap_set_ne (by omega)]; exact h.b5, heap_set1 h.b6, ?_, o5, o6, lb, lg⟩
  exact h.fr.setCell (.inr (by show w0.heap.size ≤ t6; omega)) v
/-- The end: the value is copied to its place. -/
theorem VI.fin {d : D} {cs : List Value} {P : Nat → Prop} (h : VI w0 b g t5 t6 fixed tk cs.toArray s w) (hd : Reads w P d cs) (hP : ∀ x, P x → t6 < x) :
    Reads (putCells w (w0.heap.size + 1 + 1) 0 cs) (fun x => w0.heap.size ≤ x) d cs ∧ RdAt (putCells w (w0.heap.size + 1 + 1) 0 cs) b g s ∧ Fr b w0 (putCells w (w0.heap.size + 1 + 1) 0 cs) := by
  have lb := h.lb
  have lg := h.lg
  have o5 := h.o5
  have o6 := h.o6
  have hk : ∀ x, x ≠ w0.heap.size + 1 + 1 → (putCells w (w0.heap.size + 1 + 1) 0 cs).heap[x]? = w.heap[x]? := fun x h1 => putCells_ne _ _ h1 _ _ _
  have hsz := putCells_size (w0.heap.size + 1 + 1) cs 0 w
  have ho := putCells_os (w0.heap.size + 1 + 1) cs 0 w
  refine ⟨hd.to ⟨by rw [hsz]; exact Nat.le_refl _, fun x hx hp => ⟨by have := hP x hp; show w0.heap.size ≤ x; omega, hk x (by have := hP x hp; omega)⟩⟩, h.rd.to (by rw [hsz]; exact Nat.le_refl _) (hk b (by omega)) (hk g (by omega)), ⟨ho.1.trans h.fr.os, ho.2.1.trans h.fr.tape, ho.2.2.trans h.fr.output, by rw [hsz]; exact h.fr.size, fun x hx hxb => by
    rw [hk x (by omega)]
    exact h.fr.block x hx hxb⟩⟩
theorem leaf_reads (w : World) (k at_ : Nat) (t : List UInt8) : Reads w (fun _ => False) (Rd.V.d (.mk k t [] [] at_)) [.int .i64 k, .string ⟨t.toArray⟩, .slice none 0 0, .slice none 0 0, .int .i64 at_] := by
  rw [Rd.V.d, Rd.V.dl, Rd.A.dl]
  exact .obj (.cons (.int _) (.cons (.str _) (.cons (cs := [.slice none 0 0]) (.seq (cap := 0) .nil) (.cons (cs := [.slice none 0 0]) (.seq (cap := 0) .nil) (.cons (.int _) .nil)))))
end
theorem ris1N_any (b g N : Nat) (s : Rd.St) (c : List UInt8) (T : TypeId) (w : World) (h : RdAt w b g s) (hN : N = w.heap.size) :
    Calls Tryd.prog 19 #[.pointer (some ⟨b, 0, none⟩), .slice (some ⟨N, 0, none⟩) 1 1] (w.alloc (.cells #[.string ⟨c.toArray⟩] T)) fun r w' => r = .returned (.bool (Rd.isS s c)) ∧ Below w.heap.size w w' := by
  subst hN
  exact ris1_any b g s c T w h


/-- What is kept while items or fields are read. -/
def vbx (w0 : World) (b t5 : Nat) (fixed : Bool) (tk : Lx.Tok) : List Box :=
  [(w0.heap.size, .cells #[.pointer (some ⟨b, 0, none⟩)] 87 (0, 0)), (w0.heap.size + 1, .cells #[.bool fixed] 4 (0, 0)),
   (w0.heap.size + 1 + 1, .cells #[.int .i64 0, .string ⟨#[]⟩, .slice none 0 0, .slice none 0 0, .int .i64 0] 39 (0, 0)), (t5, .cells #[.int .i64 tk.kind, .string ⟨tk.text.toArray⟩, .int .i64 tk.at_] 68 (0, 0))]
def VLI {α : Type} (w0 : World) (b g t5 t6 : Nat) (fixed : Bool) (tk : Lx.Tok) (mk : Value → Array Value) (E : TypeId) (k : Nat) (dd : α → D) (m : Nat) (d1 : Int) (s : Rd.St) (out : List α) (w : World) : Prop :=
  LI w0 b g t6 (vbx w0 b t5 fixed tk) 39 mk E k s (out.map dd) w ∧ s.deep = d1 ∧ (s.err = 0 → s.rest.length ≤ m ∧ out.length + s.rest.length ≤ 1601) ∧ out.length ≤ 1602
theorem VLI.start {α : Type} {w0 w : World} {b g t5 t6 : Nat} {fixed : Bool} {tk : Lx.Tok} {mk : Value → Array Value} {E : TypeId} {k : Nat} {dd : α → D} {m : Nat} {s : Rd.St} (h : VI w0 b g t5 t6 fixed tk (mk (.slice none 0 0)) s w)
    (hm : s.err = 0 → s.rest.length ≤ m) (hm2 : m ≤ 1600) : VLI w0 b g t5 t6 fixed tk mk E k dd m s.deep s ([] : List α) w := by
  have o5 := h.o5
  have o6 := h.o6
  refine ⟨⟨h.rd, fun p hp => ?_, ⟨_, h.b6, Grows.nil _ _ _ _ _⟩, h.fr, h.lb, h.lg, fun p hp => ?_, by omega⟩, rfl, fun he => ⟨hm he, by have := hm he; simp; omega⟩, by simp⟩
  · unfold vbx at hp
    simp only [List.mem_cons, List.not_mem_nil, or_false] at hp
    rcases hp with rfl | rfl | rfl | rfl
    · exact h.b2
    · exact h.b3
    · exact h.b4
    · exact h.b5
  · unfold vbx at hp
    simp only [List.mem_cons, List.not_mem_nil, or_false] at hp
    rcases hp with rfl | rfl | rfl | rfl <;> (simp only; omega)
theorem VI.of_LI {w0 w : World} {b g t5 t6 : Nat} {fixed : Bool} {tk : Lx.Tok} {mk : Value → Array Value} {E : TypeId} {k : Nat} {ds : List D} {s : Rd.St} {v : Value} (h : LI w0 b g t6 (vbx w0 b t5 fixed tk) 39 mk E k s ds w) (o5 : w0.heap.size + 3 ≤ t5) (o6 : t5 < t6)
    (hv : w.heap[t6]? = some (.cells (mk v) 39 (0, 0))) : VI w0 b g t5 t6 fixed tk (mk v) s w :=
  ⟨h.rd, h.cb (w0.heap.size, _) (by simp [vbx]), h.cb (w0.heap.size + 1, _) (by simp [vbx]), h.cb (w0.heap.size + 1 + 1, _) (by simp [vbx]), h.cb (t5, _) (by simp [vbx]), hv, h.fr, o5, o6, h.lb, h.lg⟩
theorem enters_C1 (cap : Array Value) (w : World) : Sem.run Tryd.prog (callFunc 67 cap) w = .ok (.enter 67 cap) w := by kernel_rfl
theorem enters_C2 (cap : Array Value) (w : World) : Sem.run Tryd.prog (callFunc 68 cap) w = .ok (.enter 68 cap) w := by kernel_rfl
set_option maxHeartbeats 2000000 in
set_option maxRecDepth 100000 in
theorem rvalue_step (b g : Nat) (fixed : Bool) (n : Nat) (s : Rd.St) (w : World) (h : RdAt w b g s) (hn : s.rest.length ≤ n) (hnb : n ≤ 1600) (hd : 0 ≤ s.deep ∧ s.deep + n ≤ 900000)
    (ih : ∀ m, n = m + 1 → ∀ (s : Rd.St) (w : World), RdAt w b g s → s.rest.length ≤ m → 0 ≤ s.deep ∧ s.deep + m ≤ 900000 → Calls Tryd.prog 50 #[.pointer (some ⟨b, 0, none⟩), .bool fixed] w (Got b g w (Rd.value fixed (m + 1) s).2.d (Rd.value fixed (m + 1) s).1)) :
    Calls Tryd.prog 50 #[.pointer (some ⟨b, 0, none⟩), .bool fixed] w (Got b g w (Rd.value fixed (n + 1) s).2.d (Rd.value fixed (n + 1) s).1) := by
  obtain ⟨d0, d1⟩ := hd
  have hlb := h.lt
  have H := Lib.hid h
  have HIH := Lib.hid ih
  have hba : Below w.heap.size w (((w.alloc (.cells #[.pointer (some ⟨b, 0, none⟩)] 87)).alloc (.cells #[.bool fixed] 4)).alloc (.cells #[.int .i64 0, .string ⟨#[]⟩, .slice none 0 0, .slice none 0 0, .int .i64 0] 39)) :=
    (((Below.refl _ _).alloc (Nat.le_refl _) _).alloc (by simp) _).alloc (by simp; omega) _
  have hW0 : (((w.alloc (.cells #[.pointer (some ⟨b, 0, none⟩)] 87)).alloc (.cells #[.bool fixed] 4)).alloc (.cells #[.int .i64 0, .string ⟨#[]⟩, .slice none 0 0, .slice none 0 0, .int .i64 0] 39)).heap.size = w.heap.size + 3 := by simp
  have hA : (((w.alloc (.cells #[.pointer (some ⟨b, 0, none⟩)] 87)).alloc (.cells #[.bool fixed] 4)).alloc (.cells #[.int .i64 0, .string ⟨#[]⟩, .slice none 0 0, .slice none 0 0, .int .i64 0] 39)).heap[w.heap.size]? = some (.cells #[.pointer (some ⟨b, 0, none⟩)] 87 (0, 0)) := by
    rw [Lib.alloc_old _ _ _ (by simp; omega), Lib.alloc_old _ _ _ (by simp)]; exact heap_at_new _ _
  have hB : (((w.alloc (.cells #[.pointer (some ⟨b, 0, none⟩)] 87)).alloc (.cells #[.bool fixed] 4)).alloc (.cells #[.int .i64 0, .string ⟨#[]⟩, .slice none 0 0, .slice none 0 0, .int .i64 0] 39)).heap[w.heap.size + 1]? = some (.cells #[.bool fixed] 4 (0, 0)) := by
    rw [Lib.alloc_old _ _ _ (by simp)]
    have := heap_at_new (w.alloc (.cells #[.pointer (some ⟨b, 0, none⟩)] 87)) (.cells #[.bool fixed] 4)
    simpa using this
  have hC : (((w.alloc (.cells #[.pointer (some ⟨b, 0, none⟩)] 87)).alloc (.cells #[.bool fixed] 4)).alloc (.cells #[.int .i64 0, .string ⟨#[]⟩, .slice none 0 0, .slice none 0 0, .int .i64 0] 39)).heap[w.heap.size + 1 + 1]? = some (.cells #[.int .i64 0, .string ⟨#[]⟩, .slice none 0 0, .slice none 0 0, .int .i64 0] 39 (0, 0)) := by
    have := heap_at_new ((w.alloc (.cells #[.pointer (some ⟨b, 0, none⟩)] 87)).alloc (.cells #[.bool fixed] 4)) (.cells #[.int .i64 0, .string ⟨#[]⟩, .slice none 0 0, .slice none 0 0, .int .i64 0] 39)
    simpa using this
  have HA := Lib.hid hA
  have HB := Lib.hid hB
  have HC := Lib.hid hC
  have HW0 := Lib.hid hW0
  have HBA := Lib.hid hba
  clear h ih hba hA hB hC hW0
  go_enter Tryd.func50, Tryd.ntmps50
  have k2 := blk_cell HA.out 0 _ rfl
  go_wp2_with fail
  refine (rpeek_any b g s _ (H.out.below HBA.out)).mono ?_
  rintro r w1 ⟨rfl, hb1⟩
  obtain ⟨tk, htk⟩ : ∃ t, t = Rd.peek s := ⟨_, rfl⟩
  have HTK := Lib.hid htk
  rw [← htk]
  have hV0 : VI w b g w1.heap.size (w1.heap.size + 1) fixed tk #[.int .i64 0, .string ⟨#[]⟩, .slice none 0 0, .slice none 0 0, .int .i64 tk.at_] s ((w1.alloc (.cells #[.int .i64 tk.kind, .string ⟨tk.text.toArray⟩, .int .i64 tk.at_] 68)).alloc (.cells #[.int .i64 0, .string ⟨#[]⟩, .slice none 0 0, .slice none 0 0, .int .i64 tk.at_] 39)) := by
    have hsz := hb1.size
    rw [HW0.out] at hsz
    have hbb : Below w1.heap.size w1 ((w1.alloc (.cells #[.int .i64 tk.kind, .string ⟨tk.text.toArray⟩, .int .i64 tk.at_] 68)).alloc (.cells #[.int .i64 0, .string ⟨#[]⟩, .slice none 0 0, .slice none 0 0, .int .i64 tk.at_] 39)) := ((Below.refl _ _).alloc (Nat.le_refl _) _).alloc (by simp) _
    have e : ∀ x o, x < w.heap.size + 3 → (((w.alloc (.cells #[.pointer (some ⟨b, 0, none⟩)] 87)).alloc (.cells #[.bool fixed] 4)).alloc (.cells #[.int .i64 0, .string ⟨#[]⟩, .slice none 0 0, .slice none 0 0, .int .i64 0] 39)).heap[x]? = some o →
        ((w1.alloc (.cells #[.int .i64 tk.kind, .string ⟨tk.text.toArray⟩, .int .i64 tk.at_] 68)).alloc (.cells #[.int .i64 0, .string ⟨#[]⟩, .slice none 0 0, .slice none 0 0, .int .i64 tk.at_] 39)).heap[x]? = some o := fun x o hx ho => by
      rw [hbb.block x (by omega), hb1.block x (by rw [HW0.out]; exact hx)]
      exact ho
    have hbw : Below w.heap.size w w1 := HBA.out.trans (hb1.mono HBA.out.size)
    refine ⟨(H.out.below hbw).below hbb, e _ _ (by omega) HA.out, e _ _ (by omega) HB.out, e _ _ (by omega) HC.out, ?_, ?_, But.of_below (hbw.trans (hbb.mono hbw.size)), by omega, by omega, hlb.1, hlb.2⟩
    · rw [Lib.alloc_old _ _ _ (by simp)]; exact heap_at_new _ _
    · have := heap_at_new (w1.alloc (.cells #[.int .i64 tk.kind, .string ⟨tk.text.toArray⟩, .int .i64 tk.at_] 68)) (.cells #[.int .i64 0, .string ⟨#[]⟩, .slice none 0 0, .slice none 0 0, .int .i64 tk.at_] 39)
      simpa using this
  have HV0 := Lib.hid hV0
  clear hb1 htk hV0 k2
  have k2 := blk_cell HV0.out.b2 0 (.pointer (some ⟨b, 0, none⟩)) rfl
  go_wp2_with fail
  refine (ris1N_any b g _ s Rd.dollar _ _ HV0.out.rd (by simp)).mono ?_
  rintro r w2 ⟨rfl, hb2⟩
  have hV := HV0.out.below hb2
  obtain ⟨t6, ht6⟩ : ∃ x, x = w1.heap.size + 1 := ⟨_, rfl⟩
  obtain ⟨t5, ht5⟩ : ∃ x, x = w1.heap.size := ⟨_, rfl⟩
  rw [← ht6] at hV ⊢
  rw [← ht5] at hV ⊢
  have HV := Lib.hid hV
  have o5 := hV.o5
  have o6 := hV.o6
  have n1 : ¬ t6 = w.heap.size := by omega
  have n2 : ¬ w.heap.size = t6 := by omega
  have n3 : ¬ t6 = w.heap.size + 1 := by omega
  have n4 : ¬ w.heap.size + 1 = t6 := by omega
  have n5 : ¬ t6 = w.heap.size + 1 + 1 := by omega
  have n6 : ¬ w.heap.size + 1 + 1 = t6 := by omega
  have n7 : ¬ t6 = t5 := by omega
  have n8 : ¬ t5 = t6 := by omega
  clear hb2 ht5 ht6 hV k2 HV0
  obtain ⟨B1, hB1⟩ : ∃ B, B = Rd.isS s Rd.dollar := ⟨_, rfl⟩
  have HB1 := Lib.hid hB1
  rw [← hB1]
  clear hB1
  cases B1
  rotate_left
  · -- a variable
    have HE : Hid (Rd.value fixed (n + 1) s = ((Rd.name (Rd.next (if fixed then Rd.wrong s else s))).1, .mk 1 (Rd.name (Rd.next (if fixed then Rd.wrong s else s))).2 [] [] (Rd.peek s).at_)) := by
      unfold Rd.value
      dsimp only
      rw [if_pos HB1.out.symm]
      exact Lib.hid rfl
    have k2 := blk_cell HV.out.b2 0 (.pointer (some ⟨b, 0, none⟩)) rfl
    have k3 := blk_cell HV.out.b3 0 (.bool fixed) rfl
    have a0 := blk_cell HV.out.b5 0 (.int .i64 tk.kind) rfl
    have a1 := blk_cell HV.out.b5 1 (.string ⟨tk.text.toArray⟩) rfl
    have a2 := blk_cell HV.out.b5 2 (.int .i64 tk.at_) rfl
    have z0 := blk_cell HV.out.b4 0 (.int .i64 0) rfl
    have zf0 := blk_free HV.out.b4 0
    have y0 := blk_cell HV.out.b6 0 ((.int .i64 0)) rfl
    have yf0 := blk_free HV.out.b6 0
    have z1 := blk_cell HV.out.b4 1 (.string ⟨#[]⟩) rfl
    have zf1 := blk_free HV.out.b4 1
    have y1 := blk_cell HV.out.b6 1 ((.string ⟨#[]⟩)) rfl
    have yf1 := blk_free HV.out.b6 1
    have z2 := blk_cell HV.out.b4 2 (.slice none 0 0) rfl
    have zf2 := blk_free HV.out.b4 2
    have y2 := blk_cell HV.out.b6 2 ((.slice none 0 0)) rfl
    have yf2 := blk_free HV.out.b6 2
    have z3 := blk_cell HV.out.b4 3 (.slice none 0 0) rfl
    have zf3 := blk_free HV.out.b4 3
    have y3 := blk_cell HV.out.b6 3 ((.slice none 0 0)) rfl
    have yf3 := blk_free HV.out.b6 3
    have z4 := blk_cell HV.out.b4 4 (.int .i64 0) rfl
    have zf4 := blk_free HV.out.b4 4
    have y4 := blk_cell HV.out.b6 4 ((.int .i64 tk.at_)) rfl
    have yf4 := blk_free HV.out.b6 4
    cases fixed
    · skip
      go_wp2_with fail
      refine (rnext_any b g s w2 HV.out.rd).mono ?_
      rintro r w4 ⟨rfl, h4, f4⟩
      have HV4 := Lib.hid (HV.out.step h4 f4)
      clear h4 f4
      clear k2 k3 a0 a1 a2 z0 zf0 y0 yf0 z1 zf1 y1 yf1 z2 zf2 y2 yf2 z3 zf3 y3 yf3 z4 zf4 y4 yf4
      have k2 := blk_cell HV4.out.b2 0 (.pointer (some ⟨b, 0, none⟩)) rfl
      have k3 := blk_cell HV4.out.b3 0 (.bool false) rfl
      have a0 := blk_cell HV4.out.b5 0 (.int .i64 tk.kind) rfl
      have a1 := blk_cell HV4.out.b5 1 (.string ⟨tk.text.toArray⟩) rfl
      have a2 := blk_cell HV4.out.b5 2 (.int .i64 tk.at_) rfl
      have z0 := blk_cell HV4.out.b4 0 (.int .i64 0) rfl
      have zf0 := blk_free HV4.out.b4 0
      have y0 := blk_cell HV4.out.b6 0 ((.int .i64 0)) rfl
      have yf0 := blk_free HV4.out.b6 0
      have z1 := blk_cell HV4.out.b4 1 (.string ⟨#[]⟩) rfl
      have zf1 := blk_free HV4.out.b4 1
      have y1 := blk_cell HV4.out.b6 1 ((.string ⟨#[]⟩)) rfl
      have yf1 := blk_free HV4.out.b6 1
      have z2 := blk_cell HV4.out.b4 2 (.slice none 0 0) rfl
      have zf2 := blk_free HV4.out.b4 2
      have y2 := blk_cell HV4.out.b6 2 ((.slice none 0 0)) rfl
      have yf2 := blk_free HV4.out.b6 2
      have z3 := blk_cell HV4.out.b4 3 (.slice none 0 0) rfl
      have zf3 := blk_free HV4.out.b4 3
      have y3 := blk_cell HV4.out.b6 3 ((.slice none 0 0)) rfl
      have yf3 := blk_free HV4.out.b6 3
      have z4 := blk_cell HV4.out.b4 4 (.int .i64 0) rfl
      have zf4 := blk_free HV4.out.b4 4
      have y4 := blk_cell HV4.out.b6 4 ((.int .i64 tk.at_)) rfl
      have yf4 := blk_free HV4.out.b6 4
      go_wp2_with fail
      refine (rname_any b g (Rd.next s) w4 HV4.out.rd).mono ?_
      rintro r w5 ⟨rfl, h5, f5⟩
      obtain ⟨nm, hnm⟩ : ∃ x, x = (Rd.name (Rd.next s)).2 := ⟨_, rfl⟩
      rw [← hnm]
      have HNM := Lib.hid hnm
      have HV5 := Lib.hid (HV4.out.step h5 f5)
      clear h5 f5 hnm
      clear k2 k3 a0 a1 a2 z0 zf0 y0 yf0 z1 zf1 y1 yf1 z2 zf2 y2 yf2 z3 zf3 y3 yf3 z4 zf4 y4 yf4
      have k2 := blk_cell HV5.out.b2 0 (.pointer (some ⟨b, 0, none⟩)) rfl
      have k3 := blk_cell HV5.out.b3 0 (.bool false) rfl
      have a0 := blk_cell HV5.out.b5 0 (.int .i64 tk.kind) rfl
      have a1 := blk_cell HV5.out.b5 1 (.string ⟨tk.text.toArray⟩) rfl
      have a2 := blk_cell HV5.out.b5 2 (.int .i64 tk.at_) rfl
      have z0 := blk_cell HV5.out.b4 0 (.int .i64 0) rfl
      have zf0 := blk_free HV5.out.b4 0
      have y0 := blk_cell HV5.out.b6 0 ((.int .i64 0)) rfl
      have yf0 := blk_free HV5.out.b6 0
      have z1 := blk_cell HV5.out.b4 1 (.string ⟨#[]⟩) rfl
      have zf1 := blk_free HV5.out.b4 1
      have y1 := blk_cell HV5.out.b6 1 ((.string ⟨#[]⟩)) rfl
      have yf1 := blk_free HV5.out.b6 1
      have z2 := blk_cell HV5.out.b4 2 (.slice none 0 0) rfl
      have zf2 := blk_free HV5.out.b4 2
      have y2 := blk_cell HV5.out.b6 2 ((.slice none 0 0)) rfl
      have yf2 := blk_free HV5.out.b6 2
      have z3 := blk_cell HV5.out.b4 3 (.slice none 0 0) rfl
      have zf3 := blk_free HV5.out.b4 3
      have y3 := blk_cell HV5.out.b6 3 ((.slice none 0 0)) rfl
      have yf3 := blk_free HV5.out.b6 3
      have z4 := blk_cell HV5.out.b4 4 (.int .i64 0) rfl
      have zf4 := blk_free HV5.out.b4 4
      have y4 := blk_cell HV5.out.b6 4 ((.int .i64 tk.at_)) rfl
      have yf4 := blk_free HV5.out.b6 4
      have HV6 := Lib.hid ((HV5.out.put 0 (.int .i64 1)).put 1 (.string ⟨nm.toArray⟩))
      go_wp2_with fail
      have hfin := (HV6).out.fin (cs := [.int .i64 1, .string ⟨nm.toArray⟩, .slice none 0 0, .slice none 0 0, .int .i64 tk.at_]) (leaf_reads _ 1 tk.at_ nm) (fun x hx => hx.elim)
      simp only [putCells, Nat.reduceAdd, Nat.zero_add] at hfin
      refine bodyPost_ret (v := .agg ([.int .i64 1, .string ⟨nm.toArray⟩, .slice none 0 0, .slice none 0 0, .int .i64 tk.at_]).toArray) (by simp [results, Tryd.results50, go_sem, z0, z1, z2, z3, z4, n1, n2, n3, n4, n5, n6, n7, n8]) rfl ?_
      rw [HE.out, ← HTK.out]
      exact ⟨_, rfl, by rw [HNM.out] at hfin ⊢; exact hfin⟩
    · go_wp2_with fail
      refine (rwrong_any b g s w2 HV.out.rd).mono ?_
      rintro r w3 ⟨rfl, h3, f3⟩
      have HV3 := Lib.hid (HV.out.step h3 f3)
      clear h3 f3
      clear k2 k3 a0 a1 a2 z0 zf0 y0 yf0 z1 zf1 y1 yf1 z2 zf2 y2 yf2 z3 zf3 y3 yf3 z4 zf4 y4 yf4
      have k2 := blk_cell HV3.out.b2 0 (.pointer (some ⟨b, 0, none⟩)) rfl
      have k3 := blk_cell HV3.out.b3 0 (.bool true) rfl
      have a0 := blk_cell HV3.out.b5 0 (.int .i64 tk.kind) rfl
      have a1 := blk_cell HV3.out.b5 1 (.string ⟨tk.text.toArray⟩) rfl
      have a2 := blk_cell HV3.out.b5 2 (.int .i64 tk.at_) rfl
      have z0 := blk_cell HV3.out.b4 0 (.int .i64 0) rfl
      have zf0 := blk_free HV3.out.b4 0
      have y0 := blk_cell HV3.out.b6 0 ((.int .i64 0)) rfl
      have yf0 := blk_free HV3.out.b6 0
      have z1 := blk_cell HV3.out.b4 1 (.string ⟨#[]⟩) rfl
      have zf1 := blk_free HV3.out.b4 1
      have y1 := blk_cell HV3.out.b6 1 ((.string ⟨#[]⟩)) rfl
      have yf1 := blk_free HV3.out.b6 1
      have z2 := blk_cell HV3.out.b4 2 (.slice none 0 0) rfl
      have zf2 := blk_free HV3.out.b4 2
      have y2 := blk_cell HV3.out.b6 2 ((.slice none 0 0)) rfl
      have yf2 := blk_free HV3.out.b6 2
      have z3 := blk_cell HV3.out.b4 3 (.slice none 0 0) rfl
      have zf3 := blk_free HV3.out.b4 3
      have y3 := blk_cell HV3.out.b6 3 ((.slice none 0 0)) rfl
      have yf3 := blk_free HV3.out.b6 3
      have z4 := blk_cell HV3.out.b4 4 (.int .i64 0) rfl
      have zf4 := blk_free HV3.out.b4 4
      have y4 := blk_cell HV3.out.b6 4 ((.int .i64 tk.at_)) rfl
      have yf4 := blk_free HV3.out.b6 4
      go_wp2_with fail
      refine (rnext_any b g (Rd.wrong s) w3 HV3.out.rd).mono ?_
      rintro r w4 ⟨rfl, h4, f4⟩
      have HV4 := Lib.hid (HV3.out.step h4 f4)
      clear h4 f4
      clear k2 k3 a0 a1 a2 z0 zf0 y0 yf0 z1 zf1 y1 yf1 z2 zf2 y2 yf2 z3 zf3 y3 yf3 z4 zf4 y4 yf4
      have k2 := blk_cell HV4.out.b2 0 (.pointer (some ⟨b, 0, none⟩)) rfl
      have k3 := blk_cell HV4.out.b3 0 (.bool true) rfl
      have a0 := blk_cell HV4.out.b5 0 (.int .i64 tk.kind) rfl
      have a1 := blk_cell HV4.out.b5 1 (.string ⟨tk.text.toArray⟩) rfl
      have a2 := blk_cell HV4.out.b5 2 (.int .i64 tk.at_) rfl
      have z0 := blk_cell HV4.out.b4 0 (.int .i64 0) rfl
      have zf0 := blk_free HV4.out.b4 0
      have y0 := blk_cell HV4.out.b6 0 ((.int .i64 0)) rfl
      have yf0 := blk_free HV4.out.b6 0
      have z1 := blk_cell HV4.out.b4 1 (.string ⟨#[]⟩) rfl
      have zf1 := blk_free HV4.out.b4 1
      have y1 := blk_cell HV4.out.b6 1 ((.string ⟨#[]⟩)) rfl
      have yf1 := blk_free HV4.out.b6 1
      have z2 := blk_cell HV4.out.b4 2 (.slice none 0 0) rfl
      have zf2 := blk_free HV4.out.b4 2
      have y2 := blk_cell HV4.out.b6 2 ((.slice none 0 0)) rfl
      have yf2 := blk_free HV4.out.b6 2
      have z3 := blk_cell HV4.out.b4 3 (.slice none 0 0) rfl
      have zf3 := blk_free HV4.out.b4 3
      have y3 := blk_cell HV4.out.b6 3 ((.slice none 0 0)) rfl
      have yf3 := blk_free HV4.out.b6 3
      have z4 := blk_cell HV4.out.b4 4 (.int .i64 0) rfl
      have zf4 := blk_free HV4.out.b4 4
      have y4 := blk_cell HV4.out.b6 4 ((.int .i64 tk.at_)) rfl
      have yf4 := blk_free HV4.out.b6 4
      go_wp2_with fail
      refine (rname_any b g (Rd.next (Rd.wrong s)) w4 HV4.out.rd).mono ?_
      rintro r w5 ⟨rfl, h5, f5⟩
      obtain ⟨nm, hnm⟩ : ∃ x, x = (Rd.name (Rd.next (Rd.wrong s))).2 := ⟨_, rfl⟩
      rw [← hnm]
      have HNM := Lib.hid hnm
      have HV5 := Lib.hid (HV4.out.step h5 f5)
      clear h5 f5 hnm
      clear k2 k3 a0 a1 a2 z0 zf0 y0 yf0 z1 zf1 y1 yf1 z2 zf2 y2 yf2 z3 zf3 y3 yf3 z4 zf4 y4 yf4
      have k2 := blk_cell HV5.out.b2 0 (.pointer (some ⟨b, 0, none⟩)) rfl
      have k3 := blk_cell HV5.out.b3 0 (.bool true) rfl
      have a0 := blk_cell HV5.out.b5 0 (.int .i64 tk.kind) rfl
      have a1 := blk_cell HV5.out.b5 1 (.string ⟨tk.text.toArray⟩) rfl
      have a2 := blk_cell HV5.out.b5 2 (.int .i64 tk.at_) rfl
      have z0 := blk_cell HV5.out.b4 0 (.int .i64 0) rfl
      have zf0 := blk_free HV5.out.b4 0
      have y0 := blk_cell HV5.out.b6 0 ((.int .i64 0)) rfl
      have yf0 := blk_free HV5.out.b6 0
      have z1 := blk_cell HV5.out.b4 1 (.string ⟨#[]⟩) rfl
      have zf1 := blk_free HV5.out.b4 1
      have y1 := blk_cell HV5.out.b6 1 ((.string ⟨#[]⟩)) rfl
      have yf1 := blk_free HV5.out.b6 1
      have z2 := blk_cell HV5.out.b4 2 (.slice none 0 0) rfl
      have zf2 := blk_free HV5.out.b4 2
      have y2 := blk_cell HV5.out.b6 2 ((.slice none 0 0)) rfl
      have yf2 := blk_free HV5.out.b6 2
      have z3 := blk_cell HV5.out.b4 3 (.slice none 0 0) rfl
      have zf3 := blk_free HV5.out.b4 3
      have y3 := blk_cell HV5.out.b6 3 ((.slice none 0 0)) rfl
      have yf3 := blk_free HV5.out.b6 3
      have z4 := blk_cell HV5.out.b4 4 (.int .i64 0) rfl
      have zf4 := blk_free HV5.out.b4 4
      have y4 := blk_cell HV5.out.b6 4 ((.int .i64 tk.at_)) rfl
      have yf4 := blk_free HV5.out.b6 4
      have HV6 := Lib.hid ((HV5.out.put 0 (.int .i64 1)).put 1 (.string ⟨nm.toArray⟩))
      go_wp2_with fail
      have hfin := (HV6).out.fin (cs := [.int .i64 1, .string ⟨nm.toArray⟩, .slice none 0 0, .slice none 0 0, .int .i64 tk.at_]) (leaf_reads _ 1 tk.at_ nm) (fun x hx => hx.elim)
      simp only [putCells, Nat.reduceAdd, Nat.zero_add] at hfin
      refine bodyPost_ret (v := .agg ([.int .i64 1, .string ⟨nm.toArray⟩, .slice none 0 0, .slice none 0 0, .int .i64 tk.at_]).toArray) (by simp [results, Tryd.results50, go_sem, z0, z1, z2, z3, z4, n1, n2, n3, n4, n5, n6, n7, n8]) rfl ?_
      rw [HE.out, ← HTK.out]
      exact ⟨_, rfl, by rw [HNM.out] at hfin ⊢; exact hfin⟩
  have NB1 : Hid (¬ Rd.isS s Rd.dollar = true) := by rw [← HB1.out]; exact Lib.hid (by simp)
  clear HB1
  have k2 := blk_cell HV.out.b2 0 (.pointer (some ⟨b, 0, none⟩)) rfl
  go_wp2_with fail
  refine (ris1_any b g s Rd.lbrk _ w2 HV.out.rd).mono ?_
  rintro r w3 ⟨rfl, hb3⟩
  have HV3 := Lib.hid (HV.out.below hb3)
  clear hb3 k2
  obtain ⟨B2, hB2⟩ : ∃ B, B = Rd.isS s Rd.lbrk := ⟨_, rfl⟩
  have HBX := Lib.hid hB2
  rw [← hB2]
  clear hB2
  cases B2
  rotate_left
  · -- a list
    have HE : Hid (Rd.value fixed (n + 1) s = (Rd.up Rd.rbrk (Rd.loop Rd.rbrk (Rd.value fixed n) ((Rd.down Rd.lbrk s).rest.length + 1) (Rd.down Rd.lbrk s) []).1, .mk 8 [] (Rd.loop Rd.rbrk (Rd.value fixed n) ((Rd.down Rd.lbrk s).rest.length + 1) (Rd.down Rd.lbrk s) []).2 [] (Rd.peek s).at_)) := by
      unfold Rd.value
      dsimp only
      rw [if_neg NB1.out, if_pos HBX.out.symm]
      exact Lib.hid rfl
    obtain ⟨m, hm⟩ : ∃ m, n = m + 1 := ⟨n - 1, by have := H.out.rest_len; omega⟩
    have hmb : m ≤ 1599 := by omega
    have hmd : s.deep + 1 + (m : Int) ≤ 900000 := by omega
    have HM := Lib.hid hm
    have HIH2 : Hid (∀ (s : Rd.St) (w : World), RdAt w b g s → s.rest.length ≤ m → 0 ≤ s.deep ∧ s.deep + m ≤ 900000 → Calls Tryd.prog 50 #[.pointer (some ⟨b, 0, none⟩), .bool fixed] w (Got b g w (Rd.value fixed n s).2.d (Rd.value fixed n s).1)) := by
      have h1 := HIH.out m hm
      rw [← hm] at h1
      exact Lib.hid h1
    have HGO : Hid (∀ s, s.err = 0 → ((Rd.value fixed n) s).1.err ≠ 0 ∨ ((Rd.value fixed n) s).1.rest.length < s.rest.length) := by rw [hm]; exact Lib.hid (Rd.value_goes fixed m)
    have HDP : Hid (∀ s, ((Rd.value fixed n) s).1.deep = s.deep) := Lib.hid (Rd.value_deep fixed n)
    clear hm
    have k2 := blk_cell HV3.out.b2 0 (.pointer (some ⟨b, 0, none⟩)) rfl
    have k3 := blk_cell HV3.out.b3 0 (.bool fixed) rfl
    have a0 := blk_cell HV3.out.b5 0 (.int .i64 tk.kind) rfl
    have a1 := blk_cell HV3.out.b5 1 (.string ⟨tk.text.toArray⟩) rfl
    have a2 := blk_cell HV3.out.b5 2 (.int .i64 tk.at_) rfl
    have z0 := blk_cell HV3.out.b4 0 (.int .i64 0) rfl
    have zf0 := blk_free HV3.out.b4 0
    have y0 := blk_cell HV3.out.b6 0 ((.int .i64 0)) rfl
    have yf0 := blk_free HV3.out.b6 0
    have z1 := blk_cell HV3.out.b4 1 (.string ⟨#[]⟩) rfl
    have zf1 := blk_free HV3.out.b4 1
    have y1 := blk_cell HV3.out.b6 1 ((.string ⟨#[]⟩)) rfl
    have yf1 := blk_free HV3.out.b6 1
    have z2 := blk_cell HV3.out.b4 2 (.slice none 0 0) rfl
    have zf2 := blk_free HV3.out.b4 2
    have y2 := blk_cell HV3.out.b6 2 ((.slice none 0 0)) rfl
    have yf2 := blk_free HV3.out.b6 2
    have z3 := blk_cell HV3.out.b4 3 (.slice none 0 0) rfl
    have zf3 := blk_free HV3.out.b4 3
    have y3 := blk_cell HV3.out.b6 3 ((.slice none 0 0)) rfl
    have yf3 := blk_free HV3.out.b6 3
    have z4 := blk_cell HV3.out.b4 4 (.int .i64 0) rfl
    have zf4 := blk_free HV3.out.b4 4
    have y4 := blk_cell HV3.out.b6 4 ((.int .i64 tk.at_)) rfl
    have yf4 := blk_free HV3.out.b6 4
    go_wp2_with fail
    refine (rdown_any b g s Rd.lbrk _ ((HV3.out.put 0 (.int .i64 8)).rd) ⟨by omega, by omega⟩).mono ?_
    rintro r w4 ⟨rfl, h4, f4⟩
    have HV4 : Hid (VI w b g t5 t6 fixed tk ((mkItems tk.at_) (.slice none 0 0)) (Rd.down Rd.lbrk s) w4) := Lib.hid ((HV3.out.put 0 (.int .i64 8)).step h4 f4)
    clear h4 f4
    clear k2 k3 a0 a1 a2 z0 zf0 y0 yf0 z1 zf1 y1 yf1 z2 zf2 y2 yf2 z3 zf3 y3 yf3 z4 zf4 y4 yf4
    have k2 := blk_cell HV4.out.b2 0 (.pointer (some ⟨b, 0, none⟩)) rfl
    have HDD := Lib.hid (Rd.down_deep Rd.lbrk s)
    have HI0 : Hid (VLI w b g t5 t6 fixed tk (mkItems tk.at_) 39 5 Rd.V.d m (Rd.down Rd.lbrk s).deep (Rd.down Rd.lbrk s) [] w4) := by
      refine Lib.hid (VLI.start HV4.out (fun he => ?_) (by omega))
      rcases Rd.down_goes HBX.out.symm with h | h
      · exact absurd he h
      · have := HM.out; omega
    go_wp2_with fail
    refine (some_any Rd.rbrk (Rd.value fixed n) (VLI w b g t5 t6 fixed tk (mkItems tk.at_) 39 5 Rd.V.d m (Rd.down Rd.lbrk s).deep) b g _ _ (enters_C1 _) (fun s out w' h => h.1.rd) (fun s out w1 w2 h hb => ⟨h.1.below hb, h.2⟩) (fun s1 out w1 h he => ?_) (fun s1 out w1 h he _ => HGO.out s1 he) ((Rd.down Rd.lbrk s).rest.length + 1) (Rd.down Rd.lbrk s) [] w4 HI0.out (.inr (by omega))).mono ?_
    · have hr := h.2.2.1 he
      refine (valC1_any w b g t6 (vbx w b t5 fixed tk) w.heap.size (w.heap.size + 1) fixed tk.at_ n (by simp [vbx]) (by simp [vbx]) s1 (out.map Rd.V.d) w1 ?_ h.1 (by rw [List.length_map]; omega)).mono ?_
      · intro w2 hr2
        exact HIH2.out s1 w2 hr2 hr.1 (by rw [h.2.1, HDD.out]; omega)
      · rintro r w2 ⟨hre, hli⟩
        refine ⟨hre, by rw [List.map_append]; exact hli, by rw [HDP.out]; exact h.2.1, fun he2 => ?_, by rw [List.length_append]; simp; omega⟩
        rcases HGO.out s1 he with hx | hx
        · exact absurd he2 hx
        · rw [List.length_append]
          simp
          omega
    rintro r w5 ⟨rfl, hL⟩
    obtain ⟨L, hLL⟩ : ∃ x, x = Rd.loop Rd.rbrk (Rd.value fixed n) ((Rd.down Rd.lbrk s).rest.length + 1) (Rd.down Rd.lbrk s) [] := ⟨_, rfl⟩
    rw [← hLL] at hL
    have HLL := Lib.hid hLL
    have HL := Lib.hid hL
    clear k2 hLL hL
    have k2 : w5.cell? ⟨w.heap.size, 0, none⟩ = some (.pointer (some ⟨b, 0, none⟩)) := HL.out.1.cellx (T := 87) (by simp [vbx])
    go_wp2_with fail
    refine (rup_any b g L.1 Rd.rbrk w5 HL.out.1.rd (by rw [HL.out.2.1, HDD.out]; omega)).mono ?_
    rintro r w6 ⟨rfl, h6, f6⟩
    have hli := HL.out.1.step h6 f6
    obtain ⟨v6, hv6, hg6⟩ := hli.ex
    obtain ⟨va, vc, hvv⟩ := hg6.form
    rw [List.length_map] at hvv
    subst hvv
    have HV6 := Lib.hid (VI.of_LI hli o5 o6 hv6)
    have HG6 := Lib.hid hg6
    clear h6 f6 hli hv6 hg6 k2
    have k2 := blk_cell HV6.out.b2 0 (.pointer (some ⟨b, 0, none⟩)) rfl
    have k3 := blk_cell HV6.out.b3 0 (.bool fixed) rfl
    have a0 := blk_cell HV6.out.b5 0 (.int .i64 tk.kind) rfl
    have a1 := blk_cell HV6.out.b5 1 (.string ⟨tk.text.toArray⟩) rfl
    have a2 := blk_cell HV6.out.b5 2 (.int .i64 tk.at_) rfl
    have z0 := blk_cell HV6.out.b4 0 (.int .i64 0) rfl
    have zf0 := blk_free HV6.out.b4 0
    have y0 := blk_cell HV6.out.b6 0 ((.int .i64 8)) rfl
    have yf0 := blk_free HV6.out.b6 0
    have z1 := blk_cell HV6.out.b4 1 (.string ⟨#[]⟩) rfl
    have zf1 := blk_free HV6.out.b4 1
    have y1 := blk_cell HV6.out.b6 1 ((.string ⟨#[]⟩)) rfl
    have yf1 := blk_free HV6.out.b6 1
    have z2 := blk_cell HV6.out.b4 2 (.slice none 0 0) rfl
    have zf2 := blk_free HV6.out.b4 2
    have y2 := blk_cell HV6.out.b6 2 ((.slice va L.2.length vc)) rfl
    have yf2 := blk_free HV6.out.b6 2
    have z3 := blk_cell HV6.out.b4 3 (.slice none 0 0) rfl
    have zf3 := blk_free HV6.out.b4 3
    have y3 := blk_cell HV6.out.b6 3 ((.slice none 0 0)) rfl
    have yf3 := blk_free HV6.out.b6 3
    have z4 := blk_cell HV6.out.b4 4 (.int .i64 0) rfl
    have zf4 := blk_free HV6.out.b4 4
    have y4 := blk_cell HV6.out.b6 4 ((.int .i64 tk.at_)) rfl
    have yf4 := blk_free HV6.out.b6 4
    go_wp2_with fail
    have HRS : Hid (Reads w6 (fun x => t6 < x) (Rd.V.d (.mk 8 [] L.2 [] tk.at_)) [.int .i64 8, .string ⟨#[]⟩, (.slice va L.2.length vc), (.slice none 0 0), .int .i64 tk.at_]) := by
      have h1 := HG6.out.reads.to (Stands.sub w6 (Q := fun x => t6 < x) (fun x _ hp => by
        rcases hp with hp | hp
        · exact hp.1
        · have := Nat.le_trans (LB_t6 _ _) (HG6.out.lt x hp).1; omega))
      refine Lib.hid ?_
      rw [Rd.V.d]
      first
      | (rw [Rd.V.dl_map, Rd.A.dl]; exact .obj (.cons (.int _) (.cons (.str []) (.cons h1 (.cons (cs := [.slice none 0 0]) (.seq (cap := 0) .nil) (.cons (.int _) .nil))))))
      | (rw [Rd.A.dl_map, Rd.V.dl]; exact .obj (.cons (.int _) (.cons (.str []) (.cons (cs := [.slice none 0 0]) (.seq (cap := 0) .nil) (.cons h1 (.cons (.int _) .nil))))))
    have hfin := (HV6).out.fin (cs := [.int .i64 8, .string ⟨#[]⟩, (.slice va L.2.length vc), (.slice none 0 0), .int .i64 tk.at_]) HRS.out (fun x hx => hx)
    simp only [putCells, Nat.reduceAdd, Nat.zero_add] at hfin
    refine bodyPost_ret (v := .agg ([.int .i64 8, .string ⟨#[]⟩, (.slice va L.2.length vc), (.slice none 0 0), .int .i64 tk.at_]).toArray) (by simp [results, Tryd.results50, go_sem, z0, z1, z2, z3, z4, n1, n2, n3, n4, n5, n6, n7, n8]) rfl ?_
    rw [HE.out, ← HTK.out, ← HLL.out]
    exact ⟨_, rfl, hfin⟩
  have NB2 : Hid (¬ Rd.isS s Rd.lbrk = true) := by rw [← HBX.out]; exact Lib.hid (by simp)
  clear HBX
  have k2 := blk_cell HV3.out.b2 0 (.pointer (some ⟨b, 0, none⟩)) rfl
  go_wp2_with fail
  refine (ris1_any b g s Rd.lbrc _ w3 HV3.out.rd).mono ?_
  rintro r wb ⟨rfl, hbb⟩
  have HVb := Lib.hid (HV3.out.below hbb)
  clear hbb k2
  obtain ⟨B3, hB3⟩ : ∃ B, B = Rd.isS s Rd.lbrc := ⟨_, rfl⟩
  have HBX := Lib.hid hB3
  rw [← hB3]
  clear hB3
  cases B3
  rotate_left
  · -- an object
    have HE : Hid (Rd.value fixed (n + 1) s = (Rd.up Rd.rbrc (Rd.loop Rd.rbrc (Rd.arg fixed n) ((Rd.down Rd.lbrc s).rest.length + 1) (Rd.down Rd.lbrc s) []).1, .mk 9 [] [] (Rd.loop Rd.rbrc (Rd.arg fixed n) ((Rd.down Rd.lbrc s).rest.length + 1) (Rd.down Rd.lbrc s) []).2 (Rd.peek s).at_)) := by
      unfold Rd.value
      dsimp only
      rw [if_neg NB1.out, if_neg NB2.out, if_pos HBX.out.symm]
      exact Lib.hid rfl
    obtain ⟨m, hm⟩ : ∃ m, n = m + 1 := ⟨n - 1, by have := H.out.rest_len; omega⟩
    have hmb : m ≤ 1599 := by omega
    have hmd : s.deep + 1 + (m : Int) ≤ 900000 := by omega
    have HM := Lib.hid hm
    have HIH2 : Hid (∀ (s : Rd.St) (w : World), RdAt w b g s → s.rest.length ≤ m → 0 ≤ s.deep ∧ s.deep + m ≤ 900000 → Calls Tryd.prog 50 #[.pointer (some ⟨b, 0, none⟩), .bool fixed] w (Got b g w (Rd.value fixed n s).2.d (Rd.value fixed n s).1)) := by
      have h1 := HIH.out m hm
      rw [← hm] at h1
      exact Lib.hid h1
    have HGO : Hid (∀ s, s.err = 0 → ((Rd.arg fixed n) s).1.err ≠ 0 ∨ ((Rd.arg fixed n) s).1.rest.length < s.rest.length) := by rw [hm]; exact Lib.hid (Rd.arg_goes fixed (m + 1))
    have HDP : Hid (∀ s, ((Rd.arg fixed n) s).1.deep = s.deep) := Lib.hid (Rd.argOf_deep _ (Rd.value_deep fixed n))
    clear hm
    have k2 := blk_cell HVb.out.b2 0 (.pointer (some ⟨b, 0, none⟩)) rfl
    have k3 := blk_cell HVb.out.b3 0 (.bool fixed) rfl
    have a0 := blk_cell HVb.out.b5 0 (.int .i64 tk.kind) rfl
    have a1 := blk_cell HVb.out.b5 1 (.string ⟨tk.text.toArray⟩) rfl
    have a2 := blk_cell HVb.out.b5 2 (.int .i64 tk.at_) rfl
    have z0 := blk_cell HVb.out.b4 0 (.int .i64 0) rfl
    have zf0 := blk_free HVb.out.b4 0
    have y0 := blk_cell HVb.out.b6 0 ((.int .i64 0)) rfl
    have yf0 := blk_free HVb.out.b6 0
    have z1 := blk_cell HVb.out.b4 1 (.string ⟨#[]⟩) rfl
    have zf1 := blk_free HVb.out.b4 1
    have y1 := blk_cell HVb.out.b6 1 ((.string ⟨#[]⟩)) rfl
    have yf1 := blk_free HVb.out.b6 1
    have z2 := blk_cell HVb.out.b4 2 (.slice none 0 0) rfl
    have zf2 := blk_free HVb.out.b4 2
    have y2 := blk_cell HVb.out.b6 2 ((.slice none 0 0)) rfl
    have yf2 := blk_free HVb.out.b6 2
    have z3 := blk_cell HVb.out.b4 3 (.slice none 0 0) rfl
    have zf3 := blk_free HVb.out.b4 3
    have y3 := blk_cell HVb.out.b6 3 ((.slice none 0 0)) rfl
    have yf3 := blk_free HVb.out.b6 3
    have z4 := blk_cell HVb.out.b4 4 (.int .i64 0) rfl
    have zf4 := blk_free HVb.out.b4 4
    have y4 := blk_cell HVb.out.b6 4 ((.int .i64 tk.at_)) rfl
    have yf4 := blk_free HVb.out.b6 4
    go_wp2_with fail
    refine (rdown_any b g s Rd.lbrc _ ((HVb.out.put 0 (.int .i64 9)).rd) ⟨by omega, by omega⟩).mono ?_
    rintro r w4 ⟨rfl, h4, f4⟩
    have HV4 : Hid (VI w b g t5 t6 fixed tk ((mkFields tk.at_) (.slice none 0 0)) (Rd.down Rd.lbrc s) w4) := Lib.hid ((HVb.out.put 0 (.int .i64 9)).step h4 f4)
    clear h4 f4
    clear k2 k3 a0 a1 a2 z0 zf0 y0 yf0 z1 zf1 y1 yf1 z2 zf2 y2 yf2 z3 zf3 y3 yf3 z4 zf4 y4 yf4
    have k2 := blk_cell HV4.out.b2 0 (.pointer (some ⟨b, 0, none⟩)) rfl
    have HDD := Lib.hid (Rd.down_deep Rd.lbrc s)
    have HI0 : Hid (VLI w b g t5 t6 fixed tk (mkFields tk.at_) 82 7 Rd.A.d m (Rd.down Rd.lbrc s).deep (Rd.down Rd.lbrc s) [] w4) := by
      refine Lib.hid (VLI.start HV4.out (fun he => ?_) (by omega))
      rcases Rd.down_goes HBX.out.symm with h | h
      · exact absurd he h
      · have := HM.out; omega
    go_wp2_with fail
    refine (some_any Rd.rbrc (Rd.arg fixed n) (VLI w b g t5 t6 fixed tk (mkFields tk.at_) 82 7 Rd.A.d m (Rd.down Rd.lbrc s).deep) b g _ _ (enters_C2 _) (fun s out w' h => h.1.rd) (fun s out w1 w2 h hb => ⟨h.1.below hb, h.2⟩) (fun s1 out w1 h he => ?_) (fun s1 out w1 h he _ => HGO.out s1 he) ((Rd.down Rd.lbrc s).rest.length + 1) (Rd.down Rd.lbrc s) [] w4 HI0.out (.inr (by omega))).mono ?_
    · have hr := h.2.2.1 he
      refine (valC2_any w b g t6 (vbx w b t5 fixed tk) w.heap.size (w.heap.size + 1) fixed tk.at_ n (by simp [vbx]) (by simp [vbx]) s1 (out.map Rd.A.d) w1 ?_ h.1 (by rw [List.length_map]; omega)).mono ?_
      · intro w2 hr2
        exact rarg_any b g fixed n s1 w2 hr2 (fun w' hr' => HIH2.out _ w' hr' (Nat.le_trans ((Rd.ok_name s1).trans (Rd.ok_want Rd.colon _)).len hr.1) (by rw [Rd.want_deep, Rd.name_deep, h.2.1, HDD.out]; omega))
      · rintro r w2 ⟨hre, hli⟩
        refine ⟨hre, by rw [List.map_append]; exact hli, by rw [HDP.out]; exact h.2.1, fun he2 => ?_, by rw [List.length_append]; simp; omega⟩
        rcases HGO.out s1 he with hx | hx
        · exact absurd he2 hx
        · rw [List.length_append]
          simp
          omega
    rintro r w5 ⟨rfl, hL⟩
    obtain ⟨L, hLL⟩ : ∃ x, x = Rd.loop Rd.rbrc (Rd.arg fixed n) ((Rd.down Rd.lbrc s).rest.length + 1) (Rd.down Rd.lbrc s) [] := ⟨_, rfl⟩
    rw [← hLL] at hL
    have HLL := Lib.hid hLL
    have HL := Lib.hid hL
    clear k2 hLL hL
    have k2 : w5.cell? ⟨w.heap.size, 0, none⟩ = some (.pointer (some ⟨b, 0, none⟩)) := HL.out.1.cellx (T := 87) (by simp [vbx])
    go_wp2_with fail
    refine (rup_any b g L.1 Rd.rbrc w5 HL.out.1.rd (by rw [HL.out.2.1, HDD.out]; omega)).mono ?_
    rintro r w6 ⟨rfl, h6, f6⟩
    have hli := HL.out.1.step h6 f6
    obtain ⟨v6, hv6, hg6⟩ := hli.ex
    obtain ⟨va, vc, hvv⟩ := hg6.form
    rw [List.length_map] at hvv
    subst hvv
    have HV6 := Lib.hid (VI.of_LI hli o5 o6 hv6)
    have HG6 := Lib.hid hg6
    clear h6 f6 hli hv6 hg6 k2
    have k2 := blk_cell HV6.out.b2 0 (.pointer (some ⟨b, 0, none⟩)) rfl
    have k3 := blk_cell HV6.out.b3 0 (.bool fixed) rfl
    have a0 := blk_cell HV6.out.b5 0 (.int .i64 tk.kind) rfl
    have a1 := blk_cell HV6.out.b5 1 (.string ⟨tk.text.toArray⟩) rfl
    have a2 := blk_cell HV6.out.b5 2 (.int .i64 tk.at_) rfl
    have z0 := blk_cell HV6.out.b4 0 (.int .i64 0) rfl
    have zf0 := blk_free HV6.out.b4 0
    have y0 := blk_cell HV6.out.b6 0 ((.int .i64 9)) rfl
    have yf0 := blk_free HV6.out.b6 0
    have z1 := blk_cell HV6.out.b4 1 (.string ⟨#[]⟩) rfl
    have zf1 := blk_free HV6.out.b4 1
    have y1 := blk_cell HV6.out.b6 1 ((.string ⟨#[]⟩)) rfl
    have yf1 := blk_free HV6.out.b6 1
    have z2 := blk_cell HV6.out.b4 2 (.slice none 0 0) rfl
    have zf2 := blk_free HV6.out.b4 2
    have y2 := blk_cell HV6.out.b6 2 ((.slice none 0 0)) rfl
    have yf2 := blk_free HV6.out.b6 2
    have z3 := blk_cell HV6.out.b4 3 (.slice none 0 0) rfl
    have zf3 := blk_free HV6.out.b4 3
    have y3 := blk_cell HV6.out.b6 3 ((.slice va L.2.length vc)) rfl
    have yf3 := blk_free HV6.out.b6 3
    have z4 := blk_cell HV6.out.b4 4 (.int .i64 0) rfl
    have zf4 := blk_free HV6.out.b4 4
    have y4 := blk_cell HV6.out.b6 4 ((.int .i64 tk.at_)) rfl
    have yf4 := blk_free HV6.out.b6 4
    go_wp2_with fail
    have HRS : Hid (Reads w6 (fun x => t6 < x) (Rd.V.d (.mk 9 [] [] L.2 tk.at_)) [.int .i64 9, .string ⟨#[]⟩, (.slice none 0 0), (.slice va L.2.length vc), .int .i64 tk.at_]) := by
      have h1 := HG6.out.reads.to (Stands.sub w6 (Q := fun x => t6 < x) (fun x _ hp => by
        rcases hp with hp | hp
        · exact hp.1
        · have := Nat.le_trans (LB_t6 _ _) (HG6.out.lt x hp).1; omega))
      refine Lib.hid ?_
      rw [Rd.V.d]
      first
      | (rw [Rd.V.dl_map, Rd.A.dl]; exact .obj (.cons (.int _) (.cons (.str []) (.cons h1 (.cons (cs := [.slice none 0 0]) (.seq (cap := 0) .nil) (.cons (.int _) .nil))))))
      | (rw [Rd.A.dl_map, Rd.V.dl]; exact .obj (.cons (.int _) (.cons (.str []) (.cons (cs := [.slice none 0 0]) (.seq (cap := 0) .nil) (.cons h1 (.cons (.int _) .nil))))))
    have hfin := (HV6).out.fin (cs := [.int .i64 9, .string ⟨#[]⟩, (.slice none 0 0), (.slice va L.2.length vc), .int .i64 tk.at_]) HRS.out (fun x hx => hx)
    simp only [putCells, Nat.reduceAdd, Nat.zero_add] at hfin
    refine bodyPost_ret (v := .agg ([.int .i64 9, .string ⟨#[]⟩, (.slice none 0 0), (.slice va L.2.length vc), .int .i64 tk.at_]).toArray) (by simp [results, Tryd.results50, go_sem, z0, z1, z2, z3, z4, n1, n2, n3, n4, n5, n6, n7, n8]) rfl ?_
    rw [HE.out, ← HTK.out, ← HLL.out]
    exact ⟨_, rfl, hfin⟩
  have NB3 : Hid (¬ Rd.isS s Rd.lbrc = true) := by rw [← HBX.out]; exact Lib.hid (by simp)
  clear HBX
  have k2 := blk_cell HVb.out.b2 0 (.pointer (some ⟨b, 0, none⟩)) rfl
  have k3 := blk_cell HVb.out.b3 0 (.bool fixed) rfl
  have a0 := blk_cell HVb.out.b5 0 (.int .i64 tk.kind) rfl
  have a1 := blk_cell HVb.out.b5 1 (.string ⟨tk.text.toArray⟩) rfl
  have a2 := blk_cell HVb.out.b5 2 (.int .i64 tk.at_) rfl
  have z0 := blk_cell HVb.out.b4 0 (.int .i64 0) rfl
  have zf0 := blk_free HVb.out.b4 0
  have y0 := blk_cell HVb.out.b6 0 ((.int .i64 0)) rfl
  have yf0 := blk_free HVb.out.b6 0
  have z1 := blk_cell HVb.out.b4 1 (.string ⟨#[]⟩) rfl
  have zf1 := blk_free HVb.out.b4 1
  have y1 := blk_cell HVb.out.b6 1 ((.string ⟨#[]⟩)) rfl
  have yf1 := blk_free HVb.out.b6 1
  have z2 := blk_cell HVb.out.b4 2 (.slice none 0 0) rfl
  have zf2 := blk_free HVb.out.b4 2
  have y2 := blk_cell HVb.out.b6 2 ((.slice none 0 0)) rfl
  have yf2 := blk_free HVb.out.b6 2
  have z3 := blk_cell HVb.out.b4 3 (.slice none 0 0) rfl
  have zf3 := blk_free HVb.out.b4 3
  have y3 := blk_cell HVb.out.b6 3 ((.slice none 0 0)) rfl
  have yf3 := blk_free HVb.out.b6 3
  have z4 := blk_cell HVb.out.b4 4 (.int .i64 0) rfl
  have zf4 := blk_free HVb.out.b4 4
  have y4 := blk_cell HVb.out.b6 4 ((.int .i64 tk.at_)) rfl
  have yf4 := blk_free HVb.out.b6 4
  by_cases hk2 : tk.kind = 2
  · have e2 := eqT (n := tk.kind) (k := 2) (by omega)
    have HE : Hid (Rd.value fixed (n + 1) s = (Rd.next s, .mk 2 (Rd.peek s).text [] [] (Rd.peek s).at_)) := by
      unfold Rd.value; dsimp only; rw [if_neg NB1.out, if_neg NB2.out, if_neg NB3.out, if_pos (by rw [← HTK.out]; exact hk2)]
      exact Lib.hid rfl
    clear hk2
    go_wp2_with fail
    refine (rnext_any b g s wb HVb.out.rd).mono ?_
    rintro r wn ⟨rfl, hn5, fn5⟩
    rw [← HTK.out]
    have HVn := Lib.hid (HVb.out.step hn5 fn5)
    clear hn5 fn5
    clear k2 k3 a0 a1 a2 z0 zf0 y0 yf0 z1 zf1 y1 yf1 z2 zf2 y2 yf2 z3 zf3 y3 yf3 z4 zf4 y4 yf4
    have k2 := blk_cell HVn.out.b2 0 (.pointer (some ⟨b, 0, none⟩)) rfl
    have k3 := blk_cell HVn.out.b3 0 (.bool fixed) rfl
    have a0 := blk_cell HVn.out.b5 0 (.int .i64 tk.kind) rfl
    have a1 := blk_cell HVn.out.b5 1 (.string ⟨tk.text.toArray⟩) rfl
    have a2 := blk_cell HVn.out.b5 2 (.int .i64 tk.at_) rfl
    have z0 := blk_cell HVn.out.b4 0 (.int .i64 0) rfl
    have zf0 := blk_free HVn.out.b4 0
    have y0 := blk_cell HVn.out.b6 0 ((.int .i64 0)) rfl
    have yf0 := blk_free HVn.out.b6 0
    have z1 := blk_cell HVn.out.b4 1 (.string ⟨#[]⟩) rfl
    have zf1 := blk_free HVn.out.b4 1
    have y1 := blk_cell HVn.out.b6 1 ((.string ⟨#[]⟩)) rfl
    have yf1 := blk_free HVn.out.b6 1
    have z2 := blk_cell HVn.out.b4 2 (.slice none 0 0) rfl
    have zf2 := blk_free HVn.out.b4 2
    have y2 := blk_cell HVn.out.b6 2 ((.slice none 0 0)) rfl
    have yf2 := blk_free HVn.out.b6 2
    have z3 := blk_cell HVn.out.b4 3 (.slice none 0 0) rfl
    have zf3 := blk_free HVn.out.b4 3
    have y3 := blk_cell HVn.out.b6 3 ((.slice none 0 0)) rfl
    have yf3 := blk_free HVn.out.b6 3
    have z4 := blk_cell HVn.out.b4 4 (.int .i64 0) rfl
    have zf4 := blk_free HVn.out.b4 4
    have y4 := blk_cell HVn.out.b6 4 ((.int .i64 tk.at_)) rfl
    have yf4 := blk_free HVn.out.b6 4
    have HVz := Lib.hid ((HVn.out.put 0 (.int .i64 2)).put 1 (.string ⟨tk.text.toArray⟩))
    go_wp2_with fail
    have hfin := (HVz).out.fin (cs := [.int .i64 2, .string ⟨tk.text.toArray⟩, .slice none 0 0, .slice none 0 0, .int .i64 tk.at_]) (leaf_reads _ 2 tk.at_ tk.text) (fun x hx => hx.elim)
    simp only [putCells, Nat.reduceAdd, Nat.zero_add] at hfin
    refine bodyPost_ret (v := .agg ([.int .i64 2, .string ⟨tk.text.toArray⟩, .slice none 0 0, .slice none 0 0, .int .i64 tk.at_]).toArray) (by simp [results, Tryd.results50, go_sem, z0, z1, z2, z3, z4, n1, n2, n3, n4, n5, n6, n7, n8]) rfl ?_
    rw [HE.out, ← HTK.out]
    exact ⟨_, rfl, hfin⟩
  have e2 := eqF (n := tk.kind) (k := 2) (by omega)
  have NK2 : Hid (¬ (Rd.peek s).kind = 2) := by rw [← HTK.out]; exact Lib.hid hk2
  by_cases hk3 : tk.kind = 3
  · have e3 := eqT (n := tk.kind) (k := 3) (by omega)
    have HE : Hid (Rd.value fixed (n + 1) s = (Rd.next s, .mk 3 (Rd.peek s).text [] [] (Rd.peek s).at_)) := by
      unfold Rd.value; dsimp only; rw [if_neg NB1.out, if_neg NB2.out, if_neg NB3.out, if_neg NK2.out, if_pos (by rw [← HTK.out]; exact hk3)]
      exact Lib.hid rfl
    clear hk2 hk3
    go_wp2_with fail
    refine (rnext_any b g s wb HVb.out.rd).mono ?_
    rintro r wn ⟨rfl, hn5, fn5⟩
    rw [← HTK.out]
    have HVn := Lib.hid (HVb.out.step hn5 fn5)
    clear hn5 fn5
    clear k2 k3 a0 a1 a2 z0 zf0 y0 yf0 z1 zf1 y1 yf1 z2 zf2 y2 yf2 z3 zf3 y3 yf3 z4 zf4 y4 yf4
    have k2 := blk_cell HVn.out.b2 0 (.pointer (some ⟨b, 0, none⟩)) rfl
    have k3 := blk_cell HVn.out.b3 0 (.bool fixed) rfl
    have a0 := blk_cell HVn.out.b5 0 (.int .i64 tk.kind) rfl
    have a1 := blk_cell HVn.out.b5 1 (.string ⟨tk.text.toArray⟩) rfl
    have a2 := blk_cell HVn.out.b5 2 (.int .i64 tk.at_) rfl
    have z0 := blk_cell HVn.out.b4 0 (.int .i64 0) rfl
    have zf0 := blk_free HVn.out.b4 0
    have y0 := blk_cell HVn.out.b6 0 ((.int .i64 0)) rfl
    have yf0 := blk_free HVn.out.b6 0
    have z1 := blk_cell HVn.out.b4 1 (.string ⟨#[]⟩) rfl
    have zf1 := blk_free HVn.out.b4 1
    have y1 := blk_cell HVn.out.b6 1 ((.string ⟨#[]⟩)) rfl
    have yf1 := blk_free HVn.out.b6 1
    have z2 := blk_cell HVn.out.b4 2 (.slice none 0 0) rfl
    have zf2 := blk_free HVn.out.b4 2
    have y2 := blk_cell HVn.out.b6 2 ((.slice none 0 0)) rfl
    have yf2 := blk_free HVn.out.b6 2
    have z3 := blk_cell HVn.out.b4 3 (.slice none 0 0) rfl
    have zf3 := blk_free HVn.out.b4 3
    have y3 := blk_cell HVn.out.b6 3 ((.slice none 0 0)) rfl
    have yf3 := blk_free HVn.out.b6 3
    have z4 := blk_cell HVn.out.b4 4 (.int .i64 0) rfl
    have zf4 := blk_free HVn.out.b4 4
    have y4 := blk_cell HVn.out.b6 4 ((.int .i64 tk.at_)) rfl
    have yf4 := blk_free HVn.out.b6 4
    have HVz := Lib.hid ((HVn.out.put 0 (.int .i64 3)).put 1 (.string ⟨tk.text.toArray⟩))
    go_wp2_with fail
    have hfin := (HVz).out.fin (cs := [.int .i64 3, .string ⟨tk.text.toArray⟩, .slice none 0 0, .slice none 0 0, .int .i64 tk.at_]) (leaf_reads _ 3 tk.at_ tk.text) (fun x hx => hx.elim)
    simp only [putCells, Nat.reduceAdd, Nat.zero_add] at hfin
    refine bodyPost_ret (v := .agg ([.int .i64 3, .string ⟨tk.text.toArray⟩, .slice none 0 0, .slice none 0 0, .int .i64 tk.at_]).toArray) (by simp [results, Tryd.results50, go_sem, z0, z1, z2, z3, z4, n1, n2, n3, n4, n5, n6, n7, n8]) rfl ?_
    rw [HE.out, ← HTK.out]
    exact ⟨_, rfl, hfin⟩
  have e3 := eqF (n := tk.kind) (k := 3) (by omega)
  have NK3 : Hid (¬ (Rd.peek s).kind = 3) := by rw [← HTK.out]; exact Lib.hid hk3
  by_cases hk4 : tk.kind = 4
  · have e4 := eqT (n := tk.kind) (k := 4) (by omega)
    have HE : Hid (Rd.value fixed (n + 1) s = (Rd.next s, .mk 4 (Rd.peek s).text [] [] (Rd.peek s).at_)) := by
      unfold Rd.value; dsimp only; rw [if_neg NB1.out, if_neg NB2.out, if_neg NB3.out, if_neg NK2.out, if_neg NK3.out, if_pos (by rw [← HTK.out]; exact hk4)]
      exact Lib.hid rfl
    clear hk2 hk3 hk4
    go_wp2_with fail
    refine (rnext_any b g s wb HVb.out.rd).mono ?_
    rintro r wn ⟨rfl, hn5, fn5⟩
    rw [← HTK.out]
    have HVn := Lib.hid (HVb.out.step hn5 fn5)
    clear hn5 fn5
    clear k2 k3 a0 a1 a2 z0 zf0 y0 yf0 z1 zf1 y1 yf1 z2 zf2 y2 yf2 z3 zf3 y3 yf3 z4 zf4 y4 yf4
    have k2 := blk_cell HVn.out.b2 0 (.pointer (some ⟨b, 0, none⟩)) rfl
    have k3 := blk_cell HVn.out.b3 0 (.bool fixed) rfl
    have a0 := blk_cell HVn.out.b5 0 (.int .i64 tk.kind) rfl
    have a1 := blk_cell HVn.out.b5 1 (.string ⟨tk.text.toArray⟩) rfl
    have a2 := blk_cell HVn.out.b5 2 (.int .i64 tk.at_) rfl
    have z0 := blk_cell HVn.out.b4 0 (.int .i64 0) rfl
    have zf0 := blk_free HVn.out.b4 0
    have y0 := blk_cell HVn.out.b6 0 ((.int .i64 0)) rfl
    have yf0 := blk_free HVn.out.b6 0
    have z1 := blk_cell HVn.out.b4 1 (.string ⟨#[]⟩) rfl
    have zf1 := blk_free HVn.out.b4 1
    have y1 := blk_cell HVn.out.b6 1 ((.string ⟨#[]⟩)) rfl
    have yf1 := blk_free HVn.out.b6 1
    have z2 := blk_cell HVn.out.b4 2 (.slice none 0 0) rfl
    have zf2 := blk_free HVn.out.b4 2
    have y2 := blk_cell HVn.out.b6 2 ((.slice none 0 0)) rfl
    have yf2 := blk_free HVn.out.b6 2
    have z3 := blk_cell HVn.out.b4 3 (.slice none 0 0) rfl
    have zf3 := blk_free HVn.out.b4 3
    have y3 := blk_cell HVn.out.b6 3 ((.slice none 0 0)) rfl
    have yf3 := blk_free HVn.out.b6 3
    have z4 := blk_cell HVn.out.b4 4 (.int .i64 0) rfl
    have zf4 := blk_free HVn.out.b4 4
    have y4 := blk_cell HVn.out.b6 4 ((.int .i64 tk.at_)) rfl
    have yf4 := blk_free HVn.out.b6 4
    have HVz := Lib.hid ((HVn.out.put 0 (.int .i64 4)).put 1 (.string ⟨tk.text.toArray⟩))
    go_wp2_with fail
    have hfin := (HVz).out.fin (cs := [.int .i64 4, .string ⟨tk.text.toArray⟩, .slice none 0 0, .slice none 0 0, .int .i64 tk.at_]) (leaf_reads _ 4 tk.at_ tk.text) (fun x hx => hx.elim)
    simp only [putCells, Nat.reduceAdd, Nat.zero_add] at hfin
    refine bodyPost_ret (v := .agg ([.int .i64 4, .string ⟨tk.text.toArray⟩, .slice none 0 0, .slice none 0 0, .int .i64 tk.at_]).toArray) (by simp [results, Tryd.results50, go_sem, z0, z1, z2, z3, z4, n1, n2, n3, n4, n5, n6, n7, n8]) rfl ?_
    rw [HE.out, ← HTK.out]
    exact ⟨_, rfl, hfin⟩
  have e4 := eqF (n := tk.kind) (k := 4) (by omega)
  have NK4 : Hid (¬ (Rd.peek s).kind = 4) := by rw [← HTK.out]; exact Lib.hid hk4
  clear hk2 hk3 hk4
  go_wp2_with fail
  refine (rword1_any b g s Rd.sNull _ wb HVb.out.rd).mono ?_
  rintro r wc ⟨rfl, hbc⟩
  have HVc := Lib.hid (HVb.out.below hbc)
  clear k2 k3 a0 a1 a2 z0 zf0 y0 yf0 z1 zf1 y1 yf1 z2 zf2 y2 yf2 z3 zf3 y3 yf3 z4 zf4 y4 yf4
  clear hbc e2 e3 e4
  obtain ⟨B4, hB4⟩ : ∃ B, B = Rd.isW s [Rd.sNull] := ⟨_, rfl⟩
  have HB4 := Lib.hid hB4
  rw [← hB4]
  clear hB4
  have k2 := blk_cell HVc.out.b2 0 (.pointer (some ⟨b, 0, none⟩)) rfl
  have k3 := blk_cell HVc.out.b3 0 (.bool fixed) rfl
  have a0 := blk_cell HVc.out.b5 0 (.int .i64 tk.kind) rfl
  have a1 := blk_cell HVc.out.b5 1 (.string ⟨tk.text.toArray⟩) rfl
  have a2 := blk_cell HVc.out.b5 2 (.int .i64 tk.at_) rfl
  have z0 := blk_cell HVc.out.b4 0 (.int .i64 0) rfl
  have zf0 := blk_free HVc.out.b4 0
  have y0 := blk_cell HVc.out.b6 0 ((.int .i64 0)) rfl
  have yf0 := blk_free HVc.out.b6 0
  have z1 := blk_cell HVc.out.b4 1 (.string ⟨#[]⟩) rfl
  have zf1 := blk_free HVc.out.b4 1
  have y1 := blk_cell HVc.out.b6 1 ((.string ⟨#[]⟩)) rfl
  have yf1 := blk_free HVc.out.b6 1
  have z2 := blk_cell HVc.out.b4 2 (.slice none 0 0) rfl
  have zf2 := blk_free HVc.out.b4 2
  have y2 := blk_cell HVc.out.b6 2 ((.slice none 0 0)) rfl
  have yf2 := blk_free HVc.out.b6 2
  have z3 := blk_cell HVc.out.b4 3 (.slice none 0 0) rfl
  have zf3 := blk_free HVc.out.b4 3
  have y3 := blk_cell HVc.out.b6 3 ((.slice none 0 0)) rfl
  have yf3 := blk_free HVc.out.b6 3
  have z4 := blk_cell HVc.out.b4 4 (.int .i64 0) rfl
  have zf4 := blk_free HVc.out.b4 4
  have y4 := blk_cell HVc.out.b6 4 ((.int .i64 tk.at_)) rfl
  have yf4 := blk_free HVc.out.b6 4
  cases B4
  rotate_left
  · -- null
    have HE : Hid (Rd.value fixed (n + 1) s = (Rd.next s, .mk 6 [] [] [] (Rd.peek s).at_)) := by
      unfold Rd.value; dsimp only; rw [if_neg NB1.out, if_neg NB2.out, if_neg NB3.out, if_neg NK2.out, if_neg NK3.out, if_neg NK4.out, if_pos HB4.out.symm]
      exact Lib.hid rfl
    go_wp2_with fail
    refine (rnext_any b g s _ ((HVc.out.put 0 (.int .i64 6)).rd)).mono ?_
    rintro r wn ⟨rfl, hn5, fn5⟩
    have HVn : Hid (VI w b g t5 t6 fixed tk #[.int .i64 6, .string ⟨#[]⟩, .slice none 0 0, .slice none 0 0, .int .i64 tk.at_] (Rd.next s) wn) := Lib.hid ((HVc.out.put 0 (.int .i64 6)).step hn5 fn5)
    clear hn5 fn5
    clear k2 k3 a0 a1 a2 z0 zf0 y0 yf0 z1 zf1 y1 yf1 z2 zf2 y2 yf2 z3 zf3 y3 yf3 z4 zf4 y4 yf4
    have k2 := blk_cell HVn.out.b2 0 (.pointer (some ⟨b, 0, none⟩)) rfl
    have k3 := blk_cell HVn.out.b3 0 (.bool fixed) rfl
    have a0 := blk_cell HVn.out.b5 0 (.int .i64 tk.kind) rfl
    have a1 := blk_cell HVn.out.b5 1 (.string ⟨tk.text.toArray⟩) rfl
    have a2 := blk_cell HVn.out.b5 2 (.int .i64 tk.at_) rfl
    have z0 := blk_cell HVn.out.b4 0 (.int .i64 0) rfl
    have zf0 := blk_free HVn.out.b4 0
    have y0 := blk_cell HVn.out.b6 0 ((.int .i64 6)) rfl
    have yf0 := blk_free HVn.out.b6 0
    have z1 := blk_cell HVn.out.b4 1 (.string ⟨#[]⟩) rfl
    have zf1 := blk_free HVn.out.b4 1
    have y1 := blk_cell HVn.out.b6 1 ((.string ⟨#[]⟩)) rfl
    have yf1 := blk_free HVn.out.b6 1
    have z2 := blk_cell HVn.out.b4 2 (.slice none 0 0) rfl
    have zf2 := blk_free HVn.out.b4 2
    have y2 := blk_cell HVn.out.b6 2 ((.slice none 0 0)) rfl
    have yf2 := blk_free HVn.out.b6 2
    have z3 := blk_cell HVn.out.b4 3 (.slice none 0 0) rfl
    have zf3 := blk_free HVn.out.b4 3
    have y3 := blk_cell HVn.out.b6 3 ((.slice none 0 0)) rfl
    have yf3 := blk_free HVn.out.b6 3
    have z4 := blk_cell HVn.out.b4 4 (.int .i64 0) rfl
    have zf4 := blk_free HVn.out.b4 4
    have y4 := blk_cell HVn.out.b6 4 ((.int .i64 tk.at_)) rfl
    have yf4 := blk_free HVn.out.b6 4
    go_wp2_with fail
    have hfin := (HVn).out.fin (cs := [.int .i64 6, .string ⟨#[]⟩, .slice none 0 0, .slice none 0 0, .int .i64 tk.at_]) (leaf_reads _ 6 tk.at_ []) (fun x hx => hx.elim)
    simp only [putCells, Nat.reduceAdd, Nat.zero_add] at hfin
    refine bodyPost_ret (v := .agg ([.int .i64 6, .string ⟨#[]⟩, .slice none 0 0, .slice none 0 0, .int .i64 tk.at_]).toArray) (by simp [results, Tryd.results50, go_sem, z0, z1, z2, z3, z4, n1, n2, n3, n4, n5, n6, n7, n8]) rfl ?_
    rw [HE.out, ← HTK.out]
    exact ⟨_, rfl, hfin⟩
  have NB4 : Hid (¬ Rd.isW s [Rd.sNull] = true) := by rw [← HB4.out]; exact Lib.hid (by simp)
  clear HB4
  go_wp2_with fail
  refine (rword2_any b g s Rd.sTrue Rd.sFalse _ wc HVc.out.rd).mono ?_
  rintro r wd ⟨rfl, hbd⟩
  have HVd := Lib.hid (HVc.out.below hbd)
  clear k2 k3 a0 a1 a2 z0 zf0 y0 yf0 z1 zf1 y1 yf1 z2 zf2 y2 yf2 z3 zf3 y3 yf3 z4 zf4 y4 yf4
  clear hbd
  obtain ⟨B5, hB5⟩ : ∃ B, B = Rd.isW s [Rd.sTrue, Rd.sFalse] := ⟨_, rfl⟩
  have HB5 := Lib.hid hB5
  rw [← hB5]
  clear hB5
  have k2 := blk_cell HVd.out.b2 0 (.pointer (some ⟨b, 0, none⟩)) rfl
  have k3 := blk_cell HVd.out.b3 0 (.bool fixed) rfl
  have a0 := blk_cell HVd.out.b5 0 (.int .i64 tk.kind) rfl
  have a1 := blk_cell HVd.out.b5 1 (.string ⟨tk.text.toArray⟩) rfl
  have a2 := blk_cell HVd.out.b5 2 (.int .i64 tk.at_) rfl
  have z0 := blk_cell HVd.out.b4 0 (.int .i64 0) rfl
  have zf0 := blk_free HVd.out.b4 0
  have y0 := blk_cell HVd.out.b6 0 ((.int .i64 0)) rfl
  have yf0 := blk_free HVd.out.b6 0
  have z1 := blk_cell HVd.out.b4 1 (.string ⟨#[]⟩) rfl
  have zf1 := blk_free HVd.out.b4 1
  have y1 := blk_cell HVd.out.b6 1 ((.string ⟨#[]⟩)) rfl
  have yf1 := blk_free HVd.out.b6 1
  have z2 := blk_cell HVd.out.b4 2 (.slice none 0 0) rfl
  have zf2 := blk_free HVd.out.b4 2
  have y2 := blk_cell HVd.out.b6 2 ((.slice none 0 0)) rfl
  have yf2 := blk_free HVd.out.b6 2
  have z3 := blk_cell HVd.out.b4 3 (.slice none 0 0) rfl
  have zf3 := blk_free HVd.out.b4 3
  have y3 := blk_cell HVd.out.b6 3 ((.slice none 0 0)) rfl
  have yf3 := blk_free HVd.out.b6 3
  have z4 := blk_cell HVd.out.b4 4 (.int .i64 0) rfl
  have zf4 := blk_free HVd.out.b4 4
  have y4 := blk_cell HVd.out.b6 4 ((.int .i64 tk.at_)) rfl
  have yf4 := blk_free HVd.out.b6 4
  cases B5
  rotate_left
  · -- true, false
    have HE : Hid (Rd.value fixed (n + 1) s = (Rd.next s, .mk 5 (Rd.peek s).text [] [] (Rd.peek s).at_)) := by
      unfold Rd.value; dsimp only; rw [if_neg NB1.out, if_neg NB2.out, if_neg NB3.out, if_neg NK2.out, if_neg NK3.out, if_neg NK4.out, if_neg NB4.out, if_pos HB5.out.symm]
      exact Lib.hid rfl
    go_wp2_with fail
    refine (rnext_any b g s wd HVd.out.rd).mono ?_
    rintro r wn ⟨rfl, hn5, fn5⟩
    rw [← HTK.out]
    have HVn := Lib.hid (HVd.out.step hn5 fn5)
    clear hn5 fn5
    clear k2 k3 a0 a1 a2 z0 zf0 y0 yf0 z1 zf1 y1 yf1 z2 zf2 y2 yf2 z3 zf3 y3 yf3 z4 zf4 y4 yf4
    have k2 := blk_cell HVn.out.b2 0 (.pointer (some ⟨b, 0, none⟩)) rfl
    have k3 := blk_cell HVn.out.b3 0 (.bool fixed) rfl
    have a0 := blk_cell HVn.out.b5 0 (.int .i64 tk.kind) rfl
    have a1 := blk_cell HVn.out.b5 1 (.string ⟨tk.text.toArray⟩) rfl
    have a2 := blk_cell HVn.out.b5 2 (.int .i64 tk.at_) rfl
    have z0 := blk_cell HVn.out.b4 0 (.int .i64 0) rfl
    have zf0 := blk_free HVn.out.b4 0
    have y0 := blk_cell HVn.out.b6 0 ((.int .i64 0)) rfl
    have yf0 := blk_free HVn.out.b6 0
    have z1 := blk_cell HVn.out.b4 1 (.string ⟨#[]⟩) rfl
    have zf1 := blk_free HVn.out.b4 1
    have y1 := blk_cell HVn.out.b6 1 ((.string ⟨#[]⟩)) rfl
    have yf1 := blk_free HVn.out.b6 1
    have z2 := blk_cell HVn.out.b4 2 (.slice none 0 0) rfl
    have zf2 := blk_free HVn.out.b4 2
    have y2 := blk_cell HVn.out.b6 2 ((.slice none 0 0)) rfl
    have yf2 := blk_free HVn.out.b6 2
    have z3 := blk_cell HVn.out.b4 3 (.slice none 0 0) rfl
    have zf3 := blk_free HVn.out.b4 3
    have y3 := blk_cell HVn.out.b6 3 ((.slice none 0 0)) rfl
    have yf3 := blk_free HVn.out.b6 3
    have z4 := blk_cell HVn.out.b4 4 (.int .i64 0) rfl
    have zf4 := blk_free HVn.out.b4 4
    have y4 := blk_cell HVn.out.b6 4 ((.int .i64 tk.at_)) rfl
    have yf4 := blk_free HVn.out.b6 4
    have HVz := Lib.hid ((HVn.out.put 0 (.int .i64 5)).put 1 (.string ⟨tk.text.toArray⟩))
    go_wp2_with fail
    have hfin := (HVz).out.fin (cs := [.int .i64 5, .string ⟨tk.text.toArray⟩, .slice none 0 0, .slice none 0 0, .int .i64 tk.at_]) (leaf_reads _ 5 tk.at_ tk.text) (fun x hx => hx.elim)
    simp only [putCells, Nat.reduceAdd, Nat.zero_add] at hfin
    refine bodyPost_ret (v := .agg ([.int .i64 5, .string ⟨tk.text.toArray⟩, .slice none 0 0, .slice none 0 0, .int .i64 tk.at_]).toArray) (by simp [results, Tryd.results50, go_sem, z0, z1, z2, z3, z4, n1, n2, n3, n4, n5, n6, n7, n8]) rfl ?_
    rw [HE.out, ← HTK.out]
    exact ⟨_, rfl, hfin⟩
  have NB5 : Hid (¬ Rd.isW s [Rd.sTrue, Rd.sFalse] = true) := by rw [← HB5.out]; exact Lib.hid (by simp)
  clear HB5
  go_wp2_with fail
  refine (rword0_any b g s wd HVd.out.rd).mono ?_
  rintro r we ⟨rfl, hbe⟩
  have HVe := Lib.hid (HVd.out.below hbe)
  clear k2 k3 a0 a1 a2 z0 zf0 y0 yf0 z1 zf1 y1 yf1 z2 zf2 y2 yf2 z3 zf3 y3 yf3 z4 zf4 y4 yf4
  clear hbe
  obtain ⟨B6, hB6⟩ : ∃ B, B = Rd.isN s := ⟨_, rfl⟩
  have HB6 := Lib.hid hB6
  rw [← hB6]
  clear hB6
  have k2 := blk_cell HVe.out.b2 0 (.pointer (some ⟨b, 0, none⟩)) rfl
  have k3 := blk_cell HVe.out.b3 0 (.bool fixed) rfl
  have a0 := blk_cell HVe.out.b5 0 (.int .i64 tk.kind) rfl
  have a1 := blk_cell HVe.out.b5 1 (.string ⟨tk.text.toArray⟩) rfl
  have a2 := blk_cell HVe.out.b5 2 (.int .i64 tk.at_) rfl
  have z0 := blk_cell HVe.out.b4 0 (.int .i64 0) rfl
  have zf0 := blk_free HVe.out.b4 0
  have y0 := blk_cell HVe.out.b6 0 ((.int .i64 0)) rfl
  have yf0 := blk_free HVe.out.b6 0
  have z1 := blk_cell HVe.out.b4 1 (.string ⟨#[]⟩) rfl
  have zf1 := blk_free HVe.out.b4 1
  have y1 := blk_cell HVe.out.b6 1 ((.string ⟨#[]⟩)) rfl
  have yf1 := blk_free HVe.out.b6 1
  have z2 := blk_cell HVe.out.b4 2 (.slice none 0 0) rfl
  have zf2 := blk_free HVe.out.b4 2
  have y2 := blk_cell HVe.out.b6 2 ((.slice none 0 0)) rfl
  have yf2 := blk_free HVe.out.b6 2
  have z3 := blk_cell HVe.out.b4 3 (.slice none 0 0) rfl
  have zf3 := blk_free HVe.out.b4 3
  have y3 := blk_cell HVe.out.b6 3 ((.slice none 0 0)) rfl
  have yf3 := blk_free HVe.out.b6 3
  have z4 := blk_cell HVe.out.b4 4 (.int .i64 0) rfl
  have zf4 := blk_free HVe.out.b4 4
  have y4 := blk_cell HVe.out.b6 4 ((.int .i64 tk.at_)) rfl
  have yf4 := blk_free HVe.out.b6 4
  cases B6
  rotate_left
  · -- a name
    have HE : Hid (Rd.value fixed (n + 1) s = (Rd.next s, .mk 7 (Rd.peek s).text [] [] (Rd.peek s).at_)) := by
      unfold Rd.value; dsimp only; rw [if_neg NB1.out, if_neg NB2.out, if_neg NB3.out, if_neg NK2.out, if_neg NK3.out, if_neg NK4.out, if_neg NB4.out, if_neg NB5.out, if_pos HB6.out.symm]
      exact Lib.hid rfl
    go_wp2_with fail
    refine (rnext_any b g s we HVe.out.rd).mono ?_
    rintro r wn ⟨rfl, hn5, fn5⟩
    rw [← HTK.out]
    have HVn := Lib.hid (HVe.out.step hn5 fn5)
    clear hn5 fn5
    clear k2 k3 a0 a1 a2 z0 zf0 y0 yf0 z1 zf1 y1 yf1 z2 zf2 y2 yf2 z3 zf3 y3 yf3 z4 zf4 y4 yf4
    have k2 := blk_cell HVn.out.b2 0 (.pointer (some ⟨b, 0, none⟩)) rfl
    have k3 := blk_cell HVn.out.b3 0 (.bool fixed) rfl
    have a0 := blk_cell HVn.out.b5 0 (.int .i64 tk.kind) rfl
    have a1 := blk_cell HVn.out.b5 1 (.string ⟨tk.text.toArray⟩) rfl
    have a2 := blk_cell HVn.out.b5 2 (.int .i64 tk.at_) rfl
    have z0 := blk_cell HVn.out.b4 0 (.int .i64 0) rfl
    have zf0 := blk_free HVn.out.b4 0
    have y0 := blk_cell HVn.out.b6 0 ((.int .i64 0)) rfl
    have yf0 := blk_free HVn.out.b6 0
    have z1 := blk_cell HVn.out.b4 1 (.string ⟨#[]⟩) rfl
    have zf1 := blk_free HVn.out.b4 1
    have y1 := blk_cell HVn.out.b6 1 ((.string ⟨#[]⟩)) rfl
    have yf1 := blk_free HVn.out.b6 1
    have z2 := blk_cell HVn.out.b4 2 (.slice none 0 0) rfl
    have zf2 := blk_free HVn.out.b4 2
    have y2 := blk_cell HVn.out.b6 2 ((.slice none 0 0)) rfl
    have yf2 := blk_free HVn.out.b6 2
    have z3 := blk_cell HVn.out.b4 3 (.slice none 0 0) rfl
    have zf3 := blk_free HVn.out.b4 3
    have y3 := blk_cell HVn.out.b6 3 ((.slice none 0 0)) rfl
    have yf3 := blk_free HVn.out.b6 3
    have z4 := blk_cell HVn.out.b4 4 (.int .i64 0) rfl
    have zf4 := blk_free HVn.out.b4 4
    have y4 := blk_cell HVn.out.b6 4 ((.int .i64 tk.at_)) rfl
    have yf4 := blk_free HVn.out.b6 4
    have HVz := Lib.hid ((HVn.out.put 0 (.int .i64 7)).put 1 (.string ⟨tk.text.toArray⟩))
    go_wp2_with fail
    have hfin := (HVz).out.fin (cs := [.int .i64 7, .string ⟨tk.text.toArray⟩, .slice none 0 0, .slice none 0 0, .int .i64 tk.at_]) (leaf_reads _ 7 tk.at_ tk.text) (fun x hx => hx.elim)
    simp only [putCells, Nat.reduceAdd, Nat.zero_add] at hfin
    refine bodyPost_ret (v := .agg ([.int .i64 7, .string ⟨tk.text.toArray⟩, .slice none 0 0, .slice none 0 0, .int .i64 tk.at_]).toArray) (by simp [results, Tryd.results50, go_sem, z0, z1, z2, z3, z4, n1, n2, n3, n4, n5, n6, n7, n8]) rfl ?_
    rw [HE.out, ← HTK.out]
    exact ⟨_, rfl, hfin⟩
  · -- nothing that fits
    have HE : Hid (Rd.value fixed (n + 1) s = (Rd.wrong s, .mk 0 [] [] [] (Rd.peek s).at_)) := by
      unfold Rd.value; dsimp only; rw [if_neg NB1.out, if_neg NB2.out, if_neg NB3.out, if_neg NK2.out, if_neg NK3.out, if_neg NK4.out, if_neg NB4.out, if_neg NB5.out, if_neg (by rw [← HB6.out]; simp)]
      exact Lib.hid rfl
    go_wp2_with fail
    refine (rwrong_any b g s we HVe.out.rd).mono ?_
    rintro r wn ⟨rfl, hn5, fn5⟩
    have HVn := Lib.hid (HVe.out.step hn5 fn5)
    clear hn5 fn5
    clear k2 k3 a0 a1 a2 z0 zf0 y0 yf0 z1 zf1 y1 yf1 z2 zf2 y2 yf2 z3 zf3 y3 yf3 z4 zf4 y4 yf4
    have k2 := blk_cell HVn.out.b2 0 (.pointer (some ⟨b, 0, none⟩)) rfl
    have k3 := blk_cell HVn.out.b3 0 (.bool fixed) rfl
    have a0 := blk_cell HVn.out.b5 0 (.int .i64 tk.kind) rfl
    have a1 := blk_cell HVn.out.b5 1 (.string ⟨tk.text.toArray⟩) rfl
    have a2 := blk_cell HVn.out.b5 2 (.int .i64 tk.at_) rfl
    have z0 := blk_cell HVn.out.b4 0 (.int .i64 0) rfl
    have zf0 := blk_free HVn.out.b4 0
    have y0 := blk_cell HVn.out.b6 0 ((.int .i64 0)) rfl
    have yf0 := blk_free HVn.out.b6 0
    have z1 := blk_cell HVn.out.b4 1 (.string ⟨#[]⟩) rfl
    have zf1 := blk_free HVn.out.b4 1
    have y1 := blk_cell HVn.out.b6 1 ((.string ⟨#[]⟩)) rfl
    have yf1 := blk_free HVn.out.b6 1
    have z2 := blk_cell HVn.out.b4 2 (.slice none 0 0) rfl
    have zf2 := blk_free HVn.out.b4 2
    have y2 := blk_cell HVn.out.b6 2 ((.slice none 0 0)) rfl
    have yf2 := blk_free HVn.out.b6 2
    have z3 := blk_cell HVn.out.b4 3 (.slice none 0 0) rfl
    have zf3 := blk_free HVn.out.b4 3
    have y3 := blk_cell HVn.out.b6 3 ((.slice none 0 0)) rfl
    have yf3 := blk_free HVn.out.b6 3
    have z4 := blk_cell HVn.out.b4 4 (.int .i64 0) rfl
    have zf4 := blk_free HVn.out.b4 4
    have y4 := blk_cell HVn.out.b6 4 ((.int .i64 tk.at_)) rfl
    have yf4 := blk_free HVn.out.b6 4
    go_wp2_with fail
    have hfin := (HVn).out.fin (cs := [.int .i64 0, .string ⟨#[]⟩, .slice none 0 0, .slice none 0 0, .int .i64 tk.at_]) (leaf_reads _ 0 tk.at_ []) (fun x hx => hx.elim)
    simp only [putCells, Nat.reduceAdd, Nat.zero_add] at hfin
    refine bodyPost_ret (v := .agg ([.int .i64 0, .string ⟨#[]⟩, .slice none 0 0, .slice none 0 0, .int .i64 tk.at_]).toArray) (by simp [results, Tryd.results50, go_sem, z0, z1, z2, z3, z4, n1, n2, n3, n4, n5, n6, n7, n8]) rfl ?_
    rw [HE.out, ← HTK.out]
    exact ⟨_, rfl, hfin⟩
end Go.Proofs.YtabcaljnpahgpaaDoor
namespace Go.Proofs.YtabcaljnpahgpaaDoor
set_option linter.unusedSimpArgs false
set_option linter.unusedVariables false
open Go Go.RowKit

theorem rvalue_any (b g : Nat) (fixed : Bool) : ∀ (n : Nat), n ≤ 1600 → ∀ (s : Rd.St) (w : World), RdAt w b g s → s.rest.length ≤ n → 0 ≤ s.deep ∧ s.deep + n ≤ 900000 →
    Calls Tryd.prog 50 #[.pointer (some ⟨b, 0, none⟩), .bool fixed] w (Got b g w (Rd.value fixed (n + 1) s).2.d (Rd.value fixed (n + 1) s).1)
  | 0, hnb, s, w, h, hn, hd => rvalue_step b g fixed 0 s w h hn hnb hd (fun m hm => absurd hm (by omega))
  | n + 1, hnb, s, w, h, hn, hd => rvalue_step b g fixed (n + 1) s w h hn hnb hd (fun m hm s' w' h' hn' hd' => by
    obtain rfl : n = m := by omega
    exact rvalue_any b g fixed n (by omega) s' w' h' hn' hd')
theorem rargs1_any (b g : Nat) (fixed : Bool) (n : Nat) (hnb : n ≤ 1600) (s : Rd.St) (w : World) (h : RdAt w b g s) (hn : s.rest.length ≤ n) (hd : 0 ≤ s.deep ∧ s.deep + n ≤ 900000) :
    Calls Tryd.prog 69 #[.pointer (some ⟨b, 0, none⟩), .bool fixed] w (Got b g w (Rd.arg fixed (n + 1) s).2.d (Rd.arg fixed (n + 1) s).1) :=
  rarg_any b g fixed (n + 1) s w h (fun w' hr' => rvalue_any b g fixed n hnb _ w' hr' (Nat.le_trans ((Rd.ok_name s).trans (Rd.ok_want Rd.colon _)).len hn) (by rw [Rd.want_deep, Rd.name_deep]; exact hd))

/-- What a reader's call that answers with a slice leaves. -/
def GotL (b g : Nat) (w : World) (k : Nat) (ds : List D) (s : Rd.St) (r : Ending) (w' : World) : Prop :=
  ∃ (a : Option Addr) (c : Nat), r = .returned (.slice a ds.length c) ∧ Reads w' (fun x => w.heap.size ≤ x) (.seq k ds) [.slice a ds.length c] ∧ RdAt w' b g s ∧ Fr b w w'

def abx (w0 : World) (b : Nat) (fixed : Bool) : List Box :=
  [(w0.heap.size, .cells #[.pointer (some ⟨b, 0, none⟩)] 87 (0, 0)), (w0.heap.size + 1, .cells #[.bool fixed] 4 (0, 0))]
def ALI (w0 : World) (b g : Nat) (fixed : Bool) (m : Nat) (d1 : Int) (s : Rd.St) (out : List Rd.A) (w : World) : Prop :=
  LI w0 b g (w0.heap.size + 1 + 1) (abx w0 b fixed) 37 mkOne 82 7 s (out.map Rd.A.d) w ∧ s.deep = d1 ∧ s.rest.length ≤ m ∧ (s.err = 0 → out.length + s.rest.length ≤ 1602) ∧ out.length ≤ 1603
theorem enters_AC (cap : Array Value) (w : World) : Sem.run Tryd.prog (callFunc 70 cap) w = .ok (.enter 70 cap) w := by kernel_rfl

set_option maxHeartbeats 1000000 in
set_option maxRecDepth 100000 in
theorem rargs_any (b g : Nat) (fixed : Bool) (n : Nat) (hnb : n ≤ 1600) (s : Rd.St) (w : World) (h : RdAt w b g s) (hn : s.rest.length ≤ n) (hd : 0 ≤ s.deep ∧ s.deep + n ≤ 900000) :
    Calls Tryd.prog 51 #[.pointer (some ⟨b, 0, none⟩), .bool fixed] w (GotL b g w 7 ((Rd.args fixed (n + 1) s).2.map Rd.A.d) (Rd.args fixed (n + 1) s).1) := by
  have hlb := h.lt
  have H := Lib.hid h
  have HN := Lib.hid hn
  obtain ⟨d0, d1⟩ := hd
  clear h hn
  have hLI : LI w b g (w.heap.size + 1 + 1) (abx w b fixed) 37 mkOne 82 7 s [] (((w.alloc (.cells #[.pointer (some ⟨b, 0, none⟩)] 87)).alloc (.cells #[.bool fixed] 4)).alloc (.cells #[.slice none 0 0] 37)) := by
    have hbb : Below w.heap.size w (((w.alloc (.cells #[.pointer (some ⟨b, 0, none⟩)] 87)).alloc (.cells #[.bool fixed] 4)).alloc (.cells #[.slice none 0 0] 37)) :=
      (((Below.refl _ _).alloc (Nat.le_refl _) _).alloc (by simp) _).alloc (by simp; omega) _
    refine ⟨H.out.below hbb, fun p hp => ?_, ⟨.slice none 0 0, ?_, Grows.nil _ _ _ _ _⟩, But.of_below hbb, hlb.1, hlb.2, fun p hp => ?_, by omega⟩
    · unfold abx at hp
      simp only [List.mem_cons, List.not_mem_nil, or_false] at hp
      rcases hp with rfl | rfl
      · show (((w.alloc _).alloc _).alloc _).heap[w.heap.size]? = _
        rw [Lib.alloc_old _ _ _ (by simp; omega), Lib.alloc_old _ _ _ (by simp)]; exact heap_at_new _ _
      · show (((w.alloc _).alloc _).alloc _).heap[w.heap.size + 1]? = _
        rw [Lib.alloc_old _ _ _ (by simp)]
        have := heap_at_new (w.alloc (.cells #[.pointer (some ⟨b, 0, none⟩)] 87)) (.cells #[.bool fixed] 4)
        simpa using this
    · have := heap_at_new ((w.alloc (.cells #[.pointer (some ⟨b, 0, none⟩)] 87)).alloc (.cells #[.bool fixed] 4)) (.cells #[.slice none 0 0] 37)
      rw [show ((w.alloc (.cells #[.pointer (some ⟨b, 0, none⟩)] 87)).alloc (.cells #[.bool fixed] 4)).heap.size = w.heap.size + 1 + 1 by simp] at this
      exact this
    · unfold abx at hp
      simp only [List.mem_cons, List.not_mem_nil, or_false] at hp
      rcases hp with rfl | rfl <;> (simp only; omega)
  have HLI := Lib.hid hLI
  have k2 := hLI.cellx (t := w.heap.size) (v := .pointer (some ⟨b, 0, none⟩)) (T := 87) (by simp [abx])
  clear hLI
  go_enter Tryd.func51, Tryd.ntmps51
  go_wp2_with fail
  refine (rtake_any b g s Rd.lpar _ HLI.out.rd).mono ?_
  rintro r w1 ⟨rfl, h1, f1⟩
  have HL1 := Lib.hid (HLI.out.step h1 f1)
  clear h1 f1 k2
  obtain ⟨B, hB⟩ : ∃ B, B = Rd.isS s Rd.lpar := ⟨_, rfl⟩
  have HB := Lib.hid hB
  rw [← hB]
  clear hB
  cases B
  · have HE : Hid (Rd.args fixed (n + 1) s = (s, [])) := by
      unfold Rd.args
      rw [if_neg (by rw [← HB.out]; simp)]
      exact Lib.hid rfl
    have HT : Hid (Rd.take Rd.lpar s = s) := by
      unfold Rd.take
      rw [if_neg (by rw [← HB.out]; simp)]
      exact Lib.hid rfl
    obtain ⟨v, hv, hg⟩ := HL1.out.ex
    obtain ⟨va, vc, rfl⟩ := hg.form
    have k3 := blk_cell hv 0 (.slice va 0 vc) rfl
    have HG := Lib.hid hg
    clear hv hg
    go_wp2_with fail
    go_ret
    rw [HE.out]
    refine ⟨va, vc, rfl, ?_, by have := HL1.out.rd; rw [HT.out] at this; exact this, HL1.out.fr⟩
    exact HG.out.reads.to (Stands.sub w1 (fun x _ hp => by
      rcases hp with hp | hp
      · have := hp.1; show w.heap.size ≤ x; omega
      · have := Nat.le_trans (LB_t6 _ _) (HG.out.lt x hp).1; show w.heap.size ≤ x; omega))
  · have HT : Hid (Rd.take Rd.lpar s = Rd.next s) := by
      unfold Rd.take
      rw [if_pos HB.out.symm]
      exact Lib.hid rfl
    have HE : Hid (Rd.args fixed (n + 1) s = (Rd.want Rd.rpar (Rd.loop1 Rd.rpar (Rd.arg fixed (n + 1)) (n + 1) (Rd.next s)).1, (Rd.loop1 Rd.rpar (Rd.arg fixed (n + 1)) (n + 1) (Rd.next s)).2)) := by
      unfold Rd.args
      rw [if_pos HB.out.symm]
      exact Lib.hid rfl
    have HL2 : Hid (LI w b g (w.heap.size + 1 + 1) (abx w b fixed) 37 mkOne 82 7 (Rd.next s) [] w1) := by rw [← HT.out]; exact HL1
    have HNX := Lib.hid (Rd.next_sign HB.out.symm)
    have HCL : Hid (∀ (s1 : Rd.St) (out : List Rd.A) (w1 : World), LI w b g (w.heap.size + 1 + 1) (abx w b fixed) 37 mkOne 82 7 s1 (out.map Rd.A.d) w1 → s1.rest.length ≤ n → s1.deep = s.deep → out.length ≤ 1000000 →
        Calls Tryd.prog 70 #[.pointer (some ⟨w.heap.size + 1 + 1, 0, none⟩), .pointer (some ⟨w.heap.size, 0, none⟩), .pointer (some ⟨w.heap.size + 1, 0, none⟩)] w1 fun r w' => r = .returned (.tuple #[]) ∧
          LI w b g (w.heap.size + 1 + 1) (abx w b fixed) 37 mkOne 82 7 (Rd.arg fixed (n + 1) s1).1 ((out ++ [(Rd.arg fixed (n + 1) s1).2]).map Rd.A.d) w') :=
      Lib.hid fun s1 out w1 hl hr hdp ho => by
        rw [List.map_append]
        exact argsC_any w b g (w.heap.size + 1 + 1) (abx w b fixed) w.heap.size (w.heap.size + 1) fixed (n + 1) (by simp [abx]) (by simp [abx]) s1 (out.map Rd.A.d) w1
          (fun w2 hr2 => rargs1_any b g fixed n hnb s1 w2 hr2 hr (by rw [hdp]; omega)) hl (by rw [List.length_map]; exact ho)
    have HDP : Hid (∀ s, (Rd.arg fixed (n + 1) s).1.deep = s.deep) := Lib.hid (Rd.argOf_deep _ (Rd.value_deep fixed (n + 1)))
    have HOK : Hid (∀ s, Rd.Ok s (Rd.arg fixed (n + 1) s).1) := Lib.hid (Rd.ok_argOf _ (Rd.ok_value fixed (n + 1)))
    have HND := Lib.hid (Rd.next_deep s)
    have HGO := Lib.hid (fun s1 he => Rd.arg_goes fixed (n + 1) s1 he)
    have hnx : (Rd.next s).rest.length + 1 ≤ n := by have := HNX.out.1; have := HN.out; omega
    have k2 : w1.cell? ⟨w.heap.size, 0, none⟩ = some (.pointer (some ⟨b, 0, none⟩)) := HL2.out.cellx (T := 87) (by simp [abx])
    go_wp2_with fail
    refine (some1_any Rd.rpar (Rd.arg fixed (n + 1)) (ALI w b g fixed n s.deep) b g _ _ (enters_AC _) (fun s out w' h => h.1.rd) (fun s out w1 w2 h hb => ⟨h.1.below hb, h.2⟩) (fun s1 out w2 h he => ?_) (fun s1 out w2 h he _ => HGO.out s1 he) (n + 1) (Rd.next s) w1 ?_ ?_).mono ?_
    · refine (HCL.out s1 out w2 h.1 h.2.2.1 h.2.1 (by have := h.2.2.2.2; omega)).mono ?_
      rintro r w3 ⟨hre, hli⟩
      refine ⟨hre, hli, by rw [HDP.out]; exact h.2.1, Nat.le_trans (HOK.out s1).len h.2.2.1, fun he2 => ?_, by have := h.2.2.2.1 he; rw [List.length_append]; simp; omega⟩
      rcases HGO.out s1 he with hx | hx
      · exact absurd he2 hx
      · have := h.2.2.2.1 he
        rw [List.length_append]
        simp
        omega
    · refine (HCL.out (Rd.next s) [] w1 HL2.out (by omega) HND.out (by simp)).mono ?_
      rintro r w3 ⟨hre, hli⟩
      have hlen := (HOK.out (Rd.next s)).len
      exact ⟨hre, hli, by rw [HDP.out]; exact HND.out, by omega, fun _ => by simp; omega, by simp⟩
    · rcases HGO.out (Rd.next s) HNX.out.2 with hx | hx
      · exact .inl hx
      · exact .inr (by omega)
    rintro r w5 ⟨rfl, hL⟩
    obtain ⟨L, hLL⟩ : ∃ x, x = Rd.loop1 Rd.rpar (Rd.arg fixed (n + 1)) (n + 1) (Rd.next s) := ⟨_, rfl⟩
    rw [← hLL] at hL
    have HLL := Lib.hid hLL
    have HL := Lib.hid hL
    clear k2 hLL hL
    have k2 : w5.cell? ⟨w.heap.size, 0, none⟩ = some (.pointer (some ⟨b, 0, none⟩)) := HL.out.1.cellx (T := 87) (by simp [abx])
    go_wp2_with fail
    refine (rwant_any b g L.1 Rd.rpar w5 HL.out.1.rd).mono ?_
    rintro r w6 ⟨rfl, h6, f6⟩
    have HL6 := Lib.hid (HL.out.1.step h6 f6)
    obtain ⟨v, hv, hg⟩ := HL6.out.ex
    obtain ⟨va, vc, rfl⟩ := hg.form
    have k3 := blk_cell hv 0 (.slice va (L.2.map Rd.A.d).length vc) rfl
    have HG := Lib.hid hg
    clear hv hg h6 f6 k2
    go_wp2_with fail
    go_ret
    rw [HE.out, ← HLL.out]
    refine ⟨va, vc, by simp, ?_, HL6.out.rd, HL6.out.fr⟩
    exact HG.out.reads.to (Stands.sub w6 (fun x _ hp => by
      rcases hp with hp | hp
      · have := hp.1; show w.heap.size ≤ x; omega
      · have := Nat.le_trans (LB_t6 _ _) (HG.out.lt x hp).1; show w.heap.size ≤ x; omega))
end Go.Proofs.YtabcaljnpahgpaaDoor
namespace Go.Proofs.YtabcaljnpahgpaaDoor
set_option linter.unusedSimpArgs false
set_option linter.unusedVariables false
open Go Go.RowKit

/-- A row of data of the call's own, beside the reader. -/
structure GI (w0 : World) (b g : Nat) (E : TypeId) (k : Nat) (s : Rd.St) (v : Value) (ds : List D) (w : World) : Prop where
  rd : RdAt w b g s
  row : Grows w (fun x => w0.heap.size ≤ x ∧ v.ownBlock ≠ some x) w0.heap.size E k v ds
  fr : Fr b w0 w
  lb : b < w0.heap.size
  lg : g < w0.heap.size
section
variable {w0 w w' w8 : World} {b g k : Nat} {E : TypeId} {s s' : Rd.St} {v v' : Value} {ds : List D} {d : D} {cs xs : List Value}
theorem GI.nil (h : RdAt w b g s) (E : TypeId) (k : Nat) : GI w b g E k s (.slice none 0 0) [] w :=
  ⟨h, Grows.nil _ _ _ _ _, But.refl _ _, h.lt.1, h.lt.2⟩
theorem GI.step (h : GI w0 b g E k s v ds w) (hr : RdAt w' b g s') (hf : Fr b w w') : GI w0 b g E k s' v ds w' := by
  have lb := h.lb
  have hs := h.fr.size
  exact ⟨hr, h.row.to ⟨hf.size, fun x hx hp => ⟨hp, hf.block x hx (by omega)⟩⟩ (fun x hx => ⟨fun hp => hp.2 hx, hf.block x (h.row.lt x hx).2 (by have := (h.row.lt x hx).1; omega)⟩), h.fr.trans hf, h.lb, h.lg⟩
theorem GI.below (h : GI w0 b g E k s v ds w) (hb : Below w.heap.size w w') : GI w0 b g E k s v ds w' := h.step (h.rd.below hb) (But.of_below hb)
/-- One more. -/
theorem GI.more (h : GI w0 b g E k s v ds w) (hx : w.ownsRow w0.heap.size E k v ds.length xs) (hR : RowsD w (fun x => w0.heap.size ≤ x ∧ v.ownBlock ≠ some x) k ds xs) (hd : Reads w (fun x => w0.heap.size ≤ x ∧ v.ownBlock ≠ some x) d cs)
    (hlen : cs.length = k) (hg : w.grownBy w8 v.ownBlock) (hloc : v'.ownBlock = v.ownBlock ∨ v'.ownBlock = some w.heap.size) (hrow : w8.ownsRow w0.heap.size E k v' (ds.length + 1) (xs ++ cs)) : GI w0 b g E k s v' (ds ++ [d]) w8 := by
  have lb := h.lb
  have lg := h.lg
  have hlt := hx.lt
  have e8 : ∀ x, x < w.heap.size → v.ownBlock ≠ some x → w8.heap[x]? = w.heap[x]? := fun x hx3 hn => hg.block x hx3 (fun e => hn e.symm)
  have low : ∀ x, x < w0.heap.size → v.ownBlock ≠ some x := fun x hx2 e => by have := hlt x e; omega
  have hst : Stands w (fun x => w0.heap.size ≤ x ∧ v.ownBlock ≠ some x) w8 (fun x => w0.heap.size ≤ x ∧ v'.ownBlock ≠ some x) := ⟨hg.size, fun x hx2 hp => ⟨⟨hp.1, fun e => by
    rcases hloc with e2 | e2
    · exact hp.2 (by rw [← e2]; exact e)
    · rw [e2] at e
      simp only [Option.some.injEq] at e
      omega⟩, e8 x hx2 hp.2⟩⟩
  refine ⟨h.rd.to hg.size (e8 b h.rd.lt.1 (low b lb)) (e8 g h.rd.lt.2 (low g lg)), ⟨⟨xs ++ cs, ?_, (hR.to hst).snoc (hd.to hst) hlen⟩, fun x e hp => hp.2 e⟩, ⟨hg.os.trans h.fr.os, hg.tape.trans h.fr.tape, hg.output.trans h.fr.output, Nat.le_trans h.fr.size hg.size, fun x hx3 hxb => by rw [e8 x (Nat.lt_of_lt_of_le hx3 h.fr.size) (low x hx3)]; exact h.fr.block x hx3 hxb⟩, lb, lg⟩
  rw [List.length_append]
  exact hrow
/-- The row, told as data. -/
theorem GI.reads (h : GI w0 b g E k s v ds w) : Reads w (fun x => w0.heap.size ≤ x) (.seq k ds) [v] :=
  h.row.reads.to (Stands.sub w (fun x _ hp => by
    rcases hp with hp | hp
    · exact hp.1
    · exact (h.row.lt x hp).1))
/-- A callee's data, as the row takes them. -/
theorem GI.data (h : GI w0 b g E k s v ds w) (hd : Reads w' (fun x => w.heap.size ≤ x) d cs) : Reads w' (fun x => w0.heap.size ≤ x ∧ v.ownBlock ≠ some x) d cs :=
  hd.to (Stands.sub w' (fun x _ hp => ⟨Nat.le_trans h.fr.size hp, fun e => by have h1 := (h.row.lt x e).2; have h2 : w.heap.size ≤ x := hp; omega⟩))
end
end Go.Proofs.YtabcaljnpahgpaaDoor
namespace Go.Proofs.YtabcaljnpahgpaaDoor
set_option linter.unusedSimpArgs false
set_option linter.unusedVariables false
open Go Go.RowKit

theorem chain_toks {s : ByteArray} : ∀ {ts : List Lx.Tok} {p q : Nat}, Chain s p ts q → ∀ t ∈ ts, t.kind ≤ 5 ∧ 1 ≤ t.kind ∧ t.at_ < s.size
  | [], _, _, _, t, ht => by simp at ht
  | x :: ts, p, q, h, t, ht => by
    rcases List.mem_cons.1 ht with rfl | ht
    · exact ⟨h.1.k5, h.1.k1, h.1.hi⟩
    · exact chain_toks h.2 t ht
theorem lex_size {l : List UInt8} {ts : List Lx.Tok} (h : Lx.lex l = .ok ts) : l.length ≤ 4096 := by
  unfold Lx.lex at h
  split at h
  · cases h
  · omega
theorem tsOk_of {s : ByteArray} {ts : List Lx.Tok} (h : Lx.lex s.data.toList = .ok ts) (hs : Std s ts) : TsOk ts ∧ 0 < ts.length := by
  have hl : s.size ≤ 4096 := lex_size h
  obtain ⟨pre, rfl, hch⟩ := hs.chain
  have hg : ∀ t ∈ pre, t.text.length ≤ 1000000000 := by
    have h2 := h
    unfold Lx.lex at h2
    rw [if_neg (by have : s.data.toList.length = s.size := rfl; omega)] at h2
    obtain ⟨pre2, e, hp⟩ := Lx.lexGo_good _ _ _ _ _ (by have : s.data.toList.length = s.size := rfl; omega) h2
    rw [List.nil_append] at e
    have : pre = pre2 := (List.append_inj_left' e rfl)
    subst this
    exact fun t ht => (hp t ht).2
  have hm : ∀ t ∈ pre ++ [(⟨0, [], s.size⟩ : Lx.Tok)], t ∈ pre ∨ t = ⟨0, [], s.size⟩ := fun t ht => by simpa using ht
  refine ⟨⟨hs.len, fun t ht => ?_, fun t ht => ?_, fun t ht => ?_, fun t ht => ?_⟩, by simp⟩
  · rw [List.length_append, List.length_singleton, Nat.add_sub_cancel, List.getElem?_append_right (Nat.le_refl _), Nat.sub_self] at ht
    simp at ht
    rw [← ht]
  · rcases hm t ht with h | rfl
    · exact (chain_toks hch t h).1
    · simp
  · rcases hm t ht with h | rfl
    · exact hg t h
    · simp
  · rcases hm t ht with h | rfl
    · have := (chain_toks hch t h).2.2; omega
    · exact hl

/-- Where the tokens of a text stand, if they are tokens. -/
def StdAll (l : List UInt8) : Prop := ∀ ts, Lx.lex l = .ok ts → Std ⟨l.toArray⟩ ts
/-- What 'New' leaves. -/
def NewPost (l : List UInt8) (w : World) (r : Ending) (w' : World) : Prop :=
  Below w.heap.size w w' ∧ StdAll l ∧ ∃ (g cap : Nat) (ts : List Lx.Tok) (a e : Nat), r = .returned (.agg #[.slice (some ⟨g, 0, none⟩) ts.length cap, .int .i64 0, .int .i64 0, .int .i64 a, .int .i64 e]) ∧ w.heap.size ≤ g ∧ TokRow w' g ts ∧ TsOk ts ∧ 0 < ts.length ∧
    Rd.begin_ l = ⟨ts, 0, a, e⟩
/-- A reader laid in memory. -/
theorem NewPost.rdAt {l : List UInt8} {w : World} {b g cap : Nat} {ts : List Lx.Tok} {a e : Nat} {T : TypeId} (hb : w.heap[b]? = some (.cells #[.slice (some ⟨g, 0, none⟩) ts.length cap, .int .i64 0, .int .i64 0, .int .i64 a, .int .i64 e] T (0, 0)))
    (hr : TokRow w g ts) (hne : g ≠ b) (hok : TsOk ts) (hpos : 0 < ts.length) (hbg : Rd.begin_ l = ⟨ts, 0, a, e⟩) : RdAt w b g (Rd.begin_ l) := by
  rw [hbg]
  exact ⟨⟨T, cap, ts, 0, hb, hr, rfl, hpos, hok⟩, hne⟩

theorem new_below {w w1 : World} (hb : Below w.heap.size w w1) (cs : List Value) : Below w.heap.size w (putCells w1 w.heap.size 0 cs) := by
  have ho := putCells_os w.heap.size cs 0 w1
  exact ⟨ho.1.trans hb.os, ho.2.1.trans hb.tape, ho.2.2.trans hb.output, by rw [putCells_size]; exact hb.size, fun k hk => by rw [putCells_ne _ _ (by omega)]; exact hb.block k hk⟩
theorem new_row {w1 : World} {g x : Nat} {ts : List Lx.Tok} (h : TokRow w1 g ts) (hne : g ≠ x) (cs : List Value) : TokRow (putCells w1 x 0 cs) g ts :=
  h.heap (by rw [putCells_size]; exact Nat.le_refl _) (putCells_ne _ _ hne _ _ _)
theorem row_one (w : World) (T : TypeId) : TokRow (w.alloc (.cells #[.int .i64 0, .string ⟨#[]⟩, .int .i64 0] T)) w.heap.size [⟨0, [], 0⟩] := by
  refine ⟨by simp, fun i t ht => ?_, fun i t ht => ?_, fun i t ht => ?_⟩ <;>
  · have hi : i = 0 := by have := (List.getElem?_eq_some_iff.1 ht).1; simp at this; omega
    subst hi
    simp at ht
    subst ht
    exact cell_at_new _ _ _ _ _ _ rfl
theorem tsOk_one : TsOk [(⟨0, [], 0⟩ : Lx.Tok)] := ⟨by simp, fun t ht => by simp at ht; rw [← ht], fun t ht => by simp at ht; subst ht; simp, fun t ht => by simp at ht; subst ht; simp, fun t ht => by simp at ht; subst ht; simp⟩

set_option maxHeartbeats 1000000 in
set_option maxRecDepth 100000 in
theorem rnew_any (s : ByteArray) (w : World) (hs : s.size ≤ 9223372036854775807) (hE : Env w) (h3 : 3 ≤ w.heap.size) :
    Calls Tryd.prog 12 #[.string s] w (NewPost s.data.toList w) := by
  have HE := Lib.hid hE
  have hba : Below w.heap.size w (w.alloc (.cells #[.slice none 0 0, .int .i64 0, .int .i64 0, .int .i64 0, .int .i64 0] 63)) := (Below.refl _ _).alloc (Nat.le_refl _) _
  have HBA := Lib.hid hba
  have hz1 := hba.size
  clear hE
  go_enter Tryd.func12, Tryd.ntmps12
  go_wp2_with fail
  refine (lex_any s _ hs (HE.out.below hba) (by omega)).mono ?_
  rintro r w1 ⟨hb1, hres⟩
  clear hba
  have HB1 := Lib.hid (HBA.out.trans (hb1.mono HBA.out.size))
  have HZ : Hid (w1.heap[w.heap.size]? = some (.cells #[.slice none 0 0, .int .i64 0, .int .i64 0, .int .i64 0, .int .i64 0] 63 (0, 0))) := Lib.hid (by rw [hb1.block w.heap.size (by simp)]; exact heap_at_new _ _)
  have HS1 := Lib.hid hb1.size
  clear hb1
  have z0 := blk_cell HZ.out 0 (.slice none 0 0) rfl
  have z1 := blk_cell HZ.out 1 (.int .i64 0) rfl
  have z2 := blk_cell HZ.out 2 (.int .i64 0) rfl
  have z3 := blk_cell HZ.out 3 (.int .i64 0) rfl
  have z4 := blk_cell HZ.out 4 (.int .i64 0) rfl
  have f0 := blk_free HZ.out 0
  have f1 := blk_free HZ.out 1
  have f2 := blk_free HZ.out 2
  have f3 := blk_free HZ.out 3
  have f4 := blk_free HZ.out 4
  rcases hres with ⟨ts, v, hlx, rfl, ht, hstd⟩ | ⟨a, c, hlx, rfl, hc⟩
  · obtain ⟨hok, hpos⟩ := tsOk_of hlx hstd
    obtain ⟨g, cap, rfl, hg, hrow⟩ := ht.openRow hpos
    have HSTD : Hid (StdAll s.data.toList) := Lib.hid fun ts' h' => by
      rw [hlx] at h'
      obtain rfl := Lx.Res.ok.inj h'
      exact hstd
    have HOK := Lib.hid hok
    have HLX := Lib.hid hlx
    have HROW := Lib.hid hrow
    have HGS := Lib.hid hg
    clear hok hlx hrow ht hstd hg
    have hgx : g ≠ w.heap.size := by have := HGS.out; simp at this; omega
    have HP1 := Lib.hid (new_below HB1.out [.slice (some ⟨g, 0, none⟩) ts.length cap, .int .i64 0, .int .i64 0, .int .i64 0, .int .i64 0])
    have HP2 := Lib.hid (new_row HROW.out hgx [.slice (some ⟨g, 0, none⟩) ts.length cap, .int .i64 0, .int .i64 0, .int .i64 0, .int .i64 0])
    go_wp2_with fail
    have p1 := HP1.out
    have p2 := HP2.out
    simp only [putCells, Nat.reduceAdd, Nat.zero_add] at p1 p2
    refine bodyPost_ret (v := .agg #[.slice (some ⟨g, 0, none⟩) ts.length cap, .int .i64 0, .int .i64 0, .int .i64 0, .int .i64 0]) (by simp [results, Tryd.results12, go_sem, z0, z1, z2, z3, z4]) rfl ?_
    exact ⟨p1, HSTD.out, g, cap, ts, 0, 0, rfl, by have := HGS.out; simp at this; omega, p2, HOK.out, hpos, by unfold Rd.begin_; rw [HLX.out]⟩
  · have hce : ((c : Int) != 0) = true := neT (by omega)
    have hlit : Below w1.heap.size w1 (w1.alloc (.cells #[.int .i64 0, .string ⟨#[]⟩, .int .i64 0] 68)) := (Below.refl _ _).alloc (Nat.le_refl _) _
    have HP1 := Lib.hid (new_below (HB1.out.trans (hlit.mono HB1.out.size)) [.slice (some ⟨w1.heap.size, 0, none⟩) 1 1, .int .i64 0, .int .i64 0, .int .i64 a, .int .i64 c])
    have hgx : w1.heap.size ≠ w.heap.size := by have := HS1.out; simp at this; omega
    have n1 : ¬ w1.heap.size = w.heap.size := hgx
    have n2 : ¬ w.heap.size = w1.heap.size := fun e => hgx e.symm
    have HP2 := Lib.hid (new_row (row_one w1 68) hgx [.slice (some ⟨w1.heap.size, 0, none⟩) 1 1, .int .i64 0, .int .i64 0, .int .i64 a, .int .i64 c])
    have HLX := Lib.hid hlx
    have HSZ := Lib.hid HB1.out.size
    have HZ2 : Hid ((w1.alloc (.cells #[.int .i64 0, .string ⟨#[]⟩, .int .i64 0] 68)).heap[w.heap.size]? = some (.cells #[.slice none 0 0, .int .i64 0, .int .i64 0, .int .i64 0, .int .i64 0] 63 (0, 0))) := Lib.hid (by
      rw [Lib.alloc_old _ _ _ (by have := HS1.out; simp at this; omega)]; exact HZ.out)
    clear hlit hlx z0 z1 z2 z3 z4 f0 f1 f2 f3 f4
    have z0 := blk_cell HZ2.out 0 (.slice none 0 0) rfl
    have z1 := blk_cell HZ2.out 1 (.int .i64 0) rfl
    have z2 := blk_cell HZ2.out 2 (.int .i64 0) rfl
    have z3 := blk_cell HZ2.out 3 (.int .i64 0) rfl
    have z4 := blk_cell HZ2.out 4 (.int .i64 0) rfl
    have f0 := blk_free HZ2.out 0
    have f1 := blk_free HZ2.out 1
    have f2 := blk_free HZ2.out 2
    have f3 := blk_free HZ2.out 3
    have f4 := blk_free HZ2.out 4
    go_wp2_with fail
    have p1 := HP1.out
    have p2 := HP2.out
    simp only [putCells, Nat.reduceAdd, Nat.zero_add] at p1 p2
    refine bodyPost_ret (v := .agg #[.slice (some ⟨w1.heap.size, 0, none⟩) 1 1, .int .i64 0, .int .i64 0, .int .i64 a, .int .i64 c]) (by simp [results, Tryd.results12, go_sem, z0, z1, z2, z3, z4]) rfl ?_
    exact ⟨p1, (fun ts' h' => by rw [HLX.out] at h'; cases h'), w1.heap.size, 1, [⟨0, [], 0⟩], a, c, rfl, HSZ.out, p2, tsOk_one, by simp, by unfold Rd.begin_; rw [HLX.out]⟩
end Go.Proofs.YtabcaljnpahgpaaDoor
