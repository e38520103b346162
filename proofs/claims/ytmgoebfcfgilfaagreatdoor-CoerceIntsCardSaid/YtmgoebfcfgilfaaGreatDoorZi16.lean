/-
  The reader: Arg, walked. The reader: Value, walked.
-/
import Derived.Test.YtmgoebfcfgilfaaGreatDoorZi15
namespace Go.Proofs.YtmgoebfcfgilfaaGreatDoor
set_option linter.unusedSimpArgs false
set_option linter.unusedVariables false
open Go Go.RowKit

theorem blk_cell {w : World} {b : Nat} {cs : Array Value} {T : TypeId} {fz : Nat × Nat} (h : w.heap[b]? = some (.cells cs T fz)) (j : Nat) (v : Value) (hj : cs[j]? = some v) : w.cell? ⟨b, j, none⟩ = some v := by
  unfold World.cell?
  rw [h]
  exact hj
theorem blk_free {w : World} {b : Nat} {cs : Array Value} {T : TypeId} (h : w.heap[b]? = some (.cells cs T (0, 0))) (j : Nat) : w.frozen? ⟨b, j, none⟩ = false := by
  unfold World.frozen?
  rw [h]
  simp
theorem Got.fr {b g : Nat} {w w1 : World} {d : D} {s : Rd.St} {r : Ending} {w' : World} (h : Got b g w1 d s r w') (hs : w.heap.size ≤ w1.heap.size) : ∃ cs : List Value, r = .returned (.agg cs.toArray) ∧ Reads w' (fun x => w.heap.size ≤ x) d cs ∧ RdAt w' b g s ∧ Fr b w1 w' := by
  obtain ⟨cs, h1, h2, h3, h4⟩ := h
  exact ⟨cs, h1, h2.to (Stands.sub w' (fun x _ hp => Nat.le_trans hs hp)), h3, h4⟩

set_option maxHeartbeats 1000000 in
set_option maxRecDepth 100000 in
theorem rarg_any (b g : Nat) (fixed : Bool) (m : Nat) (s : Rd.St) (w : World) (h : RdAt w b g s)
    (hval : ∀ w', RdAt w' b g (Rd.want Rd.colon (Rd.name s).1) → Calls Tryz.prog 107 #[.pointer (some ⟨b, 0, none⟩), .bool fixed] w' (Got b g w' (Rd.value fixed m (Rd.want Rd.colon (Rd.name s).1)).2.d (Rd.value fixed m (Rd.want Rd.colon (Rd.name s).1)).1)) :
    Calls Tryz.prog 160 #[.pointer (some ⟨b, 0, none⟩), .bool fixed] w (Got b g w (Rd.arg fixed m s).2.d (Rd.arg fixed m s).1) := by
  have hlb := h.lt
  have H := Lib.hid h
  have HVAL := Lib.hid hval
  have hba : Below w.heap.size w (w.alloc (.cells #[.string ⟨#[]⟩, .int .i64 0, .string ⟨#[]⟩, .slice none 0 0, .slice none 0 0, .int .i64 0, .int .i64 0] 219)) := (Below.refl _ _).alloc (Nat.le_refl _) _
  have HA := Lib.hid hba
  clear h hval hba
  go_enter Tryz.func160, Tryz.ntmps160
  go_wp2_with fail
  refine (rpeek_any b g s _ (H.out.below HA.out)).mono ?_
  rintro r w1 ⟨rfl, hb1⟩
  have HB1 := Lib.hid (HA.out.trans (hb1.mono HA.out.size))
  have HS1 := Lib.hid hb1.size
  have HZ1 : Hid (w1.heap[w.heap.size]? = some (.cells #[.string ⟨#[]⟩, .int .i64 0, .string ⟨#[]⟩, .slice none 0 0, .slice none 0 0, .int .i64 0, .int .i64 0] 219 (0, 0))) := Lib.hid (by rw [hb1.block w.heap.size (by simp)]; exact heap_at_new _ _)
  obtain ⟨pa, hpa⟩ : ∃ x, x = (Rd.peek s).at_ := ⟨_, rfl⟩
  rw [← hpa]
  have HPA := Lib.hid hpa
  clear hb1 hpa
  go_wp2_with fail
  refine (rname_any b g s w1 (H.out.below HB1.out)).mono ?_
  rintro r w2 ⟨rfl, h2, f2⟩
  obtain ⟨nm, hnm⟩ : ∃ x : ByteArray, x = ⟨(Rd.name s).2.toArray⟩ := ⟨_, rfl⟩
  rw [← hnm]
  have HNM := Lib.hid hnm
  have H2 := Lib.hid h2
  have F2 := Lib.hid ((But.of_below HB1.out).trans f2)
  have HF12 := Lib.hid f2
  clear h2 f2 hnm
  have hbb : Below w2.heap.size w2 (w2.alloc (.cells #[.string nm, .int .i64 0, .string ⟨#[]⟩, .slice none 0 0, .slice none 0 0, .int .i64 0, .int .i64 pa] 219)) := (Below.refl _ _).alloc (Nat.le_refl _) _
  have HBB := Lib.hid hbb
  clear hbb
  go_wp2_with fail
  refine (rwant_any b g (Rd.name s).1 Rd.colon _ (H2.out.below HBB.out)).mono ?_
  rintro r w3 ⟨rfl, h3, f3⟩
  have H3 := Lib.hid h3
  have F3 := Lib.hid f3
  clear h3 f3
  go_wp2_with fail
  refine (HVAL.out w3 H3.out).mono ?_
  rintro r w4 hgot
  obtain ⟨cs, rfl, hrd, hr4, hf4⟩ := hgot
  obtain ⟨k, a, t, a1, a2, n1', c1, n2', c2, rfl⟩ := V_cells hrd
  have HRD := Lib.hid hrd
  have HR4 := Lib.hid hr4
  have HF4 := Lib.hid hf4
  clear hrd hr4 hf4
  have hF34 : Fr b (w2.alloc (.cells #[.string nm, .int .i64 0, .string ⟨#[]⟩, .slice none 0 0, .slice none 0 0, .int .i64 0, .int .i64 pa] 219)) w4 := F3.out.trans HF4.out
  have g2 : w2.heap.size < (w2.alloc (.cells #[.string nm, .int .i64 0, .string ⟨#[]⟩, .slice none 0 0, .slice none 0 0, .int .i64 0, .int .i64 pa] 219)).heap.size := by simp
  have s2 := F2.out.size
  have sA : w.heap.size < w1.heap.size := by have := HB1.out; have h1 : (w.alloc (.cells #[.string ⟨#[]⟩, .int .i64 0, .string ⟨#[]⟩, .slice none 0 0, .slice none 0 0, .int .i64 0, .int .i64 0] 219)).heap.size ≤ w1.heap.size := HS1.out; simp at h1; omega
  have HY4 : Hid (w4.heap[w2.heap.size]? = some (.cells #[.string nm, .int .i64 0, .string ⟨#[]⟩, .slice none 0 0, .slice none 0 0, .int .i64 0, .int .i64 pa] 219 (0, 0))) :=
    Lib.hid (by rw [hF34.block w2.heap.size g2 (by omega)]; exact heap_at_new _ _)
  have HZ4 : Hid (w4.heap[w.heap.size]? = some (.cells #[.string ⟨#[]⟩, .int .i64 0, .string ⟨#[]⟩, .slice none 0 0, .slice none 0 0, .int .i64 0, .int .i64 0] 219 (0, 0))) :=
    Lib.hid (by
      have e2 : w2.heap[w.heap.size]? = w1.heap[w.heap.size]? := HF12.out.block w.heap.size sA (by omega)
      rw [hF34.block w.heap.size (by omega) (by omega), HBB.out.block w.heap.size (by have := HF12.out.size; omega), e2]
      exact HZ1.out)
  have z0 := blk_cell HZ4.out 0 (.string ⟨#[]⟩) rfl
  have zf0 := blk_free HZ4.out 0
  have y0 := blk_cell HY4.out 0 (.string nm) rfl
  have yf0 := blk_free HY4.out 0
  have z1 := blk_cell HZ4.out 1 (.int .i64 0) rfl
  have zf1 := blk_free HZ4.out 1
  have y1 := blk_cell HY4.out 1 (.int .i64 0) rfl
  have yf1 := blk_free HY4.out 1
  have z2 := blk_cell HZ4.out 2 (.string ⟨#[]⟩) rfl
  have zf2 := blk_free HZ4.out 2
  have y2 := blk_cell HY4.out 2 (.string ⟨#[]⟩) rfl
  have yf2 := blk_free HY4.out 2
  have z3 := blk_cell HZ4.out 3 (.slice none 0 0) rfl
  have zf3 := blk_free HZ4.out 3
  have y3 := blk_cell HY4.out 3 (.slice none 0 0) rfl
  have yf3 := blk_free HY4.out 3
  have z4 := blk_cell HZ4.out 4 (.slice none 0 0) rfl
  have zf4 := blk_free HZ4.out 4
  have y4 := blk_cell HY4.out 4 (.slice none 0 0) rfl
  have yf4 := blk_free HY4.out 4
  have z5 := blk_cell HZ4.out 5 (.int .i64 0) rfl
  have zf5 := blk_free HZ4.out 5
  have y5 := blk_cell HY4.out 5 (.int .i64 0) rfl
  have yf5 := blk_free HY4.out 5
  have z6 := blk_cell HZ4.out 6 (.int .i64 0) rfl
  have zf6 := blk_free HZ4.out 6
  have y6 := blk_cell HY4.out 6 (.int .i64 pa) rfl
  have yf6 := blk_free HY4.out 6
  have n1 : ¬ w.heap.size = w2.heap.size := by have := HF12.out.size; omega
  have n2 : ¬ w2.heap.size = w.heap.size := fun e => n1 e.symm
  have g3 : w2.heap.size < w3.heap.size := Nat.lt_of_lt_of_le g2 F3.out.size
  have g1 : w.heap.size ≤ w2.heap.size := by have := HF12.out.size; omega
  have HFIN : Hid (Reads (putCells (putCells w4 w2.heap.size 1 [.int .i64 k, .string t, .slice a1 n1' c1, .slice a2 n2' c2, .int .i64 a]) w.heap.size 0 [.string nm, .int .i64 k, .string t, .slice a1 n1' c1, .slice a2 n2' c2, .int .i64 a, .int .i64 pa]) (fun x => w.heap.size ≤ x) (Rd.arg fixed m s).2.d [.string nm, .int .i64 k, .string t, .slice a1 n1' c1, .slice a2 n2' c2, .int .i64 a, .int .i64 pa] ∧
      RdAt (putCells (putCells w4 w2.heap.size 1 [.int .i64 k, .string t, .slice a1 n1' c1, .slice a2 n2' c2, .int .i64 a]) w.heap.size 0 [.string nm, .int .i64 k, .string t, .slice a1 n1' c1, .slice a2 n2' c2, .int .i64 a, .int .i64 pa]) b g (Rd.arg fixed m s).1 ∧
      Fr b w (putCells (putCells w4 w2.heap.size 1 [.int .i64 k, .string t, .slice a1 n1' c1, .slice a2 n2' c2, .int .i64 a]) w.heap.size 0 [.string nm, .int .i64 k, .string t, .slice a1 n1' c1, .slice a2 n2' c2, .int .i64 a, .int .i64 pa])) := by
    obtain ⟨W', hW'⟩ : ∃ W', W' = putCells (putCells w4 w2.heap.size 1 [.int .i64 k, .string t, .slice a1 n1' c1, .slice a2 n2' c2, .int .i64 a]) w.heap.size 0 [.string nm, .int .i64 k, .string t, .slice a1 n1' c1, .slice a2 n2' c2, .int .i64 a, .int .i64 pa] := ⟨_, rfl⟩
    rw [← hW']
    have hk : ∀ x, x ≠ w.heap.size → x ≠ w2.heap.size → W'.heap[x]? = w4.heap[x]? := fun x h1 h2 => by rw [hW', putCells_ne _ _ h1, putCells_ne _ _ h2]
    have hsz : W'.heap.size = w4.heap.size := by rw [hW', putCells_size, putCells_size]
    have ho : W'.os = w4.os ∧ W'.tape = w4.tape ∧ W'.output = w4.output := by
      rw [hW']
      have p1 := putCells_os w.heap.size [.string nm, .int .i64 k, .string t, .slice a1 n1' c1, .slice a2 n2' c2, .int .i64 a, .int .i64 pa] 0 (putCells w4 w2.heap.size 1 [.int .i64 k, .string t, .slice a1 n1' c1, .slice a2 n2' c2, .int .i64 a])
      have p2 := putCells_os w2.heap.size [.int .i64 k, .string t, .slice a1 n1' c1, .slice a2 n2' c2, .int .i64 a] 1 w4
      exact ⟨p1.1.trans p2.1, p1.2.1.trans p2.2.1, p1.2.2.trans p2.2.2⟩
    have hst : Stands w4 (fun x => w3.heap.size ≤ x) W' (fun x => w.heap.size ≤ x) := ⟨by rw [hsz]; exact Nat.le_refl _, fun x hx hp => by
      have hp' : w3.heap.size ≤ x := hp
      exact ⟨by show w.heap.size ≤ x; omega, hk x (by omega) (by omega)⟩⟩
    have hf4 : Fr b w w4 := (F2.out.trans (But.of_below HBB.out)).trans hF34
    refine Lib.hid ⟨?_, HR4.out.to (by rw [hsz]; exact Nat.le_refl _) (hk b (by omega) (by omega)) (hk g (by omega) (by omega)), ⟨ho.1.trans hf4.os, ho.2.1.trans hf4.tape, ho.2.2.trans hf4.output, by rw [hsz]; exact hf4.size, fun x hx hxb => by
      rw [hk x (by omega) (by omega)]
      exact hf4.block x hx hxb⟩⟩
    show Reads W' _ (Rd.A.d (.mk (Rd.name s).2 _ (Rd.peek s).at_)) _
    rw [Rd.A.d, ← HPA.out, HNM.out]
    exact .obj (.cons (.str _) (.cons (HRD.out.to hst) (.cons (.int _) .nil)))
  go_wp2_with fail
  have hfin := HFIN.out
  simp only [putCells, Nat.reduceAdd, Nat.zero_add] at hfin
  refine bodyPost_ret (v := .agg #[.string nm, .int .i64 k, .string t, .slice a1 n1' c1, .slice a2 n2' c2, .int .i64 a, .int .i64 pa]) (by simp [results, Tryz.results160, go_sem, z0, z1, z2, z3, z4, z5, z6, n1, n2]) rfl ?_
  exact ⟨_, rfl, hfin⟩
end Go.Proofs.YtmgoebfcfgilfaaGreatDoor
namespace Go.Proofs.YtmgoebfcfgilfaaGreatDoor
set_option linter.unusedSimpArgs false
set_option linter.unusedVariables false
open Go Go.RowKit

/-- Within 'Value': its boxes, its result's place, the token at hand, the value being made. -/
structure VI (w0 : World) (b g t5 t6 : Nat) (fixed : Bool) (tk : Lx.Tok) (c6 : Array Value) (s : Rd.St) (w : World) : Prop where
  rd : RdAt w b g s
  b2 : w.heap[w0.heap.size]? = some (.cells #[.pointer (some ⟨b, 0, none⟩)] 151 (0, 0))
  b3 : w.heap[w0.heap.size + 1]? = some (.cells #[.bool fixed] 4 (0, 0))
  b4 : w.heap[w0.heap.size + 1 + 1]? = some (.cells #[.int .i64 0, .string ⟨#[]⟩, .slice none 0 0, .slice none 0 0, .int .i64 0] 49 (0, 0))
  b5 : w.heap[t5]? = some (.cells #[.int .i64 tk.kind, .string ⟨tk.text.toArray⟩, .int .i64 tk.at_] 87 (0, 0))
  b6 : w.heap[t6]? = some (.cells c6 49 (0, 0))
  fr : Fr b w0 w
  o5 : w0.heap.size + 3 ≤ t5
  o6 : t5 < t6
  lb : b < w0.heap.size
  lg : g < w0.heap.size
section
variable {w0 w w' : World} {b g t5 t6 : Nat} {fixed : Bool} {tk : Lx.Tok} {c6 : Array Value} {s s' : Rd.St}
theorem VI.step (h : VI w0 b g t5 t6 fixed tk c6 s w) (hr : RdAt w' b g s') (hf : Fr b w w') : VI w0 b g t5 t6 fixed tk c6 s' w' := by
  have lb := h.lb
  have o5 := h.o5
  have o6 := h.o6
  have e : ∀ x o, w.heap[x]? = some o → x ≠ b → w'.heap[x]? = some o := fun x o hx hb => by rw [hf.block x (block_lt hx) hb]; exact hx
  exact ⟨hr, e _ _ h.b2 (by omega), e _ _ h.b3 (by omega), e _ _ h.b4 (by omega), e _ _ h.b5 (by omega), e _ _ h.b6 (by omega), h.fr.trans hf, o5, o6, lb, h.lg⟩
theorem VI.below (h : VI w0 b g t5 t6 fixed tk c6 s w) (hb : Below w.heap.size w w') : VI w0 b g t5 t6 fixed tk c6 s w' := h.step (h.rd.below hb) (But.of_below hb)
theorem VI.put (h : VI w0 b g t5 t6 fixed tk c6 s w) (j : Nat) (v : Value) : VI w0 b g t5 t6 fixed tk (c6.setIfInBounds j v) s (w.setCell ⟨t6, j, none⟩ v) := by
  have lb := h.lb
  have lg := h.lg
  have o5 := h.o5
  have o6 := h.o6
  refine ⟨h.rd.set_ne (by omega) (by omega) _ _, by rw [heap_set_ne (by omega)]; exact h.b2, by rw [heap_set_ne (by omega)]; exact h.b3, by rw [heap_set_ne (by omega)]; exact h.b4, by rw [heap_set_ne (by omega)]; exact h.b5, heap_set1 h.b6, ?_, o5, o6, lb, lg⟩
  exact h.fr.setCell (.inr (by show w0.heap.size ≤ t6; omega)) v
/-- The end: the value is copied to its place. -/
theorem VI.fin {d : D} {cs : List Value} {P : Nat → Prop} (h : VI w0 b g t5 t6 fixed tk cs.toArray s w) (hd : Reads w P d cs) (hP : ∀ x, P x → t6 < x) :
    Reads (putCells w (w0.heap.size + 1 + 1) 0 cs) (fun x => w0.heap.size ≤ x) d cs ∧ RdAt (putCells w (w0.heap.size + 1 + 1) 0 cs) b g s ∧ Fr b w0 (putCells w (w0.heap.size + 1 + 1) 0 cs) := by
  have lb := h.lb
  have lg := h.lg
  have o5 := h.o5
  have o6 := h.o6
  have hk : ∀ x, x ≠ w0.heap.size + 1 + 1 → (putCells w (w0.heap.size + 1 + 1) 0 cs).heap[x]? = w.heap[x]? := fun x h1 => putCells_ne _ _ h1 _ _ _
  have hsz := putCells_size (w0.heap.size + 1 + 1) cs 0 w
  have ho := putCells_os (w0.heap.size + 1 + 1) cs 0 w
  refine ⟨hd.to ⟨by rw [hsz]; exact Nat.le_refl _, fun x hx hp => ⟨by have := hP x hp; show w0.heap.size ≤ x; omega, hk x (by have := hP x hp; omega)⟩⟩, h.rd.to (by rw [hsz]; exact Nat.le_refl _) (hk b (by omega)) (hk g (by omega)), ⟨ho.1.trans h.fr.os, ho.2.1.trans h.fr.tape, ho.2.2.trans h.fr.output, by rw [hsz]; exact h.fr.size, fun x hx hxb => by
    rw [hk x (by omega)]
    exact h.fr.block x hx hxb⟩⟩
theorem leaf_reads (w : World) (k at_ : Nat) (t : List UInt8) : Reads w (fun _ => False) (Rd.V.d (.mk k t [] [] at_)) [.int .i64 k, .string ⟨t.toArray⟩, .slice none 0 0, .slice none 0 0, .int .i64 at_] := by
  rw [Rd.V.d, Rd.V.dl, Rd.A.dl]
  exact .obj (.cons (.int _) (.cons (.str _) (.cons (cs := [.slice none 0 0]) (.seq (cap := 0) .nil) (.cons (cs := [.slice none 0 0]) (.seq (cap := 0) .nil) (.cons (.int _) .nil)))))
end
theorem ris1N_any (b g N : Nat) (s : Rd.St) (c : List UInt8) (T : TypeId) (w : World) (h : RdAt w b g s) (hN : N = w.heap.size) :
    Calls Tryz.prog 61 #[.pointer (some ⟨b, 0, none⟩), .slice (some ⟨N, 0, none⟩) 1 1] (w.alloc (.cells #[.string ⟨c.toArray⟩] T)) fun r w' => r = .returned (.bool (Rd.isS s c)) ∧ Below w.heap.size w w' := by
  subst hN
  exact ris1_any b g s c T w h

/-- What is kept while items or fields are read. -/
def vbx (w0 : World) (b t5 : Nat) (fixed : Bool) (tk : Lx.Tok) : List Box :=
  [(w0.heap.size, .cells #[.pointer (some ⟨b, 0, none⟩)] 151 (0, 0)), (w0.heap.size + 1, .cells #[.bool fixed] 4 (0, 0)),
   (w0.heap.size + 1 + 1, .cells #[.int .i64 0, .string ⟨#[]⟩, .slice none 0 0, .slice none 0 0, .int .i64 0] 49 (0, 0)), (t5, .cells #[.int .i64 tk.kind, .string ⟨tk.text.toArray⟩, .int .i64 tk.at_] 87 (0, 0))]
def VLI {α : Type} (w0 : World) (b g t5 t6 : Nat) (fixed : Bool) (tk : Lx.Tok) (mk : Value → Array Value) (E : TypeId) (k : Nat) (dd : α → D) (m : Nat) (d1 : Int) (s : Rd.St) (out : List α) (w : World) : Prop :=
  LI w0 b g t6 (vbx w0 b t5 fixed tk) 49 mk E k s (out.map dd) w ∧ s.deep = d1 ∧ (s.err = 0 → s.rest.length ≤ m ∧ out.length + s.rest.length ≤ 1601) ∧ out.length ≤ 1602
theorem VLI.start {α : Type} {w0 w : World} {b g t5 t6 : Nat} {fixed : Bool} {tk : Lx.Tok} {mk : Value → Array Value} {E : TypeId} {k : Nat} {dd : α → D} {m : Nat} {s : Rd.St} (h : VI w0 b g t5 t6 fixed tk (mk (.slice none 0 0)) s w)
    (hm : s.err = 0 → s.rest.length ≤ m) (hm2 : m ≤ 1600) : VLI w0 b g t5 t6 fixed tk mk E k dd m s.deep s ([] : List α) w := by
  have o5 := h.o5
  have o6 := h.o6
  refine ⟨⟨h.rd, fun p hp => ?_, ⟨_, h.b6, Grows.nil _ _ _ _ _⟩, h.fr, h.lb, h.lg, fun p hp => ?_, by omega⟩, rfl, fun he => ⟨hm he, by have := hm he; simp; omega⟩, by simp⟩
  · unfold vbx at hp
    simp only [List.mem_cons, List.not_mem_nil, or_false] at hp
    rcases hp with rfl | rfl | rfl | rfl
    · exact h.b2
    · exact h.b3
    · exact h.b4
    · exact h.b5
  · unfold vbx at hp
    simp only [List.mem_cons, List.not_mem_nil, or_false] at hp
    rcases hp with rfl | rfl | rfl | rfl <;> (simp only; omega)
theorem VI.of_LI {w0 w : World} {b g t5 t6 : Nat} {fixed : Bool} {tk : Lx.Tok} {mk : Value → Array Value} {E : TypeId} {k : Nat} {ds : List D} {s : Rd.St} {v : Value} (h : LI w0 b g t6 (vbx w0 b t5 fixed tk) 49 mk E k s ds w) (o5 : w0.heap.size + 3 ≤ t5) (o6 : t5 < t6)
    (hv : w.heap[t6]? = some (.cells (mk v) 49 (0, 0))) : VI w0 b g t5 t6 fixed tk (mk v) s w :=
  ⟨h.rd, h.cb (w0.heap.size, _) (by simp [vbx]), h.cb (w0.heap.size + 1, _) (by simp [vbx]), h.cb (w0.heap.size + 1 + 1, _) (by simp [vbx]), h.cb (t5, _) (by simp [vbx]), hv, h.fr, o5, o6, h.lb, h.lg⟩
theorem enters_C1 (cap : Array Value) (w : World) : Sem.run Tryz.prog (callFunc 157 cap) w = .ok (.enter 157 cap) w := by kernel_rfl
theorem enters_C2 (cap : Array Value) (w : World) : Sem.run Tryz.prog (callFunc 159 cap) w = .ok (.enter 159 cap) w := by kernel_rfl
set_option maxHeartbeats 2000000 in
set_option maxRecDepth 100000 in
theorem rvalue_step (b g : Nat) (fixed : Bool) (n : Nat) (s : Rd.St) (w : World) (h : RdAt w b g s) (hn : s.rest.length ≤ n) (hnb : n ≤ 1600) (hd : 0 ≤ s.deep ∧ s.deep + n ≤ 900000)
    (ih : ∀ m, n = m + 1 → ∀ (s : Rd.St) (w : World), RdAt w b g s → s.rest.length ≤ m → 0 ≤ s.deep ∧ s.deep + m ≤ 900000 → Calls Tryz.prog 107 #[.pointer (some ⟨b, 0, none⟩), .bool fixed] w (Got b g w (Rd.value fixed (m + 1) s).2.d (Rd.value fixed (m + 1) s).1)) :
    Calls Tryz.prog 107 #[.pointer (some ⟨b, 0, none⟩), .bool fixed] w (Got b g w (Rd.value fixed (n + 1) s).2.d (Rd.value fixed (n + 1) s).1) := by
  obtain ⟨d0, d1⟩ := hd
  have hlb := h.lt
  have H := Lib.hid h
  have HIH := Lib.hid ih
  have hba : Below w.heap.size w (((w.alloc (.cells #[.pointer (some ⟨b, 0, none⟩)] 151)).alloc (.cells #[.bool fixed] 4)).alloc (.cells #[.int .i64 0, .string ⟨#[]⟩, .slice none 0 0, .slice none 0 0, .int .i64 0] 49)) :=
    (((Below.refl _ _).alloc (Nat.le_refl _) _).alloc (by simp) _).alloc (by simp; omega) _
  have hW0 : (((w.alloc (.cells #[.pointer (some ⟨b, 0, none⟩)] 151)).alloc (.cells #[.bool fixed] 4)).alloc (.cells #[.int .i64 0, .string ⟨#[]⟩, .slice none 0 0, .slice none 0 0, .int .i64 0] 49)).heap.size = w.heap.size + 3 := by simp
  have hA : (((w.alloc (.cells #[.pointer (some ⟨b, 0, none⟩)] 151)).alloc (.cells #[.bool fixed] 4)).alloc (.cells #[.int .i64 0, .string ⟨#[]⟩, .slice none 0 0, .slice none 0 0, .int .i64 0] 49)).heap[w.heap.size]? = some (.cells #[.pointer (some ⟨b, 0, none⟩)] 151 (0, 0)) := by
    rw [Lib.alloc_old _ _ _ (by simp; omega), Lib.alloc_old _ _ _ (by simp)]; exact heap_at_new _ _
  have hB : (((w.alloc (.cells #[.pointer (some ⟨b, 0, none⟩)] 151)).alloc (.cells #[.bool fixed] 4)).alloc (.cells #[.int .i64 0, .string ⟨#[]⟩, .slice none 0 0, .slice none 0 0, .int .i64 0] 49)).heap[w.heap.size + 1]? = some (.cells #[.bool fixed] 4 (0, 0)) := by
    rw [Lib.alloc_old _ _ _ (by simp)]
    have := heap_at_new (w.alloc (.cells #[.pointer (some ⟨b, 0, none⟩)] 151)) (.cells #[.bool fixed] 4)
    simpa using this
  have hC : (((w.alloc (.cells #[.pointer (some ⟨b, 0, none⟩)] 151)).alloc (.cells #[.bool fixed] 4)).alloc (.cells #[.int .i64 0, .string ⟨#[]⟩, .slice none 0 0, .slice none 0 0, .int .i64 0] 49)).heap[w.heap.size + 1 + 1]? = some (.cells #[.int .i64 0, .string ⟨#[]⟩, .slice none 0 0, .slice none 0 0, .int .i64 0] 49 (0, 0)) := by
    have := heap_at_new ((w.alloc (.cells #[.pointer (some ⟨b, 0, none⟩)] 151)).alloc (.cells #[.bool fixed] 4)) (.cells #[.int .i64 0, .string ⟨#[]⟩, .slice none 0 0, .slice none 0 0, .int .i64 0] 49)
    simpa using this
  have HA := Lib.hid hA
  have HB := Lib.hid hB
  have HC := Lib.hid hC
  have HW0 := Lib.hid hW0
  have HBA := Lib.hid hba
  clear h ih hba hA hB hC hW0
  go_enter Tryz.func107, Tryz.ntmps107
  have k2 := blk_cell HA.out 0 _ rfl
  go_wp2_with fail
  refine (rpeek_any b g s _ (H.out.below HBA.out)).mono ?_
  rintro r w1 ⟨rfl, hb1⟩
  obtain ⟨tk, htk⟩ : ∃ t, t = Rd.peek s := ⟨_, rfl⟩
  have HTK := Lib.hid htk
  rw [← htk]
  have hV0 : VI w b g w1.heap.size (w1.heap.size + 1) fixed tk #[.int .i64 0, .string ⟨#[]⟩, .slice none 0 0, .slice none 0 0, .int .i64 tk.at_] s ((w1.alloc (.cells #[.int .i64 tk.kind, .string ⟨tk.text.toArray⟩, .int .i64 tk.at_] 87)).alloc (.cells #[.int .i64 0, .string ⟨#[]⟩, .slice none 0 0, .slice none 0 0, .int .i64 tk.at_] 49)) := by
    have hsz := hb1.size
    rw [HW0.out] at hsz
    have hbb : Below w1.heap.size w1 ((w1.alloc (.cells #[.int .i64 tk.kind, .string ⟨tk.text.toArray⟩, .int .i64 tk.at_] 87)).alloc (.cells #[.int .i64 0, .string ⟨#[]⟩, .slice none 0 0, .slice none 0 0, .int .i64 tk.at_] 49)) := ((Below.refl _ _).alloc (Nat.le_refl _) _).alloc (by simp) _
    have e : ∀ x o, x < w.heap.size + 3 → (((w.alloc (.cells #[.pointer (some ⟨b, 0, none⟩)] 151)).alloc (.cells #[.bool fixed] 4)).alloc (.cells #[.int .i64 0, .string ⟨#[]⟩, .slice none 0 0, .slice none 0 0, .int .i64 0] 49)).heap[x]? = some o →
        ((w1.alloc (.cells #[.int .i64 tk.kind, .string ⟨tk.text.toArray⟩, .int .i64 tk.at_] 87)).alloc (.cells #[.int .i64 0, .string ⟨#[]⟩, .slice none 0 0, .slice none 0 0, .int .i64 tk.at_] 49)).heap[x]? = some o := fun x o hx ho => by
      rw [hbb.block x (by omega), hb1.block x (by rw [HW0.out]; exact hx)]
      exact ho
    have hbw : Below w.heap.size w w1 := HBA.out.trans (hb1.mono HBA.out.size)
    refine ⟨(H.out.below hbw).below hbb, e _ _ (by omega) HA.out, e _ _ (by omega) HB.out, e _ _ (by omega) HC.out, ?_, ?_, But.of_below (hbw.trans (hbb.mono hbw.size)), by omega, by omega, hlb.1, hlb.2⟩
    · rw [Lib.alloc_old _ _ _ (by simp)]; exact heap_at_new _ _
    · have := heap_at_new (w1.alloc (.cells #[.int .i64 tk.kind, .string ⟨tk.text.toArray⟩, .int .i64 tk.at_] 87)) (.cells #[.int .i64 0, .string ⟨#[]⟩, .slice none 0 0, .slice none 0 0, .int .i64 tk.at_] 49)
      simpa using this
  have HV0 := Lib.hid hV0
  clear hb1 htk hV0 k2
  have k2 := blk_cell HV0.out.b2 0 (.pointer (some ⟨b, 0, none⟩)) rfl
  go_wp2_with fail
  refine (ris1N_any b g _ s Rd.dollar _ _ HV0.out.rd (by simp)).mono ?_
  rintro r w2 ⟨rfl, hb2⟩
  have hV := HV0.out.below hb2
  obtain ⟨t6, ht6⟩ : ∃ x, x = w1.heap.size + 1 := ⟨_, rfl⟩
  obtain ⟨t5, ht5⟩ : ∃ x, x = w1.heap.size := ⟨_, rfl⟩
  rw [← ht6] at hV ⊢
  rw [← ht5] at hV ⊢
  have HV := Lib.hid hV
  have o5 := hV.o5
  have o6 := hV.o6
  have n1 : ¬ t6 = w.heap.size := by omega
  have n2 : ¬ w.heap.size = t6 := by omega
  have n3 : ¬ t6 = w.heap.size + 1 := by omega
  have n4 : ¬ w.heap.size + 1 = t6 := by omega
  have n5 : ¬ t6 = w.heap.size + 1 + 1 := by omega
  have n6 : ¬ w.heap.size + 1 + 1 = t6 := by omega
  have n7 : ¬ t6 = t5 := by omega
  have n8 : ¬ t5 = t6 := by omega
  clear hb2 ht5 ht6 hV k2 HV0
  obtain ⟨B1, hB1⟩ : ∃ B, B = Rd.isS s Rd.dollar := ⟨_, rfl⟩
  have HB1 := Lib.hid hB1
  rw [← hB1]
  clear hB1
  cases B1
  rotate_left
  · -- a variable
    have HE : Hid (Rd.value fixed (n + 1) s = ((Rd.name (Rd.next (if fixed then Rd.wrong s else s))).1, .mk 1 (Rd.name (Rd.next (if fixed then Rd.wrong s else s))).2 [] [] (Rd.peek s).at_)) := by
      unfold Rd.value
      dsimp only
      rw [if_pos HB1.out.symm]
      exact Lib.hid rfl
    have k2 := blk_cell HV.out.b2 0 (.pointer (some ⟨b, 0, none⟩)) rfl
    have k3 := blk_cell HV.out.b3 0 (.bool fixed) rfl
    have a0 := blk_cell HV.out.b5 0 (.int .i64 tk.kind) rfl
    have a1 := blk_cell HV.out.b5 1 (.string ⟨tk.text.toArray⟩) rfl
    have a2 := blk_cell HV.out.b5 2 (.int .i64 tk.at_) rfl
    have z0 := blk_cell HV.out.b4 0 (.int .i64 0) rfl
    have zf0 := blk_free HV.out.b4 0
    have y0 := blk_cell HV.out.b6 0 ((.int .i64 0)) rfl
    have yf0 := blk_free HV.out.b6 0
    have z1 := blk_cell HV.out.b4 1 (.string ⟨#[]⟩) rfl
    have zf1 := blk_free HV.out.b4 1
    have y1 := blk_cell HV.out.b6 1 ((.string ⟨#[]⟩)) rfl
    have yf1 := blk_free HV.out.b6 1
    have z2 := blk_cell HV.out.b4 2 (.slice none 0 0) rfl
    have zf2 := blk_free HV.out.b4 2
    have y2 := blk_cell HV.out.b6 2 ((.slice none 0 0)) rfl
    have yf2 := blk_free HV.out.b6 2
    have z3 := blk_cell HV.out.b4 3 (.slice none 0 0) rfl
    have zf3 := blk_free HV.out.b4 3
    have y3 := blk_cell HV.out.b6 3 ((.slice none 0 0)) rfl
    have yf3 := blk_free HV.out.b6 3
    have z4 := blk_cell HV.out.b4 4 (.int .i64 0) rfl
    have zf4 := blk_free HV.out.b4 4
    have y4 := blk_cell HV.out.b6 4 ((.int .i64 tk.at_)) rfl
    have yf4 := blk_free HV.out.b6 4
    cases fixed
    · skip
      go_wp2_with fail
      refine (rnext_any b g s w2 HV.out.rd).mono ?_
      rintro r w4 ⟨rfl, h4, f4⟩
      have HV4 := Lib.hid (HV.out.step h4 f4)
      clear h4 f4
      clear k2 k3 a0 a1 a2 z0 zf0 y0 yf0 z1 zf1 y1 yf1 z2 zf2 y2 yf2 z3 zf3 y3 yf3 z4 zf4 y4 yf4
      have k2 := blk_cell HV4.out.b2 0 (.pointer (some ⟨b, 0, none⟩)) rfl
      have k3 := blk_cell HV4.out.b3 0 (.bool false) rfl
      have a0 := blk_cell HV4.out.b5 0 (.int .i64 tk.kind) rfl
      have a1 := blk_cell HV4.out.b5 1 (.string ⟨tk.text.toArray⟩) rfl
      have a2 := blk_cell HV4.out.b5 2 (.int .i64 tk.at_) rfl
      have z0 := blk_cell HV4.out.b4 0 (.int .i64 0) rfl
      have zf0 := blk_free HV4.out.b4 0
      have y0 := blk_cell HV4.out.b6 0 ((.int .i64 0)) rfl
      have yf0 := blk_free HV4.out.b6 0
      have z1 := blk_cell HV4.out.b4 1 (.string ⟨#[]⟩) rfl
      have zf1 := blk_free HV4.out.b4 1
      have y1 := blk_cell HV4.out.b6 1 ((.string ⟨#[]⟩)) rfl
      have yf1 := blk_free HV4.out.b6 1
      have z2 := blk_cell HV4.out.b4 2 (.slice none 0 0) rfl
      have zf2 := blk_free HV4.out.b4 2
      have y2 := blk_cell HV4.out.b6 2 ((.slice none 0 0)) rfl
      have yf2 := blk_free HV4.out.b6 2
      have z3 := blk_cell HV4.out.b4 3 (.slice none 0 0) rfl
      have zf3 := blk_free HV4.out.b4 3
      have y3 := blk_cell HV4.out.b6 3 ((.slice none 0 0)) rfl
      have yf3 := blk_free HV4.out.b6 3
      have z4 := blk_cell HV4.out.b4 4 (.int .i64 0) rfl
      have zf4 := blk_free HV4.out.b4 4
      have y4 := blk_cell HV4.out.b6 4 ((.int .i64 tk.at_)) rfl
      have yf4 := blk_free HV4.out.b6 4
      go_wp2_with fail
      refine (rname_any b g (Rd.next s) w4 HV4.out.rd).mono ?_
      rintro r w5 ⟨rfl, h5, f5⟩
      obtain ⟨nm, hnm⟩ : ∃ x, x = (Rd.name (Rd.next s)).2 := ⟨_, rfl⟩
      rw [← hnm]
      have HNM := Lib.hid hnm
      have HV5 := Lib.hid (HV4.out.step h5 f5)
      clear h5 f5 hnm
      clear k2 k3 a0 a1 a2 z0 zf0 y0 yf0 z1 zf1 y1 yf1 z2 zf2 y2 yf2 z3 zf3 y3 yf3 z4 zf4 y4 yf4
      have k2 := blk_cell HV5.out.b2 0 (.pointer (some ⟨b, 0, none⟩)) rfl
      have k3 := blk_cell HV5.out.b3 0 (.bool false) rfl
      have a0 := blk_cell HV5.out.b5 0 (.int .i64 tk.kind) rfl
      have a1 := blk_cell HV5.out.b5 1 (.string ⟨tk.text.toArray⟩) rfl
      have a2 := blk_cell HV5.out.b5 2 (.int .i64 tk.at_) rfl
      have z0 := blk_cell HV5.out.b4 0 (.int .i64 0) rfl
      have zf0 := blk_free HV5.out.b4 0
      have y0 := blk_cell HV5.out.b6 0 ((.int .i64 0)) rfl
      have yf0 := blk_free HV5.out.b6 0
      have z1 := blk_cell HV5.out.b4 1 (.string ⟨#[]⟩) rfl
      have zf1 := blk_free HV5.out.b4 1
      have y1 := blk_cell HV5.out.b6 1 ((.string ⟨#[]⟩)) rfl
      have yf1 := blk_free HV5.out.b6 1
      have z2 := blk_cell HV5.out.b4 2 (.slice none 0 0) rfl
      have zf2 := blk_free HV5.out.b4 2
      have y2 := blk_cell HV5.out.b6 2 ((.slice none 0 0)) rfl
      have yf2 := blk_free HV5.out.b6 2
      have z3 := blk_cell HV5.out.b4 3 (.slice none 0 0) rfl
      have zf3 := blk_free HV5.out.b4 3
      have y3 := blk_cell HV5.out.b6 3 ((.slice none 0 0)) rfl
      have yf3 := blk_free HV5.out.b6 3
      have z4 := blk_cell HV5.out.b4 4 (.int .i64 0) rfl
      have zf4 := blk_free HV5.out.b4 4
      have y4 := blk_cell HV5.out.b6 4 ((.int .i64 tk.at_)) rfl
      have yf4 := blk_free HV5.out.b6 4
      have HV6 := Lib.hid ((HV5.out.put 0 (.int .i64 1)).put 1 (.string ⟨nm.toArray⟩))
      go_wp2_with fail
      have hfin := (HV6).out.fin (cs := [.int .i64 1, .string ⟨nm.toArray⟩, .slice none 0 0, .slice none 0 0, .int .i64 tk.at_]) (leaf_reads _ 1 tk.at_ nm) (fun x hx => hx.elim)
      simp only [putCells, Nat.reduceAdd, Nat.zero_add] at hfin
      refine bodyPost_ret (v := .agg ([.int .i64 1, .string ⟨nm.toArray⟩, .slice none 0 0, .slice none 0 0, .int .i64 tk.at_]).toArray) (by simp [results, Tryz.results107, go_sem, z0, z1, z2, z3, z4, n1, n2, n3, n4, n5, n6, n7, n8]) rfl ?_
      rw [HE.out, ← HTK.out]
      exact ⟨_, rfl, by rw [HNM.out] at hfin ⊢; exact hfin⟩
    · go_wp2_with fail
      refine (rwrong_any b g s w2 HV.out.rd).mono ?_
      rintro r w3 ⟨rfl, h3, f3⟩
      have HV3 := Lib.hid (HV.out.step h3 f3)
      clear h3 f3
      clear k2 k3 a0 a1 a2 z0 zf0 y0 yf0 z1 zf1 y1 yf1 z2 zf2 y2 yf2 z3 zf3 y3 yf3 z4 zf4 y4 yf4
      have k2 := blk_cell HV3.out.b2 0 (.pointer (some ⟨b, 0, none⟩)) rfl
      have k3 := blk_cell HV3.out.b3 0 (.bool true) rfl
      have a0 := blk_cell HV3.out.b5 0 (.int .i64 tk.kind) rfl
      have a1 := blk_cell HV3.out.b5 1 (.string ⟨tk.text.toArray⟩) rfl
      have a2 := blk_cell HV3.out.b5 2 (.int .i64 tk.at_) rfl
      have z0 := blk_cell HV3.out.b4 0 (.int .i64 0) rfl
      have zf0 := blk_free HV3.out.b4 0
      have y0 := blk_cell HV3.out.b6 0 ((.int .i64 0)) rfl
      have yf0 := blk_free HV3.out.b6 0
      have z1 := blk_cell HV3.out.b4 1 (.string ⟨#[]⟩) rfl
      have zf1 := blk_free HV3.out.b4 1
      have y1 := blk_cell HV3.out.b6 1 ((.string ⟨#[]⟩)) rfl
      have yf1 := blk_free HV3.out.b6 1
      have z2 := blk_cell HV3.out.b4 2 (.slice none 0 0) rfl
      have zf2 := blk_free HV3.out.b4 2
      have y2 := blk_cell HV3.out.b6 2 ((.slice none 0 0)) rfl
      have yf2 := blk_free HV3.out.b6 2
      have z3 := blk_cell HV3.out.b4 3 (.slice none 0 0) rfl
      have zf3 := blk_free HV3.out.b4 3
      have y3 := blk_cell HV3.out.b6 3 ((.slice none 0 0)) rfl
      have yf3 := blk_free HV3.out.b6 3
      have z4 := blk_cell HV3.out.b4 4 (.int .i64 0) rfl
      have zf4 := blk_free HV3.out.b4 4
      have y4 := blk_cell HV3.out.b6 4 ((.int .i64 tk.at_)) rfl
      have yf4 := blk_free HV3.out.b6 4
      go_wp2_with fail
      refine (rnext_any b g (Rd.wrong s) w3 HV3.out.rd).mono ?_
      rintro r w4 ⟨rfl, h4, f4⟩
      have HV4 := Lib.hid (HV3.out.step h4 f4)
      clear h4 f4
      clear k2 k3 a0 a1 a2 z0 zf0 y0 yf0 z1 zf1 y1 yf1 z2 zf2 y2 yf2 z3 zf3 y3 yf3 z4 zf4 y4 yf4
      have k2 := blk_cell HV4.out.b2 0 (.pointer (some ⟨b, 0, none⟩)) rfl
      have k3 := blk_cell HV4.out.b3 0 (.bool true) rfl
      have a0 := blk_cell HV4.out.b5 0 (.int .i64 tk.kind) rfl
      have a1 := blk_cell HV4.out.b5 1 (.string ⟨tk.text.toArray⟩) rfl
      have a2 := blk_cell HV4.out.b5 2 (.int .i64 tk.at_) rfl
      have z0 := blk_cell HV4.out.b4 0 (.int .i64 0) rfl
      have zf0 := blk_free HV4.out.b4 0
      have y0 := blk_cell HV4.out.b6 0 ((.int .i64 0)) rfl
      have yf0 := blk_free HV4.out.b6 0
      have z1 := blk_cell HV4.out.b4 1 (.string ⟨#[]⟩) rfl
      have zf1 := blk_free HV4.out.b4 1
      have y1 := blk_cell HV4.out.b6 1 ((.string ⟨#[]⟩)) rfl
      have yf1 := blk_free HV4.out.b6 1
      have z2 := blk_cell HV4.out.b4 2 (.slice none 0 0) rfl
      have zf2 := blk_free HV4.out.b4 2
      have y2 := blk_cell HV4.out.b6 2 ((.slice none 0 0)) rfl
      have yf2 := blk_free HV4.out.b6 2
      have z3 := blk_cell HV4.out.b4 3 (.slice none 0 0) rfl
      have zf3 := blk_free HV4.out.b4 3
      have y3 := blk_cell HV4.out.b6 3 ((.slice none 0 0)) rfl
      have yf3 := blk_free HV4.out.b6 3
      have z4 := blk_cell HV4.out.b4 4 (.int .i64 0) rfl
      have zf4 := blk_free HV4.out.b4 4
      have y4 := blk_cell HV4.out.b6 4 ((.int .i64 tk.at_)) rfl
      have yf4 := blk_free HV4.out.b6 4
      go_wp2_with fail
      refine (rname_any b g (Rd.next (Rd.wrong s)) w4 HV4.out.rd).mono ?_
      rintro r w5 ⟨rfl, h5, f5⟩
      obtain ⟨nm, hnm⟩ : ∃ x, x = (Rd.name (Rd.next (Rd.wrong s))).2 := ⟨_, rfl⟩
      rw [← hnm]
      have HNM := Lib.hid hnm
      have HV5 := Lib.hid (HV4.out.step h5 f5)
      clear h5 f5 hnm
      clear k2 k3 a0 a1 a2 z0 zf0 y0 yf0 z1 zf1 y1 yf1 z2 zf2 y2 yf2 z3 zf3 y3 yf3 z4 zf4 y4 yf4
      have k2 := blk_cell HV5.out.b2 0 (.pointer (some ⟨b, 0, none⟩)) rfl
      have k3 := blk_cell HV5.out.b3 0 (.bool true) rfl
      have a0 := blk_cell HV5.out.b5 0 (.int .i64 tk.kind) rfl
      have a1 := blk_cell HV5.out.b5 1 (.string ⟨tk.text.toArray⟩) rfl
      have a2 := blk_cell HV5.out.b5 2 (.int .i64 tk.at_) rfl
      have z0 := blk_cell HV5.out.b4 0 (.int .i64 0) rfl
      have zf0 := blk_free HV5.out.b4 0
      have y0 := blk_cell HV5.out.b6 0 ((.int .i64 0)) rfl
      have yf0 := blk_free HV5.out.b6 0
      have z1 := blk_cell HV5.out.b4 1 (.string ⟨#[]⟩) rfl
      have zf1 := blk_free HV5.out.b4 1
      have y1 := blk_cell HV5.out.b6 1 ((.string ⟨#[]⟩)) rfl
      have yf1 := blk_free HV5.out.b6 1
      have z2 := blk_cell HV5.out.b4 2 (.slice none 0 0) rfl
      have zf2 := blk_free HV5.out.b4 2
      have y2 := blk_cell HV5.out.b6 2 ((.slice none 0 0)) rfl
      have yf2 := blk_free HV5.out.b6 2
      have z3 := blk_cell HV5.out.b4 3 (.slice none 0 0) rfl
      have zf3 := blk_free HV5.out.b4 3
      have y3 := blk_cell HV5.out.b6 3 ((.slice none 0 0)) rfl
      have yf3 := blk_free HV5.out.b6 3
      have z4 := blk_cell HV5.out.b4 4 (.int .i64 0) rfl
      have zf4 := blk_free HV5.out.b4 4
      have y4 := blk_cell HV5.out.b6 4 ((.int .i64 tk.at_)) rfl
      have yf4 := blk_free HV5.out.b6 4
      have HV6 := Lib.hid ((HV5.out.put 0 (.int .i64 1)).put 1 (.string ⟨nm.toArray⟩))
      go_wp2_with fail
      have hfin := (HV6).out.fin (cs := [.int .i64 1, .string ⟨nm.toArray⟩, .slice none 0 0, .slice none 0 0, .int .i64 tk.at_]) (leaf_reads _ 1 tk.at_ nm) (fun x hx => hx.elim)
      simp only [putCells, Nat.reduceAdd, Nat.zero_add] at hfin
      refine bodyPost_ret (v := .agg ([.int .i64 1, .string ⟨nm.toArray⟩, .slice none 0 0, .slice none 0 0, .int .i64 tk.at_]).toArray) (by simp [results, Tryz.results107, go_sem, z0, z1, z2, z3, z4, n1, n2, n3, n4, n5, n6, n7, n8]) rfl ?_
      rw [HE.out, ← HTK.out]
      exact ⟨_, rfl, by rw [HNM.out] at hfin ⊢; exact hfin⟩
  have NB1 : Hid (¬ Rd.isS s Rd.dollar = true) := by rw [← HB1.out]; exact Lib.hid (by simp)
  clear HB1
  have k2 := blk_cell HV.out.b2 0 (.pointer (some ⟨b, 0, none⟩)) rfl
  go_wp2_with fail
  refine (ris1_any b g s Rd.lbrk _ w2 HV.out.rd).mono ?_
  rintro r w3 ⟨rfl, hb3⟩
  have HV3 := Lib.hid (HV.out.below hb3)
  clear hb3 k2
  obtain ⟨B2, hB2⟩ : ∃ B, B = Rd.isS s Rd.lbrk := ⟨_, rfl⟩
  have HBX := Lib.hid hB2
  rw [← hB2]
  clear hB2
  cases B2
  rotate_left
  · -- a list
    have HE : Hid (Rd.value fixed (n + 1) s = (Rd.up Rd.rbrk (Rd.loop Rd.rbrk (Rd.value fixed n) ((Rd.down Rd.lbrk s).rest.length + 1) (Rd.down Rd.lbrk s) []).1, .mk 8 [] (Rd.loop Rd.rbrk (Rd.value fixed n) ((Rd.down Rd.lbrk s).rest.length + 1) (Rd.down Rd.lbrk s) []).2 [] (Rd.peek s).at_)) := by
      unfold Rd.value
      dsimp only
      rw [if_neg NB1.out, if_pos HBX.out.symm]
      exact Lib.hid rfl
    obtain ⟨m, hm⟩ : ∃ m, n = m + 1 := ⟨n - 1, by have := H.out.rest_len; omega⟩
    have hmb : m ≤ 1599 := by omega
    have hmd : s.deep + 1 + (m : Int) ≤ 900000 := by omega
    have HM := Lib.hid hm
    have HIH2 : Hid (∀ (s : Rd.St) (w : World), RdAt w b g s → s.rest.length ≤ m → 0 ≤ s.deep ∧ s.deep + m ≤ 900000 → Calls Tryz.prog 107 #[.pointer (some ⟨b, 0, none⟩), .bool fixed] w (Got b g w (Rd.value fixed n s).2.d (Rd.value fixed n s).1)) := by
      have h1 := HIH.out m hm
      rw [← hm] at h1
      exact Lib.hid h1
    have HGO : Hid (∀ s, s.err = 0 → ((Rd.value fixed n) s).1.err ≠ 0 ∨ ((Rd.value fixed n) s).1.rest.length < s.rest.length) := by rw [hm]; exact Lib.hid (Rd.value_goes fixed m)
    have HDP : Hid (∀ s, ((Rd.value fixed n) s).1.deep = s.deep) := Lib.hid (Rd.value_deep fixed n)
    clear hm
    have k2 := blk_cell HV3.out.b2 0 (.pointer (some ⟨b, 0, none⟩)) rfl
    have k3 := blk_cell HV3.out.b3 0 (.bool fixed) rfl
    have a0 := blk_cell HV3.out.b5 0 (.int .i64 tk.kind) rfl
    have a1 := blk_cell HV3.out.b5 1 (.string ⟨tk.text.toArray⟩) rfl
    have a2 := blk_cell HV3.out.b5 2 (.int .i64 tk.at_) rfl
    have z0 := blk_cell HV3.out.b4 0 (.int .i64 0) rfl
    have zf0 := blk_free HV3.out.b4 0
    have y0 := blk_cell HV3.out.b6 0 ((.int .i64 0)) rfl
    have yf0 := blk_free HV3.out.b6 0
    have z1 := blk_cell HV3.out.b4 1 (.string ⟨#[]⟩) rfl
    have zf1 := blk_free HV3.out.b4 1
    have y1 := blk_cell HV3.out.b6 1 ((.string ⟨#[]⟩)) rfl
    have yf1 := blk_free HV3.out.b6 1
    have z2 := blk_cell HV3.out.b4 2 (.slice none 0 0) rfl
    have zf2 := blk_free HV3.out.b4 2
    have y2 := blk_cell HV3.out.b6 2 ((.slice none 0 0)) rfl
    have yf2 := blk_free HV3.out.b6 2
    have z3 := blk_cell HV3.out.b4 3 (.slice none 0 0) rfl
    have zf3 := blk_free HV3.out.b4 3
    have y3 := blk_cell HV3.out.b6 3 ((.slice none 0 0)) rfl
    have yf3 := blk_free HV3.out.b6 3
    have z4 := blk_cell HV3.out.b4 4 (.int .i64 0) rfl
    have zf4 := blk_free HV3.out.b4 4
    have y4 := blk_cell HV3.out.b6 4 ((.int .i64 tk.at_)) rfl
    have yf4 := blk_free HV3.out.b6 4
    go_wp2_with fail
    refine (rdown_any b g s Rd.lbrk _ ((HV3.out.put 0 (.int .i64 8)).rd) ⟨by omega, by omega⟩).mono ?_
    rintro r w4 ⟨rfl, h4, f4⟩
    have HV4 : Hid (VI w b g t5 t6 fixed tk ((mkItems tk.at_) (.slice none 0 0)) (Rd.down Rd.lbrk s) w4) := Lib.hid ((HV3.out.put 0 (.int .i64 8)).step h4 f4)
    clear h4 f4
    clear k2 k3 a0 a1 a2 z0 zf0 y0 yf0 z1 zf1 y1 yf1 z2 zf2 y2 yf2 z3 zf3 y3 yf3 z4 zf4 y4 yf4
    have k2 := blk_cell HV4.out.b2 0 (.pointer (some ⟨b, 0, none⟩)) rfl
    have HDD := Lib.hid (Rd.down_deep Rd.lbrk s)
    have HI0 : Hid (VLI w b g t5 t6 fixed tk (mkItems tk.at_) 49 5 Rd.V.d m (Rd.down Rd.lbrk s).deep (Rd.down Rd.lbrk s) [] w4) := by
      refine Lib.hid (VLI.start HV4.out (fun he => ?_) (by omega))
      rcases Rd.down_goes HBX.out.symm with h | h
      · exact absurd he h
      · have := HM.out; omega
    go_wp2_with fail
    refine (some_any Rd.rbrk (Rd.value fixed n) (VLI w b g t5 t6 fixed tk (mkItems tk.at_) 49 5 Rd.V.d m (Rd.down Rd.lbrk s).deep) b g _ _ (enters_C1 _) (fun s out w' h => h.1.rd) (fun s out w1 w2 h hb => ⟨h.1.below hb, h.2⟩) (fun s1 out w1 h he => ?_) (fun s1 out w1 h he _ => HGO.out s1 he) ((Rd.down Rd.lbrk s).rest.length + 1) (Rd.down Rd.lbrk s) [] w4 HI0.out (.inr (by omega))).mono ?_
    · have hr := h.2.2.1 he
      refine (valC1_any w b g t6 (vbx w b t5 fixed tk) w.heap.size (w.heap.size + 1) fixed tk.at_ n (by simp [vbx]) (by simp [vbx]) s1 (out.map Rd.V.d) w1 ?_ h.1 (by rw [List.length_map]; omega)).mono ?_
      · intro w2 hr2
        exact HIH2.out s1 w2 hr2 hr.1 (by rw [h.2.1, HDD.out]; omega)
      · rintro r w2 ⟨hre, hli⟩
        refine ⟨hre, by rw [List.map_append]; exact hli, by rw [HDP.out]; exact h.2.1, fun he2 => ?_, by rw [List.length_append]; simp; omega⟩
        rcases HGO.out s1 he with hx | hx
        · exact absurd he2 hx
        · rw [List.length_append]
          simp
          omega
    rintro r w5 ⟨rfl, hL⟩
    obtain ⟨L, hLL⟩ : ∃ x, x = Rd.loop Rd.rbrk (Rd.value fixed n) ((Rd.down Rd.lbrk s).rest.length + 1) (Rd.down Rd.lbrk s) [] := ⟨_, rfl⟩
    rw [← hLL] at hL
    have HLL := Lib.hid hLL
    have HL := Lib.hid hL
    clear k2 hLL hL
    have k2 : w5.cell? ⟨w.heap.size, 0, none⟩ = some (.pointer (some ⟨b, 0, none⟩)) := HL.out.1.cellx (T := 151) (by simp [vbx])
    go_wp2_with fail
    refine (rup_any b g L.1 Rd.rbrk w5 HL.out.1.rd (by rw [HL.out.2.1, HDD.out]; omega)).mono ?_
    rintro r w6 ⟨rfl, h6, f6⟩
    have hli := HL.out.1.step h6 f6
    obtain ⟨v6, hv6, hg6⟩ := hli.ex
    obtain ⟨va, vc, hvv⟩ := hg6.form
    rw [List.length_map] at hvv
    subst hvv
    have HV6 := Lib.hid (VI.of_LI hli o5 o6 hv6)
    have HG6 := Lib.hid hg6
    clear h6 f6 hli hv6 hg6 k2
    have k2 := blk_cell HV6.out.b2 0 (.pointer (some ⟨b, 0, none⟩)) rfl
    have k3 := blk_cell HV6.out.b3 0 (.bool fixed) rfl
    have a0 := blk_cell HV6.out.b5 0 (.int .i64 tk.kind) rfl
    have a1 := blk_cell HV6.out.b5 1 (.string ⟨tk.text.toArray⟩) rfl
    have a2 := blk_cell HV6.out.b5 2 (.int .i64 tk.at_) rfl
    have z0 := blk_cell HV6.out.b4 0 (.int .i64 0) rfl
    have zf0 := blk_free HV6.out.b4 0
    have y0 := blk_cell HV6.out.b6 0 ((.int .i64 8)) rfl
    have yf0 := blk_free HV6.out.b6 0
    have z1 := blk_cell HV6.out.b4 1 (.string ⟨#[]⟩) rfl
    have zf1 := blk_free HV6.out.b4 1
    have y1 := blk_cell HV6.out.b6 1 ((.string ⟨#[]⟩)) rfl
    have yf1 := blk_free HV6.out.b6 1
    have z2 := blk_cell HV6.out.b4 2 (.slice none 0 0) rfl
    have zf2 := blk_free HV6.out.b4 2
    have y2 := blk_cell HV6.out.b6 2 ((.slice va L.2.length vc)) rfl
    have yf2 := blk_free HV6.out.b6 2
    have z3 := blk_cell HV6.out.b4 3 (.slice none 0 0) rfl
    have zf3 := blk_free HV6.out.b4 3
    have y3 := blk_cell HV6.out.b6 3 ((.slice none 0 0)) rfl
    have yf3 := blk_free HV6.out.b6 3
    have z4 := blk_cell HV6.out.b4 4 (.int .i64 0) rfl
    have zf4 := blk_free HV6.out.b4 4
    have y4 := blk_cell HV6.out.b6 4 ((.int .i64 tk.at_)) rfl
    have yf4 := blk_free HV6.out.b6 4
    go_wp2_with fail
    have HRS : Hid (Reads w6 (fun x => t6 < x) (Rd.V.d (.mk 8 [] L.2 [] tk.at_)) [.int .i64 8, .string ⟨#[]⟩, (.slice va L.2.length vc), (.slice none 0 0), .int .i64 tk.at_]) := by
      have h1 := HG6.out.reads.to (Stands.sub w6 (Q := fun x => t6 < x) (fun x _ hp => by
        rcases hp with hp | hp
        · exact hp.1
        · have := Nat.le_trans (LB_t6 _ _) (HG6.out.lt x hp).1; omega))
      refine Lib.hid ?_
      rw [Rd.V.d]
      first
      | (rw [Rd.V.dl_map, Rd.A.dl]; exact .obj (.cons (.int _) (.cons (.str []) (.cons h1 (.cons (cs := [.slice none 0 0]) (.seq (cap := 0) .nil) (.cons (.int _) .nil))))))
      | (rw [Rd.A.dl_map, Rd.V.dl]; exact .obj (.cons (.int _) (.cons (.str []) (.cons (cs := [.slice none 0 0]) (.seq (cap := 0) .nil) (.cons h1 (.cons (.int _) .nil))))))
    have hfin := (HV6).out.fin (cs := [.int .i64 8, .string ⟨#[]⟩, (.slice va L.2.length vc), (.slice none 0 0), .int .i64 tk.at_]) HRS.out (fun x hx => hx)
    simp only [putCells, Nat.reduceAdd, Nat.zero_add] at hfin
    refine bodyPost_ret (v := .agg ([.int .i64 8, .string ⟨#[]⟩, (.slice va L.2.length vc), (.slice none 0 0), .int .i64 tk.at_]).toArray) (by simp [results, Tryz.results107, go_sem, z0, z1, z2, z3, z4, n1, n2, n3, n4, n5, n6, n7, n8]) rfl ?_
    rw [HE.out, ← HTK.out, ← HLL.out]
    exact ⟨_, rfl, hfin⟩
  have NB2 : Hid (¬ Rd.isS s Rd.lbrk = true) := by rw [← HBX.out]; exact Lib.hid (by simp)
  clear HBX
  have k2 := blk_cell HV3.out.b2 0 (.pointer (some ⟨b, 0, none⟩)) rfl
  go_wp2_with fail
  refine (ris1_any b g s Rd.lbrc _ w3 HV3.out.rd).mono ?_
  rintro r wb ⟨rfl, hbb⟩
  have HVb := Lib.hid (HV3.out.below hbb)
  clear hbb k2
  obtain ⟨B3, hB3⟩ : ∃ B, B = Rd.isS s Rd.lbrc := ⟨_, rfl⟩
  have HBX := Lib.hid hB3
  rw [← hB3]
  clear hB3
  cases B3
  rotate_left
  · -- an object
    have HE : Hid (Rd.value fixed (n + 1) s = (Rd.up Rd.rbrc (Rd.loop Rd.rbrc (Rd.arg fixed n) ((Rd.down Rd.lbrc s).rest.length + 1) (Rd.down Rd.lbrc s) []).1, .mk 9 [] [] (Rd.loop Rd.rbrc (Rd.arg fixed n) ((Rd.down Rd.lbrc s).rest.length + 1) (Rd.down Rd.lbrc s) []).2 (Rd.peek s).at_)) := by
      unfold Rd.value
      dsimp only
      rw [if_neg NB1.out, if_neg NB2.out, if_pos HBX.out.symm]
      exact Lib.hid rfl
    obtain ⟨m, hm⟩ : ∃ m, n = m + 1 := ⟨n - 1, by have := H.out.rest_len; omega⟩
    have hmb : m ≤ 1599 := by omega
    have hmd : s.deep + 1 + (m : Int) ≤ 900000 := by omega
    have HM := Lib.hid hm
    have HIH2 : Hid (∀ (s : Rd.St) (w : World), RdAt w b g s → s.rest.length ≤ m → 0 ≤ s.deep ∧ s.deep + m ≤ 900000 → Calls Tryz.prog 107 #[.pointer (some ⟨b, 0, none⟩), .bool fixed] w (Got b g w (Rd.value fixed n s).2.d (Rd.value fixed n s).1)) := by
      have h1 := HIH.out m hm
      rw [← hm] at h1
      exact Lib.hid h1
    have HGO : Hid (∀ s, s.err = 0 → ((Rd.arg fixed n) s).1.err ≠ 0 ∨ ((Rd.arg fixed n) s).1.rest.length < s.rest.length) := by rw [hm]; exact Lib.hid (Rd.arg_goes fixed (m + 1))
    have HDP : Hid (∀ s, ((Rd.arg fixed n) s).1.deep = s.deep) := Lib.hid (Rd.argOf_deep _ (Rd.value_deep fixed n))
    clear hm
    have k2 := blk_cell HVb.out.b2 0 (.pointer (some ⟨b, 0, none⟩)) rfl
    have k3 := blk_cell HVb.out.b3 0 (.bool fixed) rfl
    have a0 := blk_cell HVb.out.b5 0 (.int .i64 tk.kind) rfl
    have a1 := blk_cell HVb.out.b5 1 (.string ⟨tk.text.toArray⟩) rfl
    have a2 := blk_cell HVb.out.b5 2 (.int .i64 tk.at_) rfl
    have z0 := blk_cell HVb.out.b4 0 (.int .i64 0) rfl
    have zf0 := blk_free HVb.out.b4 0
    have y0 := blk_cell HVb.out.b6 0 ((.int .i64 0)) rfl
    have yf0 := blk_free HVb.out.b6 0
    have z1 := blk_cell HVb.out.b4 1 (.string ⟨#[]⟩) rfl
    have zf1 := blk_free HVb.out.b4 1
    have y1 := blk_cell HVb.out.b6 1 ((.string ⟨#[]⟩)) rfl
    have yf1 := blk_free HVb.out.b6 1
    have z2 := blk_cell HVb.out.b4 2 (.slice none 0 0) rfl
    have zf2 := blk_free HVb.out.b4 2
    have y2 := blk_cell HVb.out.b6 2 ((.slice none 0 0)) rfl
    have yf2 := blk_free HVb.out.b6 2
    have z3 := blk_cell HVb.out.b4 3 (.slice none 0 0) rfl
    have zf3 := blk_free HVb.out.b4 3
    have y3 := blk_cell HVb.out.b6 3 ((.slice none 0 0)) rfl
    have yf3 := blk_free HVb.out.b6 3
    have z4 := blk_cell HVb.out.b4 4 (.int .i64 0) rfl
    have zf4 := blk_free HVb.out.b4 4
    have y4 := blk_cell HVb.out.b6 4 ((.int .i64 tk.at_)) rfl
    have yf4 := blk_free HVb.out.b6 4
    go_wp2_with fail
    refine (rdown_any b g s Rd.lbrc _ ((HVb.out.put 0 (.int .i64 9)).rd) ⟨by omega, by omega⟩).mono ?_
    rintro r w4 ⟨rfl, h4, f4⟩
    have HV4 : Hid (VI w b g t5 t6 fixed tk ((mkFields tk.at_) (.slice none 0 0)) (Rd.down Rd.lbrc s) w4) := Lib.hid ((HVb.out.put 0 (.int .i64 9)).step h4 f4)
    clear h4 f4
    clear k2 k3 a0 a1 a2 z0 zf0 y0 yf0 z1 zf1 y1 yf1 z2 zf2 y2 yf2 z3 zf3 y3 yf3 z4 zf4 y4 yf4
    have k2 := blk_cell HV4.out.b2 0 (.pointer (some ⟨b, 0, none⟩)) rfl
    have HDD := Lib.hid (Rd.down_deep Rd.lbrc s)
    have HI0 : Hid (VLI w b g t5 t6 fixed tk (mkFields tk.at_) 219 7 Rd.A.d m (Rd.down Rd.lbrc s).deep (Rd.down Rd.lbrc s) [] w4) := by
      refine Lib.hid (VLI.start HV4.out (fun he => ?_) (by omega))
      rcases Rd.down_goes HBX.out.symm with h | h
      · exact absurd he h
      · have := HM.out; omega
    go_wp2_with fail
    refine (some_any Rd.rbrc (Rd.arg fixed n) (VLI w b g t5 t6 fixed tk (mkFields tk.at_) 219 7 Rd.A.d m (Rd.down Rd.lbrc s).deep) b g _ _ (enters_C2 _) (fun s out w' h => h.1.rd) (fun s out w1 w2 h hb => ⟨h.1.below hb, h.2⟩) (fun s1 out w1 h he => ?_) (fun s1 out w1 h he _ => HGO.out s1 he) ((Rd.down Rd.lbrc s).rest.length + 1) (Rd.down Rd.lbrc s) [] w4 HI0.out (.inr (by omega))).mono ?_
    · have hr := h.2.2.1 he
      refine (valC2_any w b g t6 (vbx w b t5 fixed tk) w.heap.size (w.heap.size + 1) fixed tk.at_ n (by simp [vbx]) (by simp [vbx]) s1 (out.map Rd.A.d) w1 ?_ h.1 (by rw [List.length_map]; omega)).mono ?_
      · intro w2 hr2
        exact rarg_any b g fixed n s1 w2 hr2 (fun w' hr' => HIH2.out _ w' hr' (Nat.le_trans ((Rd.ok_name s1).trans (Rd.ok_want Rd.colon _)).len hr.1) (by rw [Rd.want_deep, Rd.name_deep, h.2.1, HDD.out]; omega))
      · rintro r w2 ⟨hre, hli⟩
        refine ⟨hre, by rw [List.map_append]; exact hli, by rw [HDP.out]; exact h.2.1, fun he2 => ?_, by rw [List.length_append]; simp; omega⟩
        rcases HGO.out s1 he with hx | hx
        · exact absurd he2 hx
        · rw [List.length_append]
          simp
          omega
    rintro r w5 ⟨rfl, hL⟩
    obtain ⟨L, hLL⟩ : ∃ x, x = Rd.loop Rd.rbrc (Rd.arg fixed n) ((Rd.down Rd.lbrc s).rest.length + 1) (Rd.down Rd.lbrc s) [] := ⟨_, rfl⟩
    rw [← hLL] at hL
    have HLL := Lib.hid hLL
    have HL := Lib.hid hL
    clear k2 hLL hL
    have k2 : w5.cell? ⟨w.heap.size, 0, none⟩ = some (.pointer (some ⟨b, 0, none⟩)) := HL.out.1.cellx (T := 151) (by simp [vbx])
    go_wp2_with fail
    refine (rup_any b g L.1 Rd.rbrc w5 HL.out.1.rd (by rw [HL.out.2.1, HDD.out]; omega)).mono ?_
    rintro r w6 ⟨rfl, h6, f6⟩
    have hli := HL.out.1.step h6 f6
    obtain ⟨v6, hv6, hg6⟩ := hli.ex
    obtain ⟨va, vc, hvv⟩ := hg6.form
    rw [List.length_map] at hvv
    subst hvv
    have HV6 := Lib.hid (VI.of_LI hli o5 o6 hv6)
    have HG6 := Lib.hid hg6
    clear h6 f6 hli hv6 hg6 k2
    have k2 := blk_cell HV6.out.b2 0 (.pointer (some ⟨b, 0, none⟩)) rfl
    have k3 := blk_cell HV6.out.b3 0 (.bool fixed) rfl
    have a0 := blk_cell HV6.out.b5 0 (.int .i64 tk.kind) rfl
    have a1 := blk_cell HV6.out.b5 1 (.string ⟨tk.text.toArray⟩) rfl
    have a2 := blk_cell HV6.out.b5 2 (.int .i64 tk.at_) rfl
    have z0 := blk_cell HV6.out.b4 0 (.int .i64 0) rfl
    have zf0 := blk_free HV6.out.b4 0
    have y0 := blk_cell HV6.out.b6 0 ((.int .i64 9)) rfl
    have yf0 := blk_free HV6.out.b6 0
    have z1 := blk_cell HV6.out.b4 1 (.string ⟨#[]⟩) rfl
    have zf1 := blk_free HV6.out.b4 1
    have y1 := blk_cell HV6.out.b6 1 ((.string ⟨#[]⟩)) rfl
    have yf1 := blk_free HV6.out.b6 1
    have z2 := blk_cell HV6.out.b4 2 (.slice none 0 0) rfl
    have zf2 := blk_free HV6.out.b4 2
    have y2 := blk_cell HV6.out.b6 2 ((.slice none 0 0)) rfl
    have yf2 := blk_free HV6.out.b6 2
    have z3 := blk_cell HV6.out.b4 3 (.slice none 0 0) rfl
    have zf3 := blk_free HV6.out.b4 3
    have y3 := blk_cell HV6.out.b6 3 ((.slice va L.2.length vc)) rfl
    have yf3 := blk_free HV6.out.b6 3
    have z4 := blk_cell HV6.out.b4 4 (.int .i64 0) rfl
    have zf4 := blk_free HV6.out.b4 4
    have y4 := blk_cell HV6.out.b6 4 ((.int .i64 tk.at_)) rfl
    have yf4 := blk_free HV6.out.b6 4
    go_wp2_with fail
    have HRS : Hid (Reads w6 (fun x => t6 < x) (Rd.V.d (.mk 9 [] [] L.2 tk.at_)) [.int .i64 9, .string ⟨#[]⟩, (.slice none 0 0), (.slice va L.2.length vc), .int .i64 tk.at_]) := by
      have h1 := HG6.out.reads.to (Stands.sub w6 (Q := fun x => t6 < x) (fun x _ hp => by
        rcases hp with hp | hp
        · exact hp.1
        · have := Nat.le_trans (LB_t6 _ _) (HG6.out.lt x hp).1; omega))
      refine Lib.hid ?_
      rw [Rd.V.d]
      first
      | (rw [Rd.V.dl_map, Rd.A.dl]; exact .obj (.cons (.int _) (.cons (.str []) (.cons h1 (.cons (cs := [.slice none 0 0]) (.seq (cap := 0) .nil) (.cons (.int _) .nil))))))
      | (rw [Rd.A.dl_map, Rd.V.dl]; exact .obj (.cons (.int _) (.cons (.str []) (.cons (cs := [.slice none 0 0]) (.seq (cap := 0) .nil) (.cons h1 (.cons (.int _) .nil))))))
    have hfin := (HV6).out.fin (cs := [.int .i64 9, .string ⟨#[]⟩, (.slice none 0 0), (.slice va L.2.length vc), .int .i64 tk.at_]) HRS.out (fun x hx => hx)
    simp only [putCells, Nat.reduceAdd, Nat.zero_add] at hfin
    refine bodyPost_ret (v := .agg ([.int .i64 9, .string ⟨#[]⟩, (.slice none 0 0), (.slice va L.2.length vc), .int .i64 tk.at_]).toArray) (by simp [results, Tryz.results107, go_sem, z0, z1, z2, z3, z4, n1, n2, n3, n4, n5, n6, n7, n8]) rfl ?_
    rw [HE.out, ← HTK.out, ← HLL.out]
    exact ⟨_, rfl, hfin⟩
  have NB3 : Hid (¬ Rd.isS s Rd.lbrc = true) := by rw [← HBX.out]; exact Lib.hid (by simp)
  clear HBX
  have k2 := blk_cell HVb.out.b2 0 (.pointer (some ⟨b, 0, none⟩)) rfl
  have k3 := blk_cell HVb.out.b3 0 (.bool fixed) rfl
  have a0 := blk_cell HVb.out.b5 0 (.int .i64 tk.kind) rfl
  have a1 := blk_cell HVb.out.b5 1 (.string ⟨tk.text.toArray⟩) rfl
  have a2 := blk_cell HVb.out.b5 2 (.int .i64 tk.at_) rfl
  have z0 := blk_cell HVb.out.b4 0 (.int .i64 0) rfl
  have zf0 := blk_free HVb.out.b4 0
  have y0 := blk_cell HVb.out.b6 0 ((.int .i64 0)) rfl
  have yf0 := blk_free HVb.out.b6 0
  have z1 := blk_cell HVb.out.b4 1 (.string ⟨#[]⟩) rfl
  have zf1 := blk_free HVb.out.b4 1
  have y1 := blk_cell HVb.out.b6 1 ((.string ⟨#[]⟩)) rfl
  have yf1 := blk_free HVb.out.b6 1
  have z2 := blk_cell HVb.out.b4 2 (.slice none 0 0) rfl
  have zf2 := blk_free HVb.out.b4 2
  have y2 := blk_cell HVb.out.b6 2 ((.slice none 0 0)) rfl
  have yf2 := blk_free HVb.out.b6 2
  have z3 := blk_cell HVb.out.b4 3 (.slice none 0 0) rfl
  have zf3 := blk_free HVb.out.b4 3
  have y3 := blk_cell HVb.out.b6 3 ((.slice none 0 0)) rfl
  have yf3 := blk_free HVb.out.b6 3
  have z4 := blk_cell HVb.out.b4 4 (.int .i64 0) rfl
  have zf4 := blk_free HVb.out.b4 4
  have y4 := blk_cell HVb.out.b6 4 ((.int .i64 tk.at_)) rfl
  have yf4 := blk_free HVb.out.b6 4
  by_cases hk2 : tk.kind = 2
  · have e2 := eqT (n := tk.kind) (k := 2) (by omega)
    have HE : Hid (Rd.value fixed (n + 1) s = (Rd.next s, .mk 2 (Rd.peek s).text [] [] (Rd.peek s).at_)) := by
      unfold Rd.value; dsimp only; rw [if_neg NB1.out, if_neg NB2.out, if_neg NB3.out, if_pos (by rw [← HTK.out]; exact hk2)]
      exact Lib.hid rfl
    clear hk2
    go_wp2_with fail
    refine (rnext_any b g s wb HVb.out.rd).mono ?_
    rintro r wn ⟨rfl, hn5, fn5⟩
    rw [← HTK.out]
    have HVn := Lib.hid (HVb.out.step hn5 fn5)
    clear hn5 fn5
    clear k2 k3 a0 a1 a2 z0 zf0 y0 yf0 z1 zf1 y1 yf1 z2 zf2 y2 yf2 z3 zf3 y3 yf3 z4 zf4 y4 yf4
    have k2 := blk_cell HVn.out.b2 0 (.pointer (some ⟨b, 0, none⟩)) rfl
    have k3 := blk_cell HVn.out.b3 0 (.bool fixed) rfl
    have a0 := blk_cell HVn.out.b5 0 (.int .i64 tk.kind) rfl
    have a1 := blk_cell HVn.out.b5 1 (.string ⟨tk.text.toArray⟩) rfl
    have a2 := blk_cell HVn.out.b5 2 (.int .i64 tk.at_) rfl
    have z0 := blk_cell HVn.out.b4 0 (.int .i64 0) rfl
    have zf0 := blk_free HVn.out.b4 0
    have y0 := blk_cell HVn.out.b6 0 ((.int .i64 0)) rfl
    have yf0 := blk_free HVn.out.b6 0
    have z1 := blk_cell HVn.out.b4 1 (.string ⟨#[]⟩) rfl
    have zf1 := blk_free HVn.out.b4 1
    have y1 := blk_cell HVn.out.b6 1 ((.string ⟨#[]⟩)) rfl
    have yf1 := blk_free HVn.out.b6 1
    have z2 := blk_cell HVn.out.b4 2 (.slice none 0 0) rfl
    have zf2 := blk_free HVn.out.b4 2
    have y2 := blk_cell HVn.out.b6 2 ((.slice none 0 0)) rfl
    have yf2 := blk_free HVn.out.b6 2
    have z3 := blk_cell HVn.out.b4 3 (.slice none 0 0) rfl
    have zf3 := blk_free HVn.out.b4 3
    have y3 := blk_cell HVn.out.b6 3 ((.slice none 0 0)) rfl
    have yf3 := blk_free HVn.out.b6 3
    have z4 := blk_cell HVn.out.b4 4 (.int .i64 0) rfl
    have zf4 := blk_free HVn.out.b4 4
    have y4 := blk_cell HVn.out.b6 4 ((.int .i64 tk.at_)) rfl
    have yf4 := blk_free HVn.out.b6 4
    have HVz := Lib.hid ((HVn.out.put 0 (.int .i64 2)).put 1 (.string ⟨tk.text.toArray⟩))
    go_wp2_with fail
    have hfin := (HVz).out.fin (cs := [.int .i64 2, .string ⟨tk.text.toArray⟩, .slice none 0 0, .slice none 0 0, .int .i64 tk.at_]) (leaf_reads _ 2 tk.at_ tk.text) (fun x hx => hx.elim)
    simp only [putCells, Nat.reduceAdd, Nat.zero_add] at hfin
    refine bodyPost_ret (v := .agg ([.int .i64 2, .string ⟨tk.text.toArray⟩, .slice none 0 0, .slice none 0 0, .int .i64 tk.at_]).toArray) (by simp [results, Tryz.results107, go_sem, z0, z1, z2, z3, z4, n1, n2, n3, n4, n5, n6, n7, n8]) rfl ?_
    rw [HE.out, ← HTK.out]
    exact ⟨_, rfl, hfin⟩
  have e2 := eqF (n := tk.kind) (k := 2) (by omega)
  have NK2 : Hid (¬ (Rd.peek s).kind = 2) := by rw [← HTK.out]; exact Lib.hid hk2
  by_cases hk3 : tk.kind = 3
  · have e3 := eqT (n := tk.kind) (k := 3) (by omega)
    have HE : Hid (Rd.value fixed (n + 1) s = (Rd.next s, .mk 3 (Rd.peek s).text [] [] (Rd.peek s).at_)) := by
      unfold Rd.value; dsimp only; rw [if_neg NB1.out, if_neg NB2.out, if_neg NB3.out, if_neg NK2.out, if_pos (by rw [← HTK.out]; exact hk3)]
      exact Lib.hid rfl
    clear hk2 hk3
    go_wp2_with fail
    refine (rnext_any b g s wb HVb.out.rd).mono ?_
    rintro r wn ⟨rfl, hn5, fn5⟩
    rw [← HTK.out]
    have HVn := Lib.hid (HVb.out.step hn5 fn5)
    clear hn5 fn5
    clear k2 k3 a0 a1 a2 z0 zf0 y0 yf0 z1 zf1 y1 yf1 z2 zf2 y2 yf2 z3 zf3 y3 yf3 z4 zf4 y4 yf4
    have k2 := blk_cell HVn.out.b2 0 (.pointer (some ⟨b, 0, none⟩)) rfl
    have k3 := blk_cell HVn.out.b3 0 (.bool fixed) rfl
    have a0 := blk_cell HVn.out.b5 0 (.int .i64 tk.kind) rfl
    have a1 := blk_cell HVn.out.b5 1 (.string ⟨tk.text.toArray⟩) rfl
    have a2 := blk_cell HVn.out.b5 2 (.int .i64 tk.at_) rfl
    have z0 := blk_cell HVn.out.b4 0 (.int .i64 0) rfl
    have zf0 := blk_free HVn.out.b4 0
    have y0 := blk_cell HVn.out.b6 0 ((.int .i64 0)) rfl
    have yf0 := blk_free HVn.out.b6 0
    have z1 := blk_cell HVn.out.b4 1 (.string ⟨#[]⟩) rfl
    have zf1 := blk_free HVn.out.b4 1
    have y1 := blk_cell HVn.out.b6 1 ((.string ⟨#[]⟩)) rfl
    have yf1 := blk_free HVn.out.b6 1
    have z2 := blk_cell HVn.out.b4 2 (.slice none 0 0) rfl
    have zf2 := blk_free HVn.out.b4 2
    have y2 := blk_cell HVn.out.b6 2 ((.slice none 0 0)) rfl
    have yf2 := blk_free HVn.out.b6 2
    have z3 := blk_cell HVn.out.b4 3 (.slice none 0 0) rfl
    have zf3 := blk_free HVn.out.b4 3
    have y3 := blk_cell HVn.out.b6 3 ((.slice none 0 0)) rfl
    have yf3 := blk_free HVn.out.b6 3
    have z4 := blk_cell HVn.out.b4 4 (.int .i64 0) rfl
    have zf4 := blk_free HVn.out.b4 4
    have y4 := blk_cell HVn.out.b6 4 ((.int .i64 tk.at_)) rfl
    have yf4 := blk_free HVn.out.b6 4
    have HVz := Lib.hid ((HVn.out.put 0 (.int .i64 3)).put 1 (.string ⟨tk.text.toArray⟩))
    go_wp2_with fail
    have hfin := (HVz).out.fin (cs := [.int .i64 3, .string ⟨tk.text.toArray⟩, .slice none 0 0, .slice none 0 0, .int .i64 tk.at_]) (leaf_reads _ 3 tk.at_ tk.text) (fun x hx => hx.elim)
    simp only [putCells, Nat.reduceAdd, Nat.zero_add] at hfin
    refine bodyPost_ret (v := .agg ([.int .i64 3, .string ⟨tk.text.toArray⟩, .slice none 0 0, .slice none 0 0, .int .i64 tk.at_]).toArray) (by simp [results, Tryz.results107, go_sem, z0, z1, z2, z3, z4, n1, n2, n3, n4, n5, n6, n7, n8]) rfl ?_
    rw [HE.out, ← HTK.out]
    exact ⟨_, rfl, hfin⟩
  have e3 := eqF (n := tk.kind) (k := 3) (by omega)
  have NK3 : Hid (¬ (Rd.peek s).kind = 3) := by rw [← HTK.out]; exact Lib.hid hk3
  by_cases hk4 : tk.kind = 4
  · have e4 := eqT (n := tk.kind) (k := 4) (by omega)
    have HE : Hid (Rd.value fixed (n + 1) s = (Rd.next s, .mk 4 (Rd.peek s).text [] [] (Rd.peek s).at_)) := by
      unfold Rd.value; dsimp only; rw [if_neg NB1.out, if_neg NB2.out, if_neg NB3.out, if_neg NK2.out, if_neg NK3.out, if_pos (by rw [← HTK.out]; exact hk4)]
      exact Lib.hid rfl
    clear hk2 hk3 hk4
    go_wp2_with fail
    refine (rnext_any b g s wb HVb.out.rd).mono ?_
    rintro r wn ⟨rfl, hn5, fn5⟩
    rw [← HTK.out]
    have HVn := Lib.hid (HVb.out.step hn5 fn5)
    clear hn5 fn5
    clear k2 k3 a0 a1 a2 z0 zf0 y0 yf0 z1 zf1 y1 yf1 z2 zf2 y2 yf2 z3 zf3 y3 yf3 z4 zf4 y4 yf4
    have k2 := blk_cell HVn.out.b2 0 (.pointer (some ⟨b, 0, none⟩)) rfl
    have k3 := blk_cell HVn.out.b3 0 (.bool fixed) rfl
    have a0 := blk_cell HVn.out.b5 0 (.int .i64 tk.kind) rfl
    have a1 := blk_cell HVn.out.b5 1 (.string ⟨tk.text.toArray⟩) rfl
    have a2 := blk_cell HVn.out.b5 2 (.int .i64 tk.at_) rfl
    have z0 := blk_cell HVn.out.b4 0 (.int .i64 0) rfl
    have zf0 := blk_free HVn.out.b4 0
    have y0 := blk_cell HVn.out.b6 0 ((.int .i64 0)) rfl
    have yf0 := blk_free HVn.out.b6 0
    have z1 := blk_cell HVn.out.b4 1 (.string ⟨#[]⟩) rfl
    have zf1 := blk_free HVn.out.b4 1
    have y1 := blk_cell HVn.out.b6 1 ((.string ⟨#[]⟩)) rfl
    have yf1 := blk_free HVn.out.b6 1
    have z2 := blk_cell HVn.out.b4 2 (.slice none 0 0) rfl
    have zf2 := blk_free HVn.out.b4 2
    have y2 := blk_cell HVn.out.b6 2 ((.slice none 0 0)) rfl
    have yf2 := blk_free HVn.out.b6 2
    have z3 := blk_cell HVn.out.b4 3 (.slice none 0 0) rfl
    have zf3 := blk_free HVn.out.b4 3
    have y3 := blk_cell HVn.out.b6 3 ((.slice none 0 0)) rfl
    have yf3 := blk_free HVn.out.b6 3
    have z4 := blk_cell HVn.out.b4 4 (.int .i64 0) rfl
    have zf4 := blk_free HVn.out.b4 4
    have y4 := blk_cell HVn.out.b6 4 ((.int .i64 tk.at_)) rfl
    have yf4 := blk_free HVn.out.b6 4
    have HVz := Lib.hid ((HVn.out.put 0 (.int .i64 4)).put 1 (.string ⟨tk.text.toArray⟩))
    go_wp2_with fail
    have hfin := (HVz).out.fin (cs := [.int .i64 4, .string ⟨tk.text.toArray⟩, .slice none 0 0, .slice none 0 0, .int .i64 tk.at_]) (leaf_reads _ 4 tk.at_ tk.text) (fun x hx => hx.elim)
    simp only [putCells, Nat.reduceAdd, Nat.zero_add] at hfin
    refine bodyPost_ret (v := .agg ([.int .i64 4, .string ⟨tk.text.toArray⟩, .slice none 0 0, .slice none 0 0, .int .i64 tk.at_]).toArray) (by simp [results, Tryz.results107, go_sem, z0, z1, z2, z3, z4, n1, n2, n3, n4, n5, n6, n7, n8]) rfl ?_
    rw [HE.out, ← HTK.out]
    exact ⟨_, rfl, hfin⟩
  have e4 := eqF (n := tk.kind) (k := 4) (by omega)
  have NK4 : Hid (¬ (Rd.peek s).kind = 4) := by rw [← HTK.out]; exact Lib.hid hk4
  clear hk2 hk3 hk4
  go_wp2_with fail
  refine (rword1_any b g s Rd.sNull _ wb HVb.out.rd).mono ?_
  rintro r wc ⟨rfl, hbc⟩
  have HVc := Lib.hid (HVb.out.below hbc)
  clear k2 k3 a0 a1 a2 z0 zf0 y0 yf0 z1 zf1 y1 yf1 z2 zf2 y2 yf2 z3 zf3 y3 yf3 z4 zf4 y4 yf4
  clear hbc e2 e3 e4
  obtain ⟨B4, hB4⟩ : ∃ B, B = Rd.isW s [Rd.sNull] := ⟨_, rfl⟩
  have HB4 := Lib.hid hB4
  rw [← hB4]
  clear hB4
  have k2 := blk_cell HVc.out.b2 0 (.pointer (some ⟨b, 0, none⟩)) rfl
  have k3 := blk_cell HVc.out.b3 0 (.bool fixed) rfl
  have a0 := blk_cell HVc.out.b5 0 (.int .i64 tk.kind) rfl
  have a1 := blk_cell HVc.out.b5 1 (.string ⟨tk.text.toArray⟩) rfl
  have a2 := blk_cell HVc.out.b5 2 (.int .i64 tk.at_) rfl
  have z0 := blk_cell HVc.out.b4 0 (.int .i64 0) rfl
  have zf0 := blk_free HVc.out.b4 0
  have y0 := blk_cell HVc.out.b6 0 ((.int .i64 0)) rfl
  have yf0 := blk_free HVc.out.b6 0
  have z1 := blk_cell HVc.out.b4 1 (.string ⟨#[]⟩) rfl
  have zf1 := blk_free HVc.out.b4 1
  have y1 := blk_cell HVc.out.b6 1 ((.string ⟨#[]⟩)) rfl
  have yf1 := blk_free HVc.out.b6 1
  have z2 := blk_cell HVc.out.b4 2 (.slice none 0 0) rfl
  have zf2 := blk_free HVc.out.b4 2
  have y2 := blk_cell HVc.out.b6 2 ((.slice none 0 0)) rfl
  have yf2 := blk_free HVc.out.b6 2
  have z3 := blk_cell HVc.out.b4 3 (.slice none 0 0) rfl
  have zf3 := blk_free HVc.out.b4 3
  have y3 := blk_cell HVc.out.b6 3 ((.slice none 0 0)) rfl
  have yf3 := blk_free HVc.out.b6 3
  have z4 := blk_cell HVc.out.b4 4 (.int .i64 0) rfl
  have zf4 := blk_free HVc.out.b4 4
  have y4 := blk_cell HVc.out.b6 4 ((.int .i64 tk.at_)) rfl
  have yf4 := blk_free HVc.out.b6 4
  cases B4
  rotate_left
  · -- null
    have HE : Hid (Rd.value fixed (n + 1) s = (Rd.next s, .mk 6 [] [] [] (Rd.peek s).at_)) := by
      unfold Rd.value; dsimp only; rw [if_neg NB1.out, if_neg NB2.out, if_neg NB3.out, if_neg NK2.out, if_neg NK3.out, if_neg NK4.out, if_pos HB4.out.symm]
      exact Lib.hid rfl
    go_wp2_with fail
    refine (rnext_any b g s _ ((HVc.out.put 0 (.int .i64 6)).rd)).mono ?_
    rintro r wn ⟨rfl, hn5, fn5⟩
    have HVn : Hid (VI w b g t5 t6 fixed tk #[.int .i64 6, .string ⟨#[]⟩, .slice none 0 0, .slice none 0 0, .int .i64 tk.at_] (Rd.next s) wn) := Lib.hid ((HVc.out.put 0 (.int .i64 6)).step hn5 fn5)
    clear hn5 fn5
    clear k2 k3 a0 a1 a2 z0 zf0 y0 yf0 z1 zf1 y1 yf1 z2 zf2 y2 yf2 z3 zf3 y3 yf3 z4 zf4 y4 yf4
    have k2 := blk_cell HVn.out.b2 0 (.pointer (some ⟨b, 0, none⟩)) rfl
    have k3 := blk_cell HVn.out.b3 0 (.bool fixed) rfl
    have a0 := blk_cell HVn.out.b5 0 (.int .i64 tk.kind) rfl
    have a1 := blk_cell HVn.out.b5 1 (.string ⟨tk.text.toArray⟩) rfl
    have a2 := blk_cell HVn.out.b5 2 (.int .i64 tk.at_) rfl
    have z0 := blk_cell HVn.out.b4 0 (.int .i64 0) rfl
    have zf0 := blk_free HVn.out.b4 0
    have y0 := blk_cell HVn.out.b6 0 ((.int .i64 6)) rfl
    have yf0 := blk_free HVn.out.b6 0
    have z1 := blk_cell HVn.out.b4 1 (.string ⟨#[]⟩) rfl
    have zf1 := blk_free HVn.out.b4 1
    have y1 := blk_cell HVn.out.b6 1 ((.string ⟨#[]⟩)) rfl
    have yf1 := blk_free HVn.out.b6 1
    have z2 := blk_cell HVn.out.b4 2 (.slice none 0 0) rfl
    have zf2 := blk_free HVn.out.b4 2
    have y2 := blk_cell HVn.out.b6 2 ((.slice none 0 0)) rfl
    have yf2 := blk_free HVn.out.b6 2
    have z3 := blk_cell HVn.out.b4 3 (.slice none 0 0) rfl
    have zf3 := blk_free HVn.out.b4 3
    have y3 := blk_cell HVn.out.b6 3 ((.slice none 0 0)) rfl
    have yf3 := blk_free HVn.out.b6 3
    have z4 := blk_cell HVn.out.b4 4 (.int .i64 0) rfl
    have zf4 := blk_free HVn.out.b4 4
    have y4 := blk_cell HVn.out.b6 4 ((.int .i64 tk.at_)) rfl
    have yf4 := blk_free HVn.out.b6 4
    go_wp2_with fail
    have hfin := (HVn).out.fin (cs := [.int .i64 6, .string ⟨#[]⟩, .slice none 0 0, .slice none 0 0, .int .i64 tk.at_]) (leaf_reads _ 6 tk.at_ []) (fun x hx => hx.elim)
    simp only [putCells, Nat.reduceAdd, Nat.zero_add] at hfin
    refine bodyPost_ret (v := .agg ([.int .i64 6, .string ⟨#[]⟩, .slice none 0 0, .slice none 0 0, .int .i64 tk.at_]).toArray) (by simp [results, Tryz.results107, go_sem, z0, z1, z2, z3, z4, n1, n2, n3, n4, n5, n6, n7, n8]) rfl ?_
    rw [HE.out, ← HTK.out]
    exact ⟨_, rfl, hfin⟩
  have NB4 : Hid (¬ Rd.isW s [Rd.sNull] = true) := by rw [← HB4.out]; exact Lib.hid (by simp)
  clear HB4
  go_wp2_with fail
  refine (rword2_any b g s Rd.sTrue Rd.sFalse _ wc HVc.out.rd).mono ?_
  rintro r wd ⟨rfl, hbd⟩
  have HVd := Lib.hid (HVc.out.below hbd)
  clear k2 k3 a0 a1 a2 z0 zf0 y0 yf0 z1 zf1 y1 yf1 z2 zf2 y2 yf2 z3 zf3 y3 yf3 z4 zf4 y4 yf4
  clear hbd
  obtain ⟨B5, hB5⟩ : ∃ B, B = Rd.isW s [Rd.sTrue, Rd.sFalse] := ⟨_, rfl⟩
  have HB5 := Lib.hid hB5
  rw [← hB5]
  clear hB5
  have k2 := blk_cell HVd.out.b2 0 (.pointer (some ⟨b, 0, none⟩)) rfl
  have k3 := blk_cell HVd.out.b3 0 (.bool fixed) rfl
  have a0 := blk_cell HVd.out.b5 0 (.int .i64 tk.kind) rfl
  have a1 := blk_cell HVd.out.b5 1 (.string ⟨tk.text.toArray⟩) rfl
  have a2 := blk_cell HVd.out.b5 2 (.int .i64 tk.at_) rfl
  have z0 := blk_cell HVd.out.b4 0 (.int .i64 0) rfl
  have zf0 := blk_free HVd.out.b4 0
  have y0 := blk_cell HVd.out.b6 0 ((.int .i64 0)) rfl
  have yf0 := blk_free HVd.out.b6 0
  have z1 := blk_cell HVd.out.b4 1 (.string ⟨#[]⟩) rfl
  have zf1 := blk_free HVd.out.b4 1
  have y1 := blk_cell HVd.out.b6 1 ((.string ⟨#[]⟩)) rfl
  have yf1 := blk_free HVd.out.b6 1
  have z2 := blk_cell HVd.out.b4 2 (.slice none 0 0) rfl
  have zf2 := blk_free HVd.out.b4 2
  have y2 := blk_cell HVd.out.b6 2 ((.slice none 0 0)) rfl
  have yf2 := blk_free HVd.out.b6 2
  have z3 := blk_cell HVd.out.b4 3 (.slice none 0 0) rfl
  have zf3 := blk_free HVd.out.b4 3
  have y3 := blk_cell HVd.out.b6 3 ((.slice none 0 0)) rfl
  have yf3 := blk_free HVd.out.b6 3
  have z4 := blk_cell HVd.out.b4 4 (.int .i64 0) rfl
  have zf4 := blk_free HVd.out.b4 4
  have y4 := blk_cell HVd.out.b6 4 ((.int .i64 tk.at_)) rfl
  have yf4 := blk_free HVd.out.b6 4
  cases B5
  rotate_left
  · -- true, false
    have HE : Hid (Rd.value fixed (n + 1) s = (Rd.next s, .mk 5 (Rd.peek s).text [] [] (Rd.peek s).at_)) := by
      unfold Rd.value; dsimp only; rw [if_neg NB1.out, if_neg NB2.out, if_neg NB3.out, if_neg NK2.out, if_neg NK3.out, if_neg NK4.out, if_neg NB4.out, if_pos HB5.out.symm]
      exact Lib.hid rfl
    go_wp2_with fail
    refine (rnext_any b g s wd HVd.out.rd).mono ?_
    rintro r wn ⟨rfl, hn5, fn5⟩
    rw [← HTK.out]
    have HVn := Lib.hid (HVd.out.step hn5 fn5)
    clear hn5 fn5
    clear k2 k3 a0 a1 a2 z0 zf0 y0 yf0 z1 zf1 y1 yf1 z2 zf2 y2 yf2 z3 zf3 y3 yf3 z4 zf4 y4 yf4
    have k2 := blk_cell HVn.out.b2 0 (.pointer (some ⟨b, 0, none⟩)) rfl
    have k3 := blk_cell HVn.out.b3 0 (.bool fixed) rfl
    have a0 := blk_cell HVn.out.b5 0 (.int .i64 tk.kind) rfl
    have a1 := blk_cell HVn.out.b5 1 (.string ⟨tk.text.toArray⟩) rfl
    have a2 := blk_cell HVn.out.b5 2 (.int .i64 tk.at_) rfl
    have z0 := blk_cell HVn.out.b4 0 (.int .i64 0) rfl
    have zf0 := blk_free HVn.out.b4 0
    have y0 := blk_cell HVn.out.b6 0 ((.int .i64 0)) rfl
    have yf0 := blk_free HVn.out.b6 0
    have z1 := blk_cell HVn.out.b4 1 (.string ⟨#[]⟩) rfl
    have zf1 := blk_free HVn.out.b4 1
    have y1 := blk_cell HVn.out.b6 1 ((.string ⟨#[]⟩)) rfl
    have yf1 := blk_free HVn.out.b6 1
    have z2 := blk_cell HVn.out.b4 2 (.slice none 0 0) rfl
    have zf2 := blk_free HVn.out.b4 2
    have y2 := blk_cell HVn.out.b6 2 ((.slice none 0 0)) rfl
    have yf2 := blk_free HVn.out.b6 2
    have z3 := blk_cell HVn.out.b4 3 (.slice none 0 0) rfl
    have zf3 := blk_free HVn.out.b4 3
    have y3 := blk_cell HVn.out.b6 3 ((.slice none 0 0)) rfl
    have yf3 := blk_free HVn.out.b6 3
    have z4 := blk_cell HVn.out.b4 4 (.int .i64 0) rfl
    have zf4 := blk_free HVn.out.b4 4
    have y4 := blk_cell HVn.out.b6 4 ((.int .i64 tk.at_)) rfl
    have yf4 := blk_free HVn.out.b6 4
    have HVz := Lib.hid ((HVn.out.put 0 (.int .i64 5)).put 1 (.string ⟨tk.text.toArray⟩))
    go_wp2_with fail
    have hfin := (HVz).out.fin (cs := [.int .i64 5, .string ⟨tk.text.toArray⟩, .slice none 0 0, .slice none 0 0, .int .i64 tk.at_]) (leaf_reads _ 5 tk.at_ tk.text) (fun x hx => hx.elim)
    simp only [putCells, Nat.reduceAdd, Nat.zero_add] at hfin
    refine bodyPost_ret (v := .agg ([.int .i64 5, .string ⟨tk.text.toArray⟩, .slice none 0 0, .slice none 0 0, .int .i64 tk.at_]).toArray) (by simp [results, Tryz.results107, go_sem, z0, z1, z2, z3, z4, n1, n2, n3, n4, n5, n6, n7, n8]) rfl ?_
    rw [HE.out, ← HTK.out]
    exact ⟨_, rfl, hfin⟩
  have NB5 : Hid (¬ Rd.isW s [Rd.sTrue, Rd.sFalse] = true) := by rw [← HB5.out]; exact Lib.hid (by simp)
  clear HB5
  go_wp2_with fail
  refine (rword0_any b g s wd HVd.out.rd).mono ?_
  rintro r we ⟨rfl, hbe⟩
  have HVe := Lib.hid (HVd.out.below hbe)
  clear k2 k3 a0 a1 a2 z0 zf0 y0 yf0 z1 zf1 y1 yf1 z2 zf2 y2 yf2 z3 zf3 y3 yf3 z4 zf4 y4 yf4
  clear hbe
  obtain ⟨B6, hB6⟩ : ∃ B, B = Rd.isN s := ⟨_, rfl⟩
  have HB6 := Lib.hid hB6
  rw [← hB6]
  clear hB6
  have k2 := blk_cell HVe.out.b2 0 (.pointer (some ⟨b, 0, none⟩)) rfl
  have k3 := blk_cell HVe.out.b3 0 (.bool fixed) rfl
  have a0 := blk_cell HVe.out.b5 0 (.int .i64 tk.kind) rfl
  have a1 := blk_cell HVe.out.b5 1 (.string ⟨tk.text.toArray⟩) rfl
  have a2 := blk_cell HVe.out.b5 2 (.int .i64 tk.at_) rfl
  have z0 := blk_cell HVe.out.b4 0 (.int .i64 0) rfl
  have zf0 := blk_free HVe.out.b4 0
  have y0 := blk_cell HVe.out.b6 0 ((.int .i64 0)) rfl
  have yf0 := blk_free HVe.out.b6 0
  have z1 := blk_cell HVe.out.b4 1 (.string ⟨#[]⟩) rfl
  have zf1 := blk_free HVe.out.b4 1
  have y1 := blk_cell HVe.out.b6 1 ((.string ⟨#[]⟩)) rfl
  have yf1 := blk_free HVe.out.b6 1
  have z2 := blk_cell HVe.out.b4 2 (.slice none 0 0) rfl
  have zf2 := blk_free HVe.out.b4 2
  have y2 := blk_cell HVe.out.b6 2 ((.slice none 0 0)) rfl
  have yf2 := blk_free HVe.out.b6 2
  have z3 := blk_cell HVe.out.b4 3 (.slice none 0 0) rfl
  have zf3 := blk_free HVe.out.b4 3
  have y3 := blk_cell HVe.out.b6 3 ((.slice none 0 0)) rfl
  have yf3 := blk_free HVe.out.b6 3
  have z4 := blk_cell HVe.out.b4 4 (.int .i64 0) rfl
  have zf4 := blk_free HVe.out.b4 4
  have y4 := blk_cell HVe.out.b6 4 ((.int .i64 tk.at_)) rfl
  have yf4 := blk_free HVe.out.b6 4
  cases B6
  rotate_left
  · -- a name
    have HE : Hid (Rd.value fixed (n + 1) s = (Rd.next s, .mk 7 (Rd.peek s).text [] [] (Rd.peek s).at_)) := by
      unfold Rd.value; dsimp only; rw [if_neg NB1.out, if_neg NB2.out, if_neg NB3.out, if_neg NK2.out, if_neg NK3.out, if_neg NK4.out, if_neg NB4.out, if_neg NB5.out, if_pos HB6.out.symm]
      exact Lib.hid rfl
    go_wp2_with fail
    refine (rnext_any b g s we HVe.out.rd).mono ?_
    rintro r wn ⟨rfl, hn5, fn5⟩
    rw [← HTK.out]
    have HVn := Lib.hid (HVe.out.step hn5 fn5)
    clear hn5 fn5
    clear k2 k3 a0 a1 a2 z0 zf0 y0 yf0 z1 zf1 y1 yf1 z2 zf2 y2 yf2 z3 zf3 y3 yf3 z4 zf4 y4 yf4
    have k2 := blk_cell HVn.out.b2 0 (.pointer (some ⟨b, 0, none⟩)) rfl
    have k3 := blk_cell HVn.out.b3 0 (.bool fixed) rfl
    have a0 := blk_cell HVn.out.b5 0 (.int .i64 tk.kind) rfl
    have a1 := blk_cell HVn.out.b5 1 (.string ⟨tk.text.toArray⟩) rfl
    have a2 := blk_cell HVn.out.b5 2 (.int .i64 tk.at_) rfl
    have z0 := blk_cell HVn.out.b4 0 (.int .i64 0) rfl
    have zf0 := blk_free HVn.out.b4 0
    have y0 := blk_cell HVn.out.b6 0 ((.int .i64 0)) rfl
    have yf0 := blk_free HVn.out.b6 0
    have z1 := blk_cell HVn.out.b4 1 (.string ⟨#[]⟩) rfl
    have zf1 := blk_free HVn.out.b4 1
    have y1 := blk_cell HVn.out.b6 1 ((.string ⟨#[]⟩)) rfl
    have yf1 := blk_free HVn.out.b6 1
    have z2 := blk_cell HVn.out.b4 2 (.slice none 0 0) rfl
    have zf2 := blk_free HVn.out.b4 2
    have y2 := blk_cell HVn.out.b6 2 ((.slice none 0 0)) rfl
    have yf2 := blk_free HVn.out.b6 2
    have z3 := blk_cell HVn.out.b4 3 (.slice none 0 0) rfl
    have zf3 := blk_free HVn.out.b4 3
    have y3 := blk_cell HVn.out.b6 3 ((.slice none 0 0)) rfl
    have yf3 := blk_free HVn.out.b6 3
    have z4 := blk_cell HVn.out.b4 4 (.int .i64 0) rfl
    have zf4 := blk_free HVn.out.b4 4
    have y4 := blk_cell HVn.out.b6 4 ((.int .i64 tk.at_)) rfl
    have yf4 := blk_free HVn.out.b6 4
    have HVz := Lib.hid ((HVn.out.put 0 (.int .i64 7)).put 1 (.string ⟨tk.text.toArray⟩))
    go_wp2_with fail
    have hfin := (HVz).out.fin (cs := [.int .i64 7, .string ⟨tk.text.toArray⟩, .slice none 0 0, .slice none 0 0, .int .i64 tk.at_]) (leaf_reads _ 7 tk.at_ tk.text) (fun x hx => hx.elim)
    simp only [putCells, Nat.reduceAdd, Nat.zero_add] at hfin
    refine bodyPost_ret (v := .agg ([.int .i64 7, .string ⟨tk.text.toArray⟩, .slice none 0 0, .slice none 0 0, .int .i64 tk.at_]).toArray) (by simp [results, Tryz.results107, go_sem, z0, z1, z2, z3, z4, n1, n2, n3, n4, n5, n6, n7, n8]) rfl ?_
    rw [HE.out, ← HTK.out]
    exact ⟨_, rfl, hfin⟩
  · -- nothing that fits
    have HE : Hid (Rd.value fixed (n + 1) s = (Rd.wrong s, .mk 0 [] [] [] (Rd.peek s).at_)) := by
      unfold Rd.value; dsimp only; rw [if_neg NB1.out, if_neg NB2.out, if_neg NB3.out, if_neg NK2.out, if_neg NK3.out, if_neg NK4.out, if_neg NB4.out, if_neg NB5.out, if_neg (by rw [← HB6.out]; simp)]
      exact Lib.hid rfl
    go_wp2_with fail
    refine (rwrong_any b g s we HVe.out.rd).mono ?_
    rintro r wn ⟨rfl, hn5, fn5⟩
    have HVn := Lib.hid (HVe.out.step hn5 fn5)
    clear hn5 fn5
    clear k2 k3 a0 a1 a2 z0 zf0 y0 yf0 z1 zf1 y1 yf1 z2 zf2 y2 yf2 z3 zf3 y3 yf3 z4 zf4 y4 yf4
    have k2 := blk_cell HVn.out.b2 0 (.pointer (some ⟨b, 0, none⟩)) rfl
    have k3 := blk_cell HVn.out.b3 0 (.bool fixed) rfl
    have a0 := blk_cell HVn.out.b5 0 (.int .i64 tk.kind) rfl
    have a1 := blk_cell HVn.out.b5 1 (.string ⟨tk.text.toArray⟩) rfl
    have a2 := blk_cell HVn.out.b5 2 (.int .i64 tk.at_) rfl
    have z0 := blk_cell HVn.out.b4 0 (.int .i64 0) rfl
    have zf0 := blk_free HVn.out.b4 0
    have y0 := blk_cell HVn.out.b6 0 ((.int .i64 0)) rfl
    have yf0 := blk_free HVn.out.b6 0
    have z1 := blk_cell HVn.out.b4 1 (.string ⟨#[]⟩) rfl
    have zf1 := blk_free HVn.out.b4 1
    have y1 := blk_cell HVn.out.b6 1 ((.string ⟨#[]⟩)) rfl
    have yf1 := blk_free HVn.out.b6 1
    have z2 := blk_cell HVn.out.b4 2 (.slice none 0 0) rfl
    have zf2 := blk_free HVn.out.b4 2
    have y2 := blk_cell HVn.out.b6 2 ((.slice none 0 0)) rfl
    have yf2 := blk_free HVn.out.b6 2
    have z3 := blk_cell HVn.out.b4 3 (.slice none 0 0) rfl
    have zf3 := blk_free HVn.out.b4 3
    have y3 := blk_cell HVn.out.b6 3 ((.slice none 0 0)) rfl
    have yf3 := blk_free HVn.out.b6 3
    have z4 := blk_cell HVn.out.b4 4 (.int .i64 0) rfl
    have zf4 := blk_free HVn.out.b4 4
    have y4 := blk_cell HVn.out.b6 4 ((.int .i64 tk.at_)) rfl
    have yf4 := blk_free HVn.out.b6 4
    go_wp2_with fail
    have hfin := (HVn).out.fin (cs := [.int .i64 0, .string ⟨#[]⟩, .slice none 0 0, .slice none 0 0, .int .i64 tk.at_]) (leaf_reads _ 0 tk.at_ []) (fun x hx => hx.elim)
    simp only [putCells, Nat.reduceAdd, Nat.zero_add] at hfin
    refine bodyPost_ret (v := .agg ([.int .i64 0, .string ⟨#[]⟩, .slice none 0 0, .slice none 0 0, .int .i64 tk.at_]).toArray) (by simp [results, Tryz.results107, go_sem, z0, z1, z2, z3, z4, n1, n2, n3, n4, n5, n6, n7, n8]) rfl ?_
    rw [HE.out, ← HTK.out]
    exact ⟨_, rfl, hfin⟩
end Go.Proofs.YtmgoebfcfgilfaaGreatDoor
