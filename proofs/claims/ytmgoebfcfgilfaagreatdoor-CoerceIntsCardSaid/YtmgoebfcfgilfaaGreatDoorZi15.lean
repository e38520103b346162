/-
  Values as data in memory; a captured variable that grows. The reader: what is done for each item of a list, each field of an object, each argument (closures), walked.
-/
import Derived.Test.YtmgoebfcfgilfaaGreatDoorZi14
import Derived.Test.YtmgoebfcfgilfaaGreatDoorZi7
import Derived.Maps.AppendAt
namespace Go.Proofs.YtmgoebfcfgilfaaGreatDoor
set_option linter.unusedSimpArgs false
set_option linter.unusedVariables false
open Go Go.RowKit

namespace Rd
mutual
def V.d : V → D
  | .mk k t items fields a => .obj [.int k, .str t, .seq 5 (V.dl items), .seq 7 (A.dl fields), .int a]
def V.dl : List V → List D
  | [] => []
  | x :: r => V.d x :: V.dl r
def A.d : A → D
  | .mk n v a => .obj [.str n, V.d v, .int a]
def A.dl : List A → List D
  | [] => []
  | x :: r => A.d x :: A.dl r
end
theorem V.dl_map : ∀ l : List V, V.dl l = l.map V.d
  | [] => rfl
  | x :: r => by rw [V.dl, V.dl_map r]; rfl
theorem A.dl_map : ∀ l : List A, A.dl l = l.map A.d
  | [] => rfl
  | x :: r => by rw [A.dl, A.dl_map r]; rfl
end Rd

/-- A block that is kept: a box, a result's place. -/
abbrev Box := Nat × Obj
/-- Behind a block and boxes. -/
def LB (t6 : Nat) (bx : List Box) : Nat := bx.foldr (fun p m => max (p.1 + 1) m) (t6 + 1)
theorem LB_t6 (t6 : Nat) : ∀ (bx : List Box), t6 + 1 ≤ LB t6 bx
  | [] => Nat.le_refl _
  | p :: bx => Nat.le_trans (LB_t6 t6 bx) (Nat.le_max_right _ _)
theorem LB_box {t6 : Nat} {p : Box} : ∀ {bx : List Box}, p ∈ bx → p.1 + 1 ≤ LB t6 bx
  | q :: bx, h => by
    show _ ≤ max (q.1 + 1) (LB t6 bx)
    rcases List.mem_cons.1 h with rfl | h
    · exact Nat.le_max_left _ _
    · exact Nat.le_trans (LB_box h) (Nat.le_max_right _ _)
theorem LB_le {t6 n : Nat} (h6 : t6 < n) : ∀ {bx : List Box}, (∀ p ∈ bx, p.1 < n) → LB t6 bx ≤ n
  | [], _ => h6
  | q :: bx, h => Nat.max_le.2 ⟨h q List.mem_cons_self, LB_le h6 (fun p hp => h p (List.mem_cons_of_mem _ hp))⟩
/-- A variable in block t6 whose one cell grows, beside boxes that a closure reads (the reader's pointer; what is told it). -/
structure LI (w0 : World) (b g t6 : Nat) (bx : List Box) (T6 : TypeId) (mk : Value → Array Value) (E : TypeId) (k : Nat) (s : Rd.St) (ds : List D) (w : World) : Prop where
  rd : RdAt w b g s
  cb : ∀ p ∈ bx, w.heap[p.1]? = some p.2
  ex : ∃ v, w.heap[t6]? = some (.cells (mk v) T6 (0, 0)) ∧ Grows w (fun x => t6 < x ∧ v.ownBlock ≠ some x) (LB t6 bx) E k v ds
  fr : Fr b w0 w
  lb : b < w0.heap.size
  lg : g < w0.heap.size
  lx0 : ∀ p ∈ bx, w0.heap.size ≤ p.1 ∧ p.1 ≠ t6
  l6 : w0.heap.size ≤ t6
section
variable {w0 w w' : World} {b g t6 k : Nat} {bx : List Box} {T6 E : TypeId} {mk : Value → Array Value} {s s' : Rd.St} {ds : List D}
theorem LI.lx (h : LI w0 b g t6 bx T6 mk E k s ds w) : ∀ p ∈ bx, w0.heap.size ≤ p.1 ∧ p.1 ≠ t6 ∧ p.1 < LB t6 bx := fun p hp => ⟨(h.lx0 p hp).1, (h.lx0 p hp).2, LB_box hp⟩
theorem LI.low (h : LI w0 b g t6 bx T6 mk E k s ds w) : LB t6 bx ≤ w.heap.size := by
  obtain ⟨v, h1, h2⟩ := h.ex
  exact LB_le (block_lt h1) (fun p hp => block_lt (h.cb p hp))
/-- A call that writes the reader alone. -/
theorem LI.step (h : LI w0 b g t6 bx T6 mk E k s ds w) (hr : RdAt w' b g s') (hf : Fr b w w') : LI w0 b g t6 bx T6 mk E k s' ds w' := by
  obtain ⟨v, h1, h2⟩ := h.ex
  have e : ∀ x, x < w.heap.size → x ≠ b → w'.heap[x]? = w.heap[x]? := fun x hx hb => hf.block x hx hb
  have lb := h.lb
  have l6 := h.l6
  have hL := LB_t6 t6 bx
  refine ⟨hr, fun p hp => ?_, ⟨v, by rw [e _ (block_lt h1) (by omega)]; exact h1, h2.to ?_ (fun x hx => ⟨fun y => y.2 hx, e _ (h2.lt x hx).2 (by have := (h2.lt x hx).1; omega)⟩)⟩, h.fr.trans hf, h.lb, h.lg, h.lx0, h.l6⟩
  · have hp1 := h.cb p hp
    have hp2 := h.lx p hp
    rw [e _ (block_lt hp1) (by omega)]
    exact hp1
  · exact ⟨hf.size, fun x hx hp => ⟨hp, e x hx (by omega)⟩⟩
theorem LI.below (h : LI w0 b g t6 bx T6 mk E k s ds w) (hb : Below w.heap.size w w') : LI w0 b g t6 bx T6 mk E k s ds w' := h.step (h.rd.below hb) (But.of_below hb)
theorem LI.cellx (h : LI w0 b g t6 bx T6 mk E k s ds w) {t : Nat} {v : Value} {T : TypeId} (hp : (t, Obj.cells #[v] T (0, 0)) ∈ bx) : w.cell? ⟨t, 0, none⟩ = some v := by
  have := h.cb _ hp
  simp only at this
  simp [World.cell?, this]
/-- A box's cell, behind a call that writes the reader alone. -/
theorem LI.cellf (h : LI w0 b g t6 bx T6 mk E k s ds w) (hf : Fr b w w') {t : Nat} {v : Value} {T : TypeId} (hp : (t, Obj.cells #[v] T (0, 0)) ∈ bx) : w'.cell? ⟨t, 0, none⟩ = some v := by
  have hp1 := h.cb _ hp
  have hp2 := h.lx _ hp
  have := h.lb
  simp only at hp1 hp2
  rw [hf.cell (p := ⟨t, 0, none⟩) (block_lt hp1) (by show ¬ t = b; omega)]
  exact h.cellx hp
end
/-- Cells stored one behind the other. -/
def putCells (w : World) (g o : Nat) : List Value → World
  | [] => w
  | c :: cs => putCells (w.setCell ⟨g, o, none⟩ c) g (o + 1) cs
theorem putCells_size (g : Nat) : ∀ (cs : List Value) (o : Nat) (w : World), (putCells w g o cs).heap.size = w.heap.size
  | [], o, w => rfl
  | c :: cs, o, w => by
    show (putCells _ g (o + 1) cs).heap.size = _
    rw [putCells_size g cs, size_set]
theorem putCells_ne (g x : Nat) (h : x ≠ g) : ∀ (cs : List Value) (o : Nat) (w : World), (putCells w g o cs).heap[x]? = w.heap[x]?
  | [], o, w => rfl
  | c :: cs, o, w => by
    show (putCells _ g (o + 1) cs).heap[x]? = _
    rw [putCells_ne g x h cs, heap_set_ne h]
theorem putCells_os (g : Nat) : ∀ (cs : List Value) (o : Nat) (w : World), (putCells w g o cs).os = w.os ∧ (putCells w g o cs).tape = w.tape ∧ (putCells w g o cs).output = w.output
  | [], o, w => ⟨rfl, rfl, rfl⟩
  | c :: cs, o, w => putCells_os g cs (o + 1) _
theorem putCells_row {base k n g cap : Nat} {E : TypeId} : ∀ (cs zs : List Value) (xs : List Value) (w : World), zs.length = cs.length →
    w.ownsRow base E k (.slice (some ⟨g, 0, none⟩) n cap) n (xs ++ zs) → (putCells w g xs.length cs).ownsRow base E k (.slice (some ⟨g, 0, none⟩) n cap) n (xs ++ cs)
  | [], zs, xs, w, hl, h => by
    have : zs = [] := List.eq_nil_of_length_eq_zero hl
    subst this
    exact h
  | c :: cs, [], xs, w, hl, h => by cases hl
  | c :: cs, z :: zs, xs, w, hl, h => by
    have h1 := (h.stored xs.length c).1
    have e : (xs ++ z :: zs).set xs.length c = (xs ++ [c]) ++ zs := by
      rw [List.set_append_right _ _ (Nat.le_refl _), Nat.sub_self, List.append_assoc]
      rfl
    rw [e] at h1
    have h2 := putCells_row cs zs (xs ++ [c]) _ (by simpa using hl) h1
    rw [List.length_append, List.append_assoc] at h2
    exact h2
section
variable {w0 w w8 w' : World} {b g t6 k : Nat} {bx : List Box} {T6 E : TypeId} {mk : Value → Array Value} {s : Rd.St} {ds : List D} {d : D} {cs xs : List Value} {v v' : Value} {g' : Nat}
/-- One more. -/
theorem LI.more (h : LI w0 b g t6 bx T6 mk E k s ds w) (hx : w.ownsRow (LB t6 bx) E k v ds.length xs) (hR : RowsD w (fun x => t6 < x ∧ v.ownBlock ≠ some x) k ds xs) (hd : Reads w (fun x => t6 < x ∧ v.ownBlock ≠ some x) d cs)
    (hlen : cs.length = k) (hg : w.grownBy w8 v.ownBlock) (hg' : v'.ownBlock = some g') (hlo : LB t6 bx ≤ g') (hloc : v'.ownBlock = v.ownBlock ∨ v'.ownBlock = some w.heap.size)
    (hrow : w'.ownsRow (LB t6 bx) E k v' (ds.length + 1) (xs ++ cs)) (h6' : w'.heap[t6]? = some (.cells (mk v') T6 (0, 0))) (hsz : w8.heap.size ≤ w'.heap.size)
    (hk : ∀ x, x ≠ t6 → x ≠ g' → w'.heap[x]? = w8.heap[x]?) (ho : w'.os = w8.os ∧ w'.tape = w8.tape ∧ w'.output = w8.output) :
    LI w0 b g t6 bx T6 mk E k s (ds ++ [d]) w' := by
  have lb := h.lb
  have lg := h.lg
  have l6 := h.l6
  have hL := LB_t6 t6 bx
  have hv : ∀ x, v.ownBlock = some x → LB t6 bx ≤ x ∧ x < w.heap.size := hx.lt
  have e8 : ∀ x, x < w.heap.size → v.ownBlock ≠ some x → w8.heap[x]? = w.heap[x]? := fun x hx2 hne => hg.block x hx2 (fun e => hne e.symm)
  have e' : ∀ x, x < w.heap.size → v.ownBlock ≠ some x → x ≠ t6 → w'.heap[x]? = w.heap[x]? := fun x hx2 hne h6 => by
    rw [hk x h6 (fun e => by
      subst e
      rcases hloc with e2 | e2
      · exact hne (by rw [← e2]; exact hg')
      · rw [hg'] at e2
        simp only [Option.some.injEq] at e2
        omega)]
    exact e8 x hx2 hne
  have low : ∀ x, x < t6 → v.ownBlock ≠ some x := fun x hx2 e => by have := hv x e; omega
  have hW : w.heap.size ≤ w'.heap.size := Nat.le_trans hg.size hsz
  have hb : b < w.heap.size := h.rd.lt.1
  have hgl : g < w.heap.size := h.rd.lt.2
  have hst : Stands w (fun x => t6 < x ∧ v.ownBlock ≠ some x) w' (fun x => t6 < x ∧ v'.ownBlock ≠ some x) := ⟨hW, fun x hx2 hp => ⟨⟨hp.1, fun e => by
    rcases hloc with e2 | e2
    · exact hp.2 (by rw [← e2]; exact e)
    · rw [e2] at e
      simp only [Option.some.injEq] at e
      omega⟩, e' x hx2 hp.2 (by omega)⟩⟩
  refine ⟨h.rd.to hW (e' b hb (low b (by omega)) (by omega)) (e' g hgl (low g (by omega)) (by omega)), fun p hp => ?_, ⟨v', h6', ⟨xs ++ cs, ?_, ((hR.to hst).snoc (hd.to hst) hlen)⟩, fun x e hp => hp.2 e⟩, ?_, lb, lg, h.lx0, l6⟩
  · have hp1 := h.cb p hp
    have hp2 := h.lx p hp
    rw [e' p.1 (block_lt hp1) (fun e => by have := (hv _ e).1; omega) (by omega)]
    exact hp1
  · rw [List.length_append]; exact hrow
  · have hf := h.fr
    refine ⟨(ho.1.trans hg.os).trans hf.os, (ho.2.1.trans hg.tape).trans hf.tape, (ho.2.2.trans hg.output).trans hf.output, Nat.le_trans hf.size hW, fun x hx2 hxb => ?_⟩
    have hxw : x < w.heap.size := Nat.lt_of_lt_of_le hx2 hf.size
    rw [e' x hxw (low x (by omega)) (by omega)]
    exact hf.block x hx2 hxb
theorem LI.h6 (h : LI w0 b g t6 bx T6 mk E k s ds w) (hx : w.ownsRow (LB t6 bx) E k v ds.length xs) (hg : w.grownBy w8 v.ownBlock) (h6 : w.heap[t6]? = some (.cells (mk v) T6 (0, 0))) : w8.heap[t6]? = some (.cells (mk v) T6 (0, 0)) := by
  rw [hg.block t6 (block_lt h6) (fun e => by have := (hx.lt t6 e.symm).1; have := LB_t6 t6 bx; omega)]
  exact h6
theorem LI.end1 {c jj o : Nat} {zs : List Value} (h : LI w0 b g t6 bx T6 mk E k s ds w) (hx : w.ownsRow (LB t6 bx) E k v ds.length xs) (hR : RowsD w (fun x => t6 < x ∧ v.ownBlock ≠ some x) k ds xs) (hd : Reads w (fun x => t6 < x ∧ v.ownBlock ≠ some x) d cs)
    (hlen : cs.length = k) (hg : w.grownBy w8 v.ownBlock) (hloc : (Value.slice (some ⟨g', 0, none⟩) (ds.length + 1) c).ownBlock = v.ownBlock ∨ (Value.slice (some ⟨g', 0, none⟩) (ds.length + 1) c).ownBlock = some w.heap.size)
    (h6 : w.heap[t6]? = some (.cells (mk v) T6 (0, 0))) (hrow : w8.ownsRow (LB t6 bx) E k (.slice (some ⟨g', 0, none⟩) (ds.length + 1) c) (ds.length + 1) (xs ++ zs)) (hzl : zs.length = cs.length) (ho : o = xs.length)
    (hmk : (mk v).setIfInBounds jj (.slice (some ⟨g', 0, none⟩) (ds.length + 1) c) = mk (.slice (some ⟨g', 0, none⟩) (ds.length + 1) c)) :
    LI w0 b g t6 bx T6 mk E k s (ds ++ [d]) ((putCells w8 g' o cs).setCell ⟨t6, jj, none⟩ (.slice (some ⟨g', 0, none⟩) (ds.length + 1) c)) := by
  subst ho
  have hlo := (hrow.lt g' rfl).1
  have hL := LB_t6 t6 bx
  have h68 := h.h6 hx hg h6
  have hp := putCells_os g' cs xs.length w8
  refine h.more hx hR hd hlen hg rfl hlo hloc (row_to (putCells_row cs zs xs w8 hzl hrow) (fun x e => ?_)) ?_ (by rw [size_set, putCells_size]; exact Nat.le_refl _) (fun x h1 h2 => by rw [heap_set_ne h1, putCells_ne _ _ h2]) ⟨hp.1, hp.2.1, hp.2.2⟩
  · have : g' = x := by simpa [Value.ownBlock] using e
    exact heap_set_ne (by omega)
  · rw [heap_set1 (cs := mk v) (T := T6) (fz := (0, 0)) (by rw [putCells_ne _ _ (by omega)]; exact h68), hmk]
theorem LI.end2 {c jj o : Nat} {zs : List Value} (h : LI w0 b g t6 bx T6 mk E k s ds w) (hx : w.ownsRow (LB t6 bx) E k v ds.length xs) (hR : RowsD w (fun x => t6 < x ∧ v.ownBlock ≠ some x) k ds xs) (hd : Reads w (fun x => t6 < x ∧ v.ownBlock ≠ some x) d cs)
    (hlen : cs.length = k) (hg : w.grownBy w8 v.ownBlock) (hloc : (Value.slice (some ⟨g', 0, none⟩) (ds.length + 1) c).ownBlock = v.ownBlock ∨ (Value.slice (some ⟨g', 0, none⟩) (ds.length + 1) c).ownBlock = some w.heap.size)
    (h6 : w.heap[t6]? = some (.cells (mk v) T6 (0, 0))) (hrow : w8.ownsRow (LB t6 bx) E k (.slice (some ⟨g', 0, none⟩) (ds.length + 1) c) (ds.length + 1) (xs ++ zs)) (hzl : zs.length = cs.length) (ho : o = xs.length)
    (hmk : (mk v).setIfInBounds jj (.slice (some ⟨g', 0, none⟩) (ds.length + 1) c) = mk (.slice (some ⟨g', 0, none⟩) (ds.length + 1) c)) :
    LI w0 b g t6 bx T6 mk E k s (ds ++ [d]) (putCells (w8.setCell ⟨t6, jj, none⟩ (.slice (some ⟨g', 0, none⟩) (ds.length + 1) c)) g' o cs) := by
  subst ho
  have hlo := (hrow.lt g' rfl).1
  have hL := LB_t6 t6 bx
  have h68 := h.h6 hx hg h6
  have hp := putCells_os g' cs xs.length (w8.setCell ⟨t6, jj, none⟩ (.slice (some ⟨g', 0, none⟩) (ds.length + 1) c))
  refine h.more hx hR hd hlen hg rfl hlo hloc (putCells_row cs zs xs _ hzl (row_to hrow (fun x e => ?_))) ?_ (by rw [putCells_size, size_set]; exact Nat.le_refl _) (fun x h1 h2 => by rw [putCells_ne _ _ h2, heap_set_ne h1]) ⟨hp.1, hp.2.1, hp.2.2⟩
  · have : g' = x := by simpa [Value.ownBlock] using e
    exact heap_set_ne (by omega)
  · rw [putCells_ne _ _ (by omega), heap_set1 (cs := mk v) (T := T6) (fz := (0, 0)) h68, hmk]
end
end Go.Proofs.YtmgoebfcfgilfaaGreatDoor
namespace Go.Proofs.YtmgoebfcfgilfaaGreatDoor
set_option linter.unusedSimpArgs false
set_option linter.unusedVariables false
open Go Go.RowKit

theorem infoV : (Tryz.prog.info? 49).map (fun i => (i.zero, i.size, i.bytes)) = some (some (.agg #[.int .i64 0, .string ⟨#[]⟩, .slice none 0 0, .slice none 0 0, .int .i64 0]), 5, 80) := by kernel_rfl
theorem infoA : (Tryz.prog.info? 219).map (fun i => (i.zero, i.size, i.bytes)) = some (some (.agg #[.string ⟨#[]⟩, .int .i64 0, .string ⟨#[]⟩, .slice none 0 0, .slice none 0 0, .int .i64 0, .int .i64 0]), 7, 104) := by kernel_rfl

/-- What a reader's call that answers with data leaves. -/
def Got (b g : Nat) (w : World) (d : D) (s : Rd.St) (r : Ending) (w' : World) : Prop :=
  ∃ cs : List Value, r = .returned (.agg cs.toArray) ∧ Reads w' (fun x => w.heap.size ≤ x) d cs ∧ RdAt w' b g s ∧ Fr b w w'
def mkItems (at_ : Nat) (v : Value) : Array Value := #[.int .i64 8, .string ⟨#[]⟩, v, .slice none 0 0, .int .i64 at_]

def mkFields (at_ : Nat) (v : Value) : Array Value := #[.int .i64 9, .string ⟨#[]⟩, .slice none 0 0, v, .int .i64 at_]
theorem rowForm {w : World} {base : Nat} {t : TypeId} {k n : Nat} {v : Value} {cs : List Value} (h : w.ownsRow base t k v n cs) (hn : 0 < n) : ∃ g c, v = .slice (some ⟨g, 0, none⟩) n c ∧ base ≤ g ∧ g < w.heap.size := by
  rcases h.2 with ⟨_, h2⟩ | ⟨g, cap, cur, hv, hb, hc, _⟩
  · omega
  · exact ⟨g, cap, hv, hb, block_lt hc⟩
theorem V_cells {w : World} {P : Nat → Prop} {v : Rd.V} {cs : List Value} (h : Reads w P v.d cs) : ∃ (k a : Int) (t : ByteArray) (a1 a2 : Option Addr) (n1 c1 n2 c2 : Nat), cs = [.int .i64 k, .string t, .slice a1 n1 c1, .slice a2 n2 c2, .int .i64 a] := by
  obtain ⟨k, t, items, fields, a⟩ := v
  rw [Rd.V.d] at h
  obtain ⟨x1, r1, rfl, e1, h1⟩ := h.obj_inv.cons_inv
  obtain ⟨x2, r2, rfl, e2, h2⟩ := h1.cons_inv
  obtain ⟨x3, r3, rfl, e3, h3⟩ := h2.cons_inv
  obtain ⟨x4, r4, rfl, e4, h4⟩ := h3.cons_inv
  obtain ⟨x5, r5, rfl, e5, h5⟩ := h4.cons_inv
  obtain rfl := e1.int_inv
  obtain rfl := e2.str_inv
  obtain ⟨b1, d1, rfl, _⟩ := e3.seq_inv
  obtain ⟨b2, d2, rfl, _⟩ := e4.seq_inv
  obtain rfl := e5.int_inv
  obtain rfl := h5.nil_inv
  exact ⟨_, _, _, _, _, _, _, _, _, rfl⟩
theorem A_cells {w : World} {P : Nat → Prop} {x : Rd.A} {cs : List Value} (h : Reads w P x.d cs) : ∃ (nm : ByteArray) (k a b : Int) (t : ByteArray) (a1 a2 : Option Addr) (n1 c1 n2 c2 : Nat), cs = [.string nm, .int .i64 k, .string t, .slice a1 n1 c1, .slice a2 n2 c2, .int .i64 a, .int .i64 b] := by
  obtain ⟨n, v, a⟩ := x
  rw [Rd.A.d] at h
  obtain ⟨x1, r1, rfl, e1, h1⟩ := h.obj_inv.cons_inv
  obtain ⟨x2, r2, rfl, e2, h2⟩ := h1.cons_inv
  obtain ⟨x3, r3, rfl, e3, h3⟩ := h2.cons_inv
  obtain rfl := e1.str_inv
  obtain rfl := e3.int_inv
  obtain rfl := h3.nil_inv
  obtain ⟨k, a, t, a1, a2, n1, c1, n2, c2, rfl⟩ := V_cells e2
  exact ⟨_, _, _, _, _, _, _, _, _, _, _, rfl⟩
theorem lit_cells {w : World} {L : Nat} {zs : List Value} {T : TypeId} {fz : Nat × Nat} (h : w.heap[L]? = some (.cells zs.toArray T fz)) : ∀ j u, zs[j]? = some u → w.cell? ((⟨L, 0, none⟩ : Addr).add j) = some u := by
  intro j u hj
  rw [addr_add0]
  simp [World.cell?, h, hj]
theorem row_cell {w : World} {base g n cap k : Nat} {E : TypeId} {xs : List Value} (h : w.ownsRow base E k (.slice (some ⟨g, 0, none⟩) n cap) n xs) (j : Nat) (u : Value) (hj : xs[j]? = some u) : w.cell? ⟨g, j, none⟩ = some u := by
  have := World.ownsRow.cells h (g := g) rfl j u hj
  rwa [addr_add0] at this
set_option maxHeartbeats 1000000 in
set_option maxRecDepth 100000 in
theorem valC1_any (w0 : World) (b g t6 : Nat) (bx : List Box) (t2 t3 : Nat) (fixed : Bool) (at_ m : Nat) (hbx0 : (t2, Obj.cells #[(.pointer (some ⟨b, 0, none⟩))] 151 (0, 0)) ∈ bx) (hbx1 : (t3, Obj.cells #[(.bool fixed)] 4 (0, 0)) ∈ bx) (s : Rd.St) (ds : List D) (w : World)
    (hval : ∀ w, RdAt w b g s → Calls Tryz.prog 107 #[(.pointer (some ⟨b, 0, none⟩)), (.bool fixed)] w (Got b g w (Rd.value fixed m s).2.d (Rd.value fixed m s).1))
    (h : LI w0 b g t6 bx 49 (mkItems at_) 49 5 s ds w) (hl : ds.length ≤ 1000000) :
    Calls Tryz.prog 157 #[.pointer (some ⟨t6, 0, none⟩), .pointer (some ⟨t2, 0, none⟩), .pointer (some ⟨t3, 0, none⟩)] w fun r w' => r = .returned (.tuple #[]) ∧ LI w0 b g t6 bx 49 (mkItems at_) 49 5 (Rd.value fixed m s).1 (ds ++ [(Rd.value fixed m s).2.d]) w' := by
  obtain ⟨i0, hi, hz0, hz1, hz2⟩ := info_parts infoV
  obtain ⟨v, h6, hG⟩ := h.ex
  obtain ⟨va, vc, hv⟩ := hG.form
  subst hv
  obtain ⟨⟨xs, hx, hro⟩, hap⟩ := hG
  have hvl : ∀ x, (Value.slice va ds.length vc).ownBlock = some x → LB t6 bx ≤ x ∧ x < w.heap.size := hx.lt
  have hlb6 := LB_t6 t6 bx
  have hlt6 := block_lt h6
  have lb := h.lb
  have l6 := h.l6
  have hi0 : (0 : Int) ≤ (ds.length : Int) := Int.natCast_nonneg _
  have hi1 : (ds.length : Int) < (ds.length : Int) + 1 := by omega
  obtain ⟨s', hs'⟩ : ∃ x, x = (Rd.value fixed m s).1 := ⟨_, rfl⟩
  obtain ⟨d, hd'⟩ : ∃ x, x = (Rd.value fixed m s).2.d := ⟨_, rfl⟩
  obtain ⟨zs, hzs⟩ : ∃ x, x = [Value.int .i64 0, .string ⟨#[]⟩, .slice none 0 0, .slice none 0 0, .int .i64 0] := ⟨_, rfl⟩
  have HVC : Hid (∀ (w : World) (P : Nat → Prop) (cs : List Value), Reads w P d cs → ∃ (k a : Int) (t : ByteArray) (a1 a2 : Option Addr) (n1 c1 n2 c2 : Nat), cs = [.int .i64 k, .string t, .slice a1 n1 c1, .slice a2 n2 c2, .int .i64 a]) :=
    Lib.hid fun w P cs hh => V_cells (by rw [← hd']; exact hh)
  rw [← hs', ← hd'] at hval ⊢
  have H := Lib.hid h
  have HRS := Lib.hid hro
  have H6 := Lib.hid h6
  have HVL := Lib.hid hvl
  have HVAL := Lib.hid hval
  have HZS := Lib.hid hzs
  have HZL : Hid (zs.length = 1 * 5) := by rw [hzs]; exact Lib.hid rfl
  have HST : Hid (∀ w', Fr b w w' → Stands w (fun x => t6 < x ∧ (Value.slice va ds.length vc).ownBlock ≠ some x) w' (fun x => t6 < x ∧ (Value.slice va ds.length vc).ownBlock ≠ some x)) :=
    Lib.hid fun w' hf => ⟨hf.size, fun x hx2 hp => ⟨hp, hf.block x hx2 (by omega)⟩⟩
  have HROWS : Hid (∀ w', Fr b w w' → w'.ownsRow (LB t6 bx) 49 5 (.slice va ds.length vc) ds.length xs) := Lib.hid fun w' hf => row_to hx (fun x hx2 => hf.block x (hvl x hx2).2 (by have := (hvl x hx2).1; omega))
  have hS : w.cell? ⟨t6, 2, none⟩ = some (.slice va ds.length vc) ∧ w.cell? ⟨t2, 0, none⟩ = some (.pointer (some ⟨b, 0, none⟩)) ∧ w.cell? ⟨t3, 0, none⟩ = some (.bool fixed) :=
    ⟨by simp [World.cell?, h6, mkItems], h.cellx hbx0, h.cellx hbx1⟩
  have HSS := Lib.hid hS
  have HSF : Hid (∀ w', Fr b w w' → w'.cell? ⟨t6, 2, none⟩ = some (.slice va ds.length vc) ∧ w'.cell? ⟨t2, 0, none⟩ = some (.pointer (some ⟨b, 0, none⟩)) ∧ w'.cell? ⟨t3, 0, none⟩ = some (.bool fixed)) := by
    refine Lib.hid fun w' hf => ⟨?_, h.cellf hf hbx0, h.cellf hf hbx1⟩
    rw [hf.cell (p := ⟨t6, 2, none⟩) hlt6 (by show ¬ t6 = b; omega)]
    exact HSS.out.1
  clear h hx hro h6 hvl hval hs' hd' hzs hap
  go_enter Tryz.func157, Tryz.ntmps157
  go_wp2_with fail
  refine wp_region_phase (fun w' => w'.cell? ⟨t6, 2, none⟩ = some (.slice va ds.length vc) ∧ w'.cell? ⟨t2, 0, none⟩ = some (.pointer (some ⟨b, 0, none⟩)) ∧ w'.cell? ⟨t3, 0, none⟩ = some (.bool fixed)) 7 (by kernel_rfl) ?_
  refine wpAnyB_take (i := 0) (v := (.pointer (some ⟨t6, 2, none⟩))) (by kernel_rfl) (by decide) rfl (by kernel_rfl) (by kernel_rfl) (by kernel_rfl) (fun _ _ _ h => h) (Or.inl ⟨by rfl, fun w hSw => by obtain ⟨s0, s1, s2⟩ := hSw; go_simp⟩) hS ?_; simp only [Act.put, List.setIfInBounds_toArray, List.set_cons_zero, List.set_cons_succ]
  refine wpAnyB_take (i := 1) (v := (.slice va ds.length vc)) (by kernel_rfl) (by decide) rfl (by kernel_rfl) (by kernel_rfl) (by kernel_rfl) (fun _ _ _ h => h) (Or.inl ⟨by rfl, fun w hSw => by obtain ⟨s0, s1, s2⟩ := hSw; go_simp⟩) hS ?_; simp only [Act.put, List.setIfInBounds_toArray, List.set_cons_zero, List.set_cons_succ]
  refine wpAnyB_take (i := 2) (v := (.pointer (some ⟨b, 0, none⟩))) (by kernel_rfl) (by decide) rfl (by kernel_rfl) (by kernel_rfl) (by kernel_rfl) (fun _ _ _ h => h) (Or.inl ⟨by rfl, fun w hSw => by obtain ⟨s0, s1, s2⟩ := hSw; go_simp⟩) hS ?_; simp only [Act.put, List.setIfInBounds_toArray, List.set_cons_zero, List.set_cons_succ]
  refine wpAnyB_take (i := 3) (v := (.bool fixed)) (by kernel_rfl) (by decide) rfl (by kernel_rfl) (by kernel_rfl) (by kernel_rfl) (fun _ _ _ h => h) (Or.inl ⟨by rfl, fun w hSw => by obtain ⟨s0, s1, s2⟩ := hSw; go_simp⟩) hS ?_; simp only [Act.put, List.setIfInBounds_toArray, List.set_cons_zero, List.set_cons_succ]
  refine wpAnyB_take (i := 5) (v := (.int .i64 ds.length)) (by kernel_rfl) (by decide) rfl (by kernel_rfl) (by kernel_rfl) (by kernel_rfl) (fun _ _ _ h => h) (Or.inl ⟨by rfl, fun w hSw => by obtain ⟨s0, s1, s2⟩ := hSw; go_simp⟩) hS ?_; simp only [Act.put, List.setIfInBounds_toArray, List.set_cons_zero, List.set_cons_succ]
  clear hS
  refine wpAnyB_two (i := 4) (k := 6) (by kernel_rfl) ?_ ?_
  · refine wpOp_intro (by decide) (fun K4 HK4 => ?_); simp only [List.drop_succ_cons, List.drop_zero, List.take_succ_cons, List.take_zero]
    go_wp2_with fail
    refine (HVAL.out w.drew (H.out.rd.to (Nat.le_refl _) rfl rfl)).mono ?_
    rintro r w2 ⟨cs, rfl, hrd, hr2, hf2⟩
    have hf : Fr b w w2 := ⟨hf2.os, hf2.tape, hf2.output, hf2.size, hf2.block⟩
    obtain ⟨k, a, t, a1, a2, n1, c1, n2, c2, rfl⟩ := HVC.out _ _ _ hrd
    have HRD := Lib.hid hrd
    have HF := Lib.hid hf
    have HR2 := Lib.hid hr2
    clear hrd hr2 hf2 hf
    go_wp2_with fail
    refine HK4.out _ _ ⟨fun _ => HSF.out _ HF.out, ?_⟩
    clear HK4
    refine wpAnyB_one (i := 6) (by kernel_rfl) ?_
    refine wpOp_intro (by decide) (fun K6 HK6 => ?_); simp only [List.drop_succ_cons, List.drop_zero, List.take_succ_cons, List.take_zero]
    go_wp2_with fail
    have HBA : Hid (Below w2.heap.size w2 (w2.alloc (.cells #[.int .i64 0, .string ⟨#[]⟩, .slice none 0 0, .slice none 0 0, .int .i64 0] 49))) := Lib.hid ((Below.refl _ _).alloc (Nat.le_refl _) _)
    have HFA := Lib.hid (HF.out.trans (But.of_below (X := fun k => k = b) HBA.out))
    refine HK6.out _ _ ⟨fun _ => HSF.out _ HFA.out, ?_⟩
    clear HK6
    have HLI := Lib.hid ((H.out.step HR2.out HF.out).below HBA.out)
    have HX := Lib.hid (HROWS.out _ HFA.out)
    have HRO := Lib.hid (HRS.out.to (HST.out _ HFA.out))
    have H6W : Hid ((w2.alloc (.cells #[.int .i64 0, .string ⟨#[]⟩, .slice none 0 0, .slice none 0 0, .int .i64 0] 49)).heap[t6]? = some (.cells ((mkItems at_) (.slice va ds.length vc)) 49 (0, 0))) := Lib.hid (by rw [HFA.out.block t6 hlt6 (by omega)]; exact H6.out)
    have HD := Lib.hid (HRD.out.to (w' := w2.alloc (.cells #[.int .i64 0, .string ⟨#[]⟩, .slice none 0 0, .slice none 0 0, .int .i64 0] 49)) (Q := fun x => t6 < x ∧ (Value.slice va ds.length vc).ownBlock ≠ some x) ⟨HBA.out.size, fun x hx2 hp => ⟨⟨Nat.lt_of_lt_of_le hlt6 hp, fun e => by have h1 := (HVL.out x e).2; have h2 : w.heap.size ≤ x := hp; omega⟩, HBA.out.block x hx2⟩⟩)
    have HLIT : Hid (∀ j u, zs[j]? = some u → (w2.alloc (.cells #[.int .i64 0, .string ⟨#[]⟩, .slice none 0 0, .slice none 0 0, .int .i64 0] 49)).cell? ((⟨w2.heap.size, 0, none⟩ : Addr).add j) = some u) := Lib.hid (lit_cells (fz := (0, 0)) (by rw [HZS.out]; exact heap_at_new _ _))
    have hbase : LB t6 bx ≤ (w2.alloc (.cells #[.int .i64 0, .string ⟨#[]⟩, .slice none 0 0, .slice none 0 0, .int .i64 0] 49)).heap.size := HLI.out.low
    have HONE : Hid (∀ u ∈ zs, u.oneCell' = true) := Lib.hid (by rw [HZS.out]; intro u hu; simp at hu; rcases hu with rfl | rfl | rfl | rfl | rfl <;> rfl)
    refine wpAnyB_one (i := 7) (by kernel_rfl) ?_
    refine wpOp_intro (by decide) (fun K7 HK7 => ?_); simp only [List.drop_succ_cons, List.drop_zero, List.take_succ_cons, List.take_zero]
    go_wp2_with (first | (at_builtin; refine wpList_append_own_at _ rfl _ _ 46 rfl (LB t6 bx) 49 i0 _ 5 80 Tryz.underlying46 hi hz0 hz1 hz2 rfl (by decide) (.slice va ds.length vc) ds.length xs rfl HX.out ⟨w2.heap.size, 0, none⟩ 1 1 zs rfl HZL.out HLIT.out HONE.out (by unfold maxLen; omega) (by omega) hbase ?_; intro v' w8 hrow8 hg8 hnil8 hloc8; clear hnil8; obtain ⟨g', c', rfl, hg1, hg2⟩ := rowForm hrow8 (by omega); have HROW := Lib.hid hrow8; have HG8 := Lib.hid hg8; have HL8 := Lib.hid hloc8; clear hrow8 hg8 hloc8) | fail)
    refine HK7.out _ _ ⟨fun h => absurd h (by decide), ?_⟩
    clear HK7
    refine wpAnyB_takeAny (i := 8) (v := (.pointer (some ⟨g', (ds.length * 5), none⟩))) (by decide) rfl (by kernel_rfl) (by kernel_rfl) (by kernel_rfl) (fun _ _ _ h => h) (Or.inl ⟨by rfl, fun w _ => by go_simp⟩) ?_; simp only [Act.put, List.setIfInBounds_toArray, List.set_cons_zero, List.set_cons_succ]
    refine wpAnyB_takeAny (i := 10) (v := (.pointer (some ⟨t6, 2, none⟩))) (by decide) rfl (by kernel_rfl) (by kernel_rfl) (by kernel_rfl) (fun _ _ _ h => h) (Or.inl ⟨by rfl, fun w _ => by go_simp⟩) ?_; simp only [Act.put, List.setIfInBounds_toArray, List.set_cons_zero, List.set_cons_succ]
    have h68 := HLI.out.h6 HX.out HG8.out H6W.out
    have y6 : w8.cell? ⟨t6, 2, none⟩ = some (.slice va ds.length vc) := by simp [World.cell?, h68, mkItems]
    have y7 : w8.frozen? ⟨t6, 2, none⟩ = false := by simp [World.frozen?, h68]
    have hxl : xs.length = ds.length * 5 := HX.out.1
    have q0 := row_cell HROW.out (ds.length * 5) (.int .i64 0) (by rw [← hxl, List.getElem?_append_right (Nat.le_refl _), Nat.sub_self, HZS.out]; rfl)
    have q1 := row_cell HROW.out (ds.length * 5 + 1) (.string ⟨#[]⟩) (by rw [← hxl, List.getElem?_append_right (by omega), Nat.add_sub_cancel_left, HZS.out]; rfl)
    have q2 := row_cell HROW.out (ds.length * 5 + 2) (.slice none 0 0) (by rw [← hxl, List.getElem?_append_right (by omega), Nat.add_sub_cancel_left, HZS.out]; rfl)
    have q3 := row_cell HROW.out (ds.length * 5 + 3) (.slice none 0 0) (by rw [← hxl, List.getElem?_append_right (by omega), Nat.add_sub_cancel_left, HZS.out]; rfl)
    have q4 := row_cell HROW.out (ds.length * 5 + 4) (.int .i64 0) (by rw [← hxl, List.getElem?_append_right (by omega), Nat.add_sub_cancel_left, HZS.out]; rfl)
    have p0 := World.ownsRow.frozenAt HROW.out (ds.length * 5)
    have p1 := World.ownsRow.frozenAt HROW.out (ds.length * 5 + 1)
    have p2 := World.ownsRow.frozenAt HROW.out (ds.length * 5 + 2)
    have p3 := World.ownsRow.frozenAt HROW.out (ds.length * 5 + 3)
    have p4 := World.ownsRow.frozenAt HROW.out (ds.length * 5 + 4)
    have n1 : ¬ g' = t6 := by omega
    have n2 : ¬ t6 = g' := by omega
    have HXL := Lib.hid hxl.symm
    clear h68 hxl
    refine wpAnyB_two (i := 9) (k := 11) (by kernel_rfl) ?_ ?_
    · refine wpOp_intro (by decide) (fun K9 HK9 => ?_); simp only [List.drop_succ_cons, List.drop_zero, List.take_succ_cons, List.take_zero]
      go_wp2_with fail
      refine HK9.out _ _ ⟨fun h => absurd h (by decide), ?_⟩
      clear HK9
      refine wpAnyB_one (i := 11) (by kernel_rfl) ?_
      refine wpOp_intro (by decide) (fun Ka HKa => ?_); simp only [List.drop_succ_cons, List.drop_zero, List.take_succ_cons, List.take_zero]
      go_wp2_with fail
      refine HKa.out _ _ ⟨fun h => absurd h (by decide), ?_⟩
      clear HKa
      refine wpAnyB_done (by kernel_rfl) ?_ _
      go_wp2_with fail
      go_end0
      have hfin := HLI.out.end1 (jj := 2) HX.out HRO.out HD.out rfl HG8.out HL8.out H6W.out HROW.out HZL.out HXL.out rfl
      simp only [putCells, Nat.add_assoc, Nat.reduceAdd] at hfin
      exact ⟨rfl, hfin⟩
    · refine wpOp_intro (by decide) (fun K9 HK9 => ?_); simp only [List.drop_succ_cons, List.drop_zero, List.take_succ_cons, List.take_zero]
      go_wp2_with fail
      refine HK9.out _ _ ⟨fun h => absurd h (by decide), ?_⟩
      clear HK9
      refine wpAnyB_one (i := 9) (by kernel_rfl) ?_
      refine wpOp_intro (by decide) (fun Ka HKa => ?_); simp only [List.drop_succ_cons, List.drop_zero, List.take_succ_cons, List.take_zero]
      go_wp2_with fail
      refine HKa.out _ _ ⟨fun h => absurd h (by decide), ?_⟩
      clear HKa
      refine wpAnyB_done (by kernel_rfl) ?_ _
      go_wp2_with fail
      go_end0
      have hfin := HLI.out.end2 (jj := 2) HX.out HRO.out HD.out rfl HG8.out HL8.out H6W.out HROW.out HZL.out HXL.out rfl
      simp only [putCells, Nat.add_assoc, Nat.reduceAdd] at hfin
      exact ⟨rfl, hfin⟩
  · refine wpOp_intro (by decide) (fun K6 HK6 => ?_); simp only [List.drop_succ_cons, List.drop_zero, List.take_succ_cons, List.take_zero]
    go_wp2_with fail
    have HBA : Hid (Below w.heap.size w ((w.alloc (.cells #[.int .i64 0, .string ⟨#[]⟩, .slice none 0 0, .slice none 0 0, .int .i64 0] 49)).drew)) := Lib.hid (Below.drew ((Below.refl _ _).alloc (Nat.le_refl _) _))
    have HFA := Lib.hid (But.of_below (X := fun k => k = b) HBA.out)
    refine HK6.out _ _ ⟨fun _ => HSF.out _ HFA.out, ?_⟩
    clear HK6
    refine wpAnyB_one (i := 4) (by kernel_rfl) ?_
    refine wpOp_intro (by decide) (fun K4 HK4 => ?_); simp only [List.drop_succ_cons, List.drop_zero, List.take_succ_cons, List.take_zero]
    go_wp2_with fail
    refine (HVAL.out _ (H.out.rd.below HBA.out)).mono ?_
    rintro r w2 ⟨cs, rfl, hrd, hr2, hf2⟩
    obtain ⟨k, a, t, a1, a2, n1, c1, n2, c2, rfl⟩ := HVC.out _ _ _ hrd
    have HF := Lib.hid (HFA.out.trans hf2)
    have HLB : Hid (w2.heap[w.heap.size]? = some (.cells #[.int .i64 0, .string ⟨#[]⟩, .slice none 0 0, .slice none 0 0, .int .i64 0] 49 (0, 0))) := by
      rw [hf2.block w.heap.size (by show w.heap.size < (w.alloc _).heap.size; simp) (by omega)]
      exact Lib.hid (heap_at_new _ _)
    have HRD := Lib.hid hrd
    have HR2 := Lib.hid hr2
    clear hrd hr2 hf2
    go_wp2_with fail
    refine HK4.out _ _ ⟨fun _ => HSF.out _ HF.out, ?_⟩
    clear HK4
    have HLI := Lib.hid (H.out.step HR2.out HF.out)
    have HX := Lib.hid (HROWS.out _ HF.out)
    have HRO := Lib.hid (HRS.out.to (HST.out _ HF.out))
    have H6W : Hid (w2.heap[t6]? = some (.cells ((mkItems at_) (.slice va ds.length vc)) 49 (0, 0))) := Lib.hid (by rw [HF.out.block t6 hlt6 (by omega)]; exact H6.out)
    have HD := Lib.hid (HRD.out.to (w' := w2) (Q := fun x => t6 < x ∧ (Value.slice va ds.length vc).ownBlock ≠ some x) (Stands.sub w2 (fun x hx2 hp => by
      have h2 : (w.alloc (.cells #[.int .i64 0, .string ⟨#[]⟩, .slice none 0 0, .slice none 0 0, .int .i64 0] 49)).heap.size ≤ x := hp
      simp at h2
      exact ⟨by omega, fun e => by have h1 := (HVL.out x e).2; omega⟩)))
    have HLIT : Hid (∀ j u, zs[j]? = some u → w2.cell? ((⟨w.heap.size, 0, none⟩ : Addr).add j) = some u) := Lib.hid (lit_cells (fz := (0, 0)) (by rw [HZS.out]; exact HLB.out))
    have hbase : LB t6 bx ≤ (w2).heap.size := HLI.out.low
    have HONE : Hid (∀ u ∈ zs, u.oneCell' = true) := Lib.hid (by rw [HZS.out]; intro u hu; simp at hu; rcases hu with rfl | rfl | rfl | rfl | rfl <;> rfl)
    refine wpAnyB_one (i := 7) (by kernel_rfl) ?_
    refine wpOp_intro (by decide) (fun K7 HK7 => ?_); simp only [List.drop_succ_cons, List.drop_zero, List.take_succ_cons, List.take_zero]
    go_wp2_with (first | (at_builtin; refine wpList_append_own_at _ rfl _ _ 46 rfl (LB t6 bx) 49 i0 _ 5 80 Tryz.underlying46 hi hz0 hz1 hz2 rfl (by decide) (.slice va ds.length vc) ds.length xs rfl HX.out ⟨w.heap.size, 0, none⟩ 1 1 zs rfl HZL.out HLIT.out HONE.out (by unfold maxLen; omega) (by omega) hbase ?_; intro v' w8 hrow8 hg8 hnil8 hloc8; clear hnil8; obtain ⟨g', c', rfl, hg1, hg2⟩ := rowForm hrow8 (by omega); have HROW := Lib.hid hrow8; have HG8 := Lib.hid hg8; have HL8 := Lib.hid hloc8; clear hrow8 hg8 hloc8) | fail)
    refine HK7.out _ _ ⟨fun h => absurd h (by decide), ?_⟩
    clear HK7
    refine wpAnyB_takeAny (i := 8) (v := (.pointer (some ⟨g', (ds.length * 5), none⟩))) (by decide) rfl (by kernel_rfl) (by kernel_rfl) (by kernel_rfl) (fun _ _ _ h => h) (Or.inl ⟨by rfl, fun w _ => by go_simp⟩) ?_; simp only [Act.put, List.setIfInBounds_toArray, List.set_cons_zero, List.set_cons_succ]
    refine wpAnyB_takeAny (i := 10) (v := (.pointer (some ⟨t6, 2, none⟩))) (by decide) rfl (by kernel_rfl) (by kernel_rfl) (by kernel_rfl) (fun _ _ _ h => h) (Or.inl ⟨by rfl, fun w _ => by go_simp⟩) ?_; simp only [Act.put, List.setIfInBounds_toArray, List.set_cons_zero, List.set_cons_succ]
    have h68 := HLI.out.h6 HX.out HG8.out H6W.out
    have y6 : w8.cell? ⟨t6, 2, none⟩ = some (.slice va ds.length vc) := by simp [World.cell?, h68, mkItems]
    have y7 : w8.frozen? ⟨t6, 2, none⟩ = false := by simp [World.frozen?, h68]
    have hxl : xs.length = ds.length * 5 := HX.out.1
    have q0 := row_cell HROW.out (ds.length * 5) (.int .i64 0) (by rw [← hxl, List.getElem?_append_right (Nat.le_refl _), Nat.sub_self, HZS.out]; rfl)
    have q1 := row_cell HROW.out (ds.length * 5 + 1) (.string ⟨#[]⟩) (by rw [← hxl, List.getElem?_append_right (by omega), Nat.add_sub_cancel_left, HZS.out]; rfl)
    have q2 := row_cell HROW.out (ds.length * 5 + 2) (.slice none 0 0) (by rw [← hxl, List.getElem?_append_right (by omega), Nat.add_sub_cancel_left, HZS.out]; rfl)
    have q3 := row_cell HROW.out (ds.length * 5 + 3) (.slice none 0 0) (by rw [← hxl, List.getElem?_append_right (by omega), Nat.add_sub_cancel_left, HZS.out]; rfl)
    have q4 := row_cell HROW.out (ds.length * 5 + 4) (.int .i64 0) (by rw [← hxl, List.getElem?_append_right (by omega), Nat.add_sub_cancel_left, HZS.out]; rfl)
    have p0 := World.ownsRow.frozenAt HROW.out (ds.length * 5)
    have p1 := World.ownsRow.frozenAt HROW.out (ds.length * 5 + 1)
    have p2 := World.ownsRow.frozenAt HROW.out (ds.length * 5 + 2)
    have p3 := World.ownsRow.frozenAt HROW.out (ds.length * 5 + 3)
    have p4 := World.ownsRow.frozenAt HROW.out (ds.length * 5 + 4)
    have n1 : ¬ g' = t6 := by omega
    have n2 : ¬ t6 = g' := by omega
    have HXL := Lib.hid hxl.symm
    clear h68 hxl
    refine wpAnyB_two (i := 9) (k := 11) (by kernel_rfl) ?_ ?_
    · refine wpOp_intro (by decide) (fun K9 HK9 => ?_); simp only [List.drop_succ_cons, List.drop_zero, List.take_succ_cons, List.take_zero]
      go_wp2_with fail
      refine HK9.out _ _ ⟨fun h => absurd h (by decide), ?_⟩
      clear HK9
      refine wpAnyB_one (i := 11) (by kernel_rfl) ?_
      refine wpOp_intro (by decide) (fun Ka HKa => ?_); simp only [List.drop_succ_cons, List.drop_zero, List.take_succ_cons, List.take_zero]
      go_wp2_with fail
      refine HKa.out _ _ ⟨fun h => absurd h (by decide), ?_⟩
      clear HKa
      refine wpAnyB_done (by kernel_rfl) ?_ _
      go_wp2_with fail
      go_end0
      have hfin := HLI.out.end1 (jj := 2) HX.out HRO.out HD.out rfl HG8.out HL8.out H6W.out HROW.out HZL.out HXL.out rfl
      simp only [putCells, Nat.add_assoc, Nat.reduceAdd] at hfin
      exact ⟨rfl, hfin⟩
    · refine wpOp_intro (by decide) (fun K9 HK9 => ?_); simp only [List.drop_succ_cons, List.drop_zero, List.take_succ_cons, List.take_zero]
      go_wp2_with fail
      refine HK9.out _ _ ⟨fun h => absurd h (by decide), ?_⟩
      clear HK9
      refine wpAnyB_one (i := 9) (by kernel_rfl) ?_
      refine wpOp_intro (by decide) (fun Ka HKa => ?_); simp only [List.drop_succ_cons, List.drop_zero, List.take_succ_cons, List.take_zero]
      go_wp2_with fail
      refine HKa.out _ _ ⟨fun h => absurd h (by decide), ?_⟩
      clear HKa
      refine wpAnyB_done (by kernel_rfl) ?_ _
      go_wp2_with fail
      go_end0
      have hfin := HLI.out.end2 (jj := 2) HX.out HRO.out HD.out rfl HG8.out HL8.out H6W.out HROW.out HZL.out HXL.out rfl
      simp only [putCells, Nat.add_assoc, Nat.reduceAdd] at hfin
      exact ⟨rfl, hfin⟩
set_option maxHeartbeats 1000000 in
set_option maxRecDepth 100000 in
theorem valC2_any (w0 : World) (b g t6 : Nat) (bx : List Box) (t2 t3 : Nat) (fixed : Bool) (at_ m : Nat) (hbx0 : (t2, Obj.cells #[(.pointer (some ⟨b, 0, none⟩))] 151 (0, 0)) ∈ bx) (hbx1 : (t3, Obj.cells #[(.bool fixed)] 4 (0, 0)) ∈ bx) (s : Rd.St) (ds : List D) (w : World)
    (hval : ∀ w, RdAt w b g s → Calls Tryz.prog 160 #[(.pointer (some ⟨b, 0, none⟩)), (.bool fixed)] w (Got b g w (Rd.arg fixed m s).2.d (Rd.arg fixed m s).1))
    (h : LI w0 b g t6 bx 49 (mkFields at_) 219 7 s ds w) (hl : ds.length ≤ 1000000) :
    Calls Tryz.prog 159 #[.pointer (some ⟨t6, 0, none⟩), .pointer (some ⟨t2, 0, none⟩), .pointer (some ⟨t3, 0, none⟩)] w fun r w' => r = .returned (.tuple #[]) ∧ LI w0 b g t6 bx 49 (mkFields at_) 219 7 (Rd.arg fixed m s).1 (ds ++ [(Rd.arg fixed m s).2.d]) w' := by
  obtain ⟨i0, hi, hz0, hz1, hz2⟩ := info_parts infoA
  obtain ⟨v, h6, hG⟩ := h.ex
  obtain ⟨va, vc, hv⟩ := hG.form
  subst hv
  obtain ⟨⟨xs, hx, hro⟩, hap⟩ := hG
  have hvl : ∀ x, (Value.slice va ds.length vc).ownBlock = some x → LB t6 bx ≤ x ∧ x < w.heap.size := hx.lt
  have hlb6 := LB_t6 t6 bx
  have hlt6 := block_lt h6
  have lb := h.lb
  have l6 := h.l6
  have hi0 : (0 : Int) ≤ (ds.length : Int) := Int.natCast_nonneg _
  have hi1 : (ds.length : Int) < (ds.length : Int) + 1 := by omega
  obtain ⟨s', hs'⟩ : ∃ x, x = (Rd.arg fixed m s).1 := ⟨_, rfl⟩
  obtain ⟨d, hd'⟩ : ∃ x, x = (Rd.arg fixed m s).2.d := ⟨_, rfl⟩
  obtain ⟨zs, hzs⟩ : ∃ x, x = [Value.string ⟨#[]⟩, .int .i64 0, .string ⟨#[]⟩, .slice none 0 0, .slice none 0 0, .int .i64 0, .int .i64 0] := ⟨_, rfl⟩
  have HVC : Hid (∀ (w : World) (P : Nat → Prop) (cs : List Value), Reads w P d cs → ∃ (nm : ByteArray) (k a b' : Int) (t : ByteArray) (a1 a2 : Option Addr) (n1 c1 n2 c2 : Nat), cs = [.string nm, .int .i64 k, .string t, .slice a1 n1 c1, .slice a2 n2 c2, .int .i64 a, .int .i64 b']) :=
    Lib.hid fun w P cs hh => A_cells (by rw [← hd']; exact hh)
  rw [← hs', ← hd'] at hval ⊢
  have H := Lib.hid h
  have HRS := Lib.hid hro
  have H6 := Lib.hid h6
  have HVL := Lib.hid hvl
  have HVAL := Lib.hid hval
  have HZS := Lib.hid hzs
  have HZL : Hid (zs.length = 1 * 7) := by rw [hzs]; exact Lib.hid rfl
  have HST : Hid (∀ w', Fr b w w' → Stands w (fun x => t6 < x ∧ (Value.slice va ds.length vc).ownBlock ≠ some x) w' (fun x => t6 < x ∧ (Value.slice va ds.length vc).ownBlock ≠ some x)) :=
    Lib.hid fun w' hf => ⟨hf.size, fun x hx2 hp => ⟨hp, hf.block x hx2 (by omega)⟩⟩
  have HROWS : Hid (∀ w', Fr b w w' → w'.ownsRow (LB t6 bx) 219 7 (.slice va ds.length vc) ds.length xs) := Lib.hid fun w' hf => row_to hx (fun x hx2 => hf.block x (hvl x hx2).2 (by have := (hvl x hx2).1; omega))
  have hS : w.cell? ⟨t6, 3, none⟩ = some (.slice va ds.length vc) ∧ w.cell? ⟨t2, 0, none⟩ = some (.pointer (some ⟨b, 0, none⟩)) ∧ w.cell? ⟨t3, 0, none⟩ = some (.bool fixed) :=
    ⟨by simp [World.cell?, h6, mkFields], h.cellx hbx0, h.cellx hbx1⟩
  have HSS := Lib.hid hS
  have HSF : Hid (∀ w', Fr b w w' → w'.cell? ⟨t6, 3, none⟩ = some (.slice va ds.length vc) ∧ w'.cell? ⟨t2, 0, none⟩ = some (.pointer (some ⟨b, 0, none⟩)) ∧ w'.cell? ⟨t3, 0, none⟩ = some (.bool fixed)) := by
    refine Lib.hid fun w' hf => ⟨?_, h.cellf hf hbx0, h.cellf hf hbx1⟩
    rw [hf.cell (p := ⟨t6, 3, none⟩) hlt6 (by show ¬ t6 = b; omega)]
    exact HSS.out.1
  clear h hx hro h6 hvl hval hs' hd' hzs hap
  go_enter Tryz.func159, Tryz.ntmps159
  go_wp2_with fail
  refine wp_region_phase (fun w' => w'.cell? ⟨t6, 3, none⟩ = some (.slice va ds.length vc) ∧ w'.cell? ⟨t2, 0, none⟩ = some (.pointer (some ⟨b, 0, none⟩)) ∧ w'.cell? ⟨t3, 0, none⟩ = some (.bool fixed)) 7 (by kernel_rfl) ?_
  refine wpAnyB_take (i := 0) (v := (.pointer (some ⟨t6, 3, none⟩))) (by kernel_rfl) (by decide) rfl (by kernel_rfl) (by kernel_rfl) (by kernel_rfl) (fun _ _ _ h => h) (Or.inl ⟨by rfl, fun w hSw => by obtain ⟨s0, s1, s2⟩ := hSw; go_simp⟩) hS ?_; simp only [Act.put, List.setIfInBounds_toArray, List.set_cons_zero, List.set_cons_succ]
  refine wpAnyB_take (i := 1) (v := (.slice va ds.length vc)) (by kernel_rfl) (by decide) rfl (by kernel_rfl) (by kernel_rfl) (by kernel_rfl) (fun _ _ _ h => h) (Or.inl ⟨by rfl, fun w hSw => by obtain ⟨s0, s1, s2⟩ := hSw; go_simp⟩) hS ?_; simp only [Act.put, List.setIfInBounds_toArray, List.set_cons_zero, List.set_cons_succ]
  refine wpAnyB_take (i := 2) (v := (.pointer (some ⟨b, 0, none⟩))) (by kernel_rfl) (by decide) rfl (by kernel_rfl) (by kernel_rfl) (by kernel_rfl) (fun _ _ _ h => h) (Or.inl ⟨by rfl, fun w hSw => by obtain ⟨s0, s1, s2⟩ := hSw; go_simp⟩) hS ?_; simp only [Act.put, List.setIfInBounds_toArray, List.set_cons_zero, List.set_cons_succ]
  refine wpAnyB_take (i := 3) (v := (.bool fixed)) (by kernel_rfl) (by decide) rfl (by kernel_rfl) (by kernel_rfl) (by kernel_rfl) (fun _ _ _ h => h) (Or.inl ⟨by rfl, fun w hSw => by obtain ⟨s0, s1, s2⟩ := hSw; go_simp⟩) hS ?_; simp only [Act.put, List.setIfInBounds_toArray, List.set_cons_zero, List.set_cons_succ]
  refine wpAnyB_take (i := 5) (v := (.int .i64 ds.length)) (by kernel_rfl) (by decide) rfl (by kernel_rfl) (by kernel_rfl) (by kernel_rfl) (fun _ _ _ h => h) (Or.inl ⟨by rfl, fun w hSw => by obtain ⟨s0, s1, s2⟩ := hSw; go_simp⟩) hS ?_; simp only [Act.put, List.setIfInBounds_toArray, List.set_cons_zero, List.set_cons_succ]
  clear hS
  refine wpAnyB_two (i := 4) (k := 6) (by kernel_rfl) ?_ ?_
  · refine wpOp_intro (by decide) (fun K4 HK4 => ?_); simp only [List.drop_succ_cons, List.drop_zero, List.take_succ_cons, List.take_zero]
    go_wp2_with fail
    refine (HVAL.out w.drew (H.out.rd.to (Nat.le_refl _) rfl rfl)).mono ?_
    rintro r w2 ⟨cs, rfl, hrd, hr2, hf2⟩
    have hf : Fr b w w2 := ⟨hf2.os, hf2.tape, hf2.output, hf2.size, hf2.block⟩
    obtain ⟨nm, k, a, b', t, a1, a2, n1, c1, n2, c2, rfl⟩ := HVC.out _ _ _ hrd
    have HRD := Lib.hid hrd
    have HF := Lib.hid hf
    have HR2 := Lib.hid hr2
    clear hrd hr2 hf2 hf
    go_wp2_with fail
    refine HK4.out _ _ ⟨fun _ => HSF.out _ HF.out, ?_⟩
    clear HK4
    refine wpAnyB_one (i := 6) (by kernel_rfl) ?_
    refine wpOp_intro (by decide) (fun K6 HK6 => ?_); simp only [List.drop_succ_cons, List.drop_zero, List.take_succ_cons, List.take_zero]
    go_wp2_with fail
    have HBA : Hid (Below w2.heap.size w2 (w2.alloc (.cells #[.string ⟨#[]⟩, .int .i64 0, .string ⟨#[]⟩, .slice none 0 0, .slice none 0 0, .int .i64 0, .int .i64 0] 219))) := Lib.hid ((Below.refl _ _).alloc (Nat.le_refl _) _)
    have HFA := Lib.hid (HF.out.trans (But.of_below (X := fun k => k = b) HBA.out))
    refine HK6.out _ _ ⟨fun _ => HSF.out _ HFA.out, ?_⟩
    clear HK6
    have HLI := Lib.hid ((H.out.step HR2.out HF.out).below HBA.out)
    have HX := Lib.hid (HROWS.out _ HFA.out)
    have HRO := Lib.hid (HRS.out.to (HST.out _ HFA.out))
    have H6W : Hid ((w2.alloc (.cells #[.string ⟨#[]⟩, .int .i64 0, .string ⟨#[]⟩, .slice none 0 0, .slice none 0 0, .int .i64 0, .int .i64 0] 219)).heap[t6]? = some (.cells ((mkFields at_) (.slice va ds.length vc)) 49 (0, 0))) := Lib.hid (by rw [HFA.out.block t6 hlt6 (by omega)]; exact H6.out)
    have HD := Lib.hid (HRD.out.to (w' := w2.alloc (.cells #[.string ⟨#[]⟩, .int .i64 0, .string ⟨#[]⟩, .slice none 0 0, .slice none 0 0, .int .i64 0, .int .i64 0] 219)) (Q := fun x => t6 < x ∧ (Value.slice va ds.length vc).ownBlock ≠ some x) ⟨HBA.out.size, fun x hx2 hp => ⟨⟨Nat.lt_of_lt_of_le hlt6 hp, fun e => by have h1 := (HVL.out x e).2; have h2 : w.heap.size ≤ x := hp; omega⟩, HBA.out.block x hx2⟩⟩)
    have HLIT : Hid (∀ j u, zs[j]? = some u → (w2.alloc (.cells #[.string ⟨#[]⟩, .int .i64 0, .string ⟨#[]⟩, .slice none 0 0, .slice none 0 0, .int .i64 0, .int .i64 0] 219)).cell? ((⟨w2.heap.size, 0, none⟩ : Addr).add j) = some u) := Lib.hid (lit_cells (fz := (0, 0)) (by rw [HZS.out]; exact heap_at_new _ _))
    have hbase : LB t6 bx ≤ (w2.alloc (.cells #[.string ⟨#[]⟩, .int .i64 0, .string ⟨#[]⟩, .slice none 0 0, .slice none 0 0, .int .i64 0, .int .i64 0] 219)).heap.size := HLI.out.low
    have HONE : Hid (∀ u ∈ zs, u.oneCell' = true) := Lib.hid (by rw [HZS.out]; intro u hu; simp at hu; rcases hu with rfl | rfl | rfl | rfl | rfl | rfl | rfl <;> rfl)
    refine wpAnyB_one (i := 7) (by kernel_rfl) ?_
    refine wpOp_intro (by decide) (fun K7 HK7 => ?_); simp only [List.drop_succ_cons, List.drop_zero, List.take_succ_cons, List.take_zero]
    go_wp2_with (first | (at_builtin; refine wpList_append_own_at _ rfl _ _ 47 rfl (LB t6 bx) 219 i0 _ 7 104 Tryz.underlying47 hi hz0 hz1 hz2 rfl (by decide) (.slice va ds.length vc) ds.length xs rfl HX.out ⟨w2.heap.size, 0, none⟩ 1 1 zs rfl HZL.out HLIT.out HONE.out (by unfold maxLen; omega) (by omega) hbase ?_; intro v' w8 hrow8 hg8 hnil8 hloc8; clear hnil8; obtain ⟨g', c', rfl, hg1, hg2⟩ := rowForm hrow8 (by omega); have HROW := Lib.hid hrow8; have HG8 := Lib.hid hg8; have HL8 := Lib.hid hloc8; clear hrow8 hg8 hloc8) | fail)
    refine HK7.out _ _ ⟨fun h => absurd h (by decide), ?_⟩
    clear HK7
    refine wpAnyB_takeAny (i := 8) (v := (.pointer (some ⟨g', (ds.length * 7), none⟩))) (by decide) rfl (by kernel_rfl) (by kernel_rfl) (by kernel_rfl) (fun _ _ _ h => h) (Or.inl ⟨by rfl, fun w _ => by go_simp⟩) ?_; simp only [Act.put, List.setIfInBounds_toArray, List.set_cons_zero, List.set_cons_succ]
    refine wpAnyB_takeAny (i := 10) (v := (.pointer (some ⟨t6, 3, none⟩))) (by decide) rfl (by kernel_rfl) (by kernel_rfl) (by kernel_rfl) (fun _ _ _ h => h) (Or.inl ⟨by rfl, fun w _ => by go_simp⟩) ?_; simp only [Act.put, List.setIfInBounds_toArray, List.set_cons_zero, List.set_cons_succ]
    have h68 := HLI.out.h6 HX.out HG8.out H6W.out
    have y6 : w8.cell? ⟨t6, 3, none⟩ = some (.slice va ds.length vc) := by simp [World.cell?, h68, mkFields]
    have y7 : w8.frozen? ⟨t6, 3, none⟩ = false := by simp [World.frozen?, h68]
    have hxl : xs.length = ds.length * 7 := HX.out.1
    have q0 := row_cell HROW.out (ds.length * 7) (.string ⟨#[]⟩) (by rw [← hxl, List.getElem?_append_right (Nat.le_refl _), Nat.sub_self, HZS.out]; rfl)
    have q1 := row_cell HROW.out (ds.length * 7 + 1) (.int .i64 0) (by rw [← hxl, List.getElem?_append_right (by omega), Nat.add_sub_cancel_left, HZS.out]; rfl)
    have q2 := row_cell HROW.out (ds.length * 7 + 2) (.string ⟨#[]⟩) (by rw [← hxl, List.getElem?_append_right (by omega), Nat.add_sub_cancel_left, HZS.out]; rfl)
    have q3 := row_cell HROW.out (ds.length * 7 + 3) (.slice none 0 0) (by rw [← hxl, List.getElem?_append_right (by omega), Nat.add_sub_cancel_left, HZS.out]; rfl)
    have q4 := row_cell HROW.out (ds.length * 7 + 4) (.slice none 0 0) (by rw [← hxl, List.getElem?_append_right (by omega), Nat.add_sub_cancel_left, HZS.out]; rfl)
    have q5 := row_cell HROW.out (ds.length * 7 + 5) (.int .i64 0) (by rw [← hxl, List.getElem?_append_right (by omega), Nat.add_sub_cancel_left, HZS.out]; rfl)
    have q6 := row_cell HROW.out (ds.length * 7 + 6) (.int .i64 0) (by rw [← hxl, List.getElem?_append_right (by omega), Nat.add_sub_cancel_left, HZS.out]; rfl)
    have p0 := World.ownsRow.frozenAt HROW.out (ds.length * 7)
    have p1 := World.ownsRow.frozenAt HROW.out (ds.length * 7 + 1)
    have p2 := World.ownsRow.frozenAt HROW.out (ds.length * 7 + 2)
    have p3 := World.ownsRow.frozenAt HROW.out (ds.length * 7 + 3)
    have p4 := World.ownsRow.frozenAt HROW.out (ds.length * 7 + 4)
    have p5 := World.ownsRow.frozenAt HROW.out (ds.length * 7 + 5)
    have p6 := World.ownsRow.frozenAt HROW.out (ds.length * 7 + 6)
    have n1 : ¬ g' = t6 := by omega
    have n2 : ¬ t6 = g' := by omega
    have HXL := Lib.hid hxl.symm
    clear h68 hxl
    refine wpAnyB_two (i := 9) (k := 11) (by kernel_rfl) ?_ ?_
    · refine wpOp_intro (by decide) (fun K9 HK9 => ?_); simp only [List.drop_succ_cons, List.drop_zero, List.take_succ_cons, List.take_zero]
      go_wp2_with fail
      refine HK9.out _ _ ⟨fun h => absurd h (by decide), ?_⟩
      clear HK9
      refine wpAnyB_one (i := 11) (by kernel_rfl) ?_
      refine wpOp_intro (by decide) (fun Ka HKa => ?_); simp only [List.drop_succ_cons, List.drop_zero, List.take_succ_cons, List.take_zero]
      go_wp2_with fail
      refine HKa.out _ _ ⟨fun h => absurd h (by decide), ?_⟩
      clear HKa
      refine wpAnyB_done (by kernel_rfl) ?_ _
      go_wp2_with fail
      go_end0
      have hfin := HLI.out.end1 (jj := 3) HX.out HRO.out HD.out rfl HG8.out HL8.out H6W.out HROW.out HZL.out HXL.out rfl
      simp only [putCells, Nat.add_assoc, Nat.reduceAdd] at hfin
      exact ⟨rfl, hfin⟩
    · refine wpOp_intro (by decide) (fun K9 HK9 => ?_); simp only [List.drop_succ_cons, List.drop_zero, List.take_succ_cons, List.take_zero]
      go_wp2_with fail
      refine HK9.out _ _ ⟨fun h => absurd h (by decide), ?_⟩
      clear HK9
      refine wpAnyB_one (i := 9) (by kernel_rfl) ?_
      refine wpOp_intro (by decide) (fun Ka HKa => ?_); simp only [List.drop_succ_cons, List.drop_zero, List.take_succ_cons, List.take_zero]
      go_wp2_with fail
      refine HKa.out _ _ ⟨fun h => absurd h (by decide), ?_⟩
      clear HKa
      refine wpAnyB_done (by kernel_rfl) ?_ _
      go_wp2_with fail
      go_end0
      have hfin := HLI.out.end2 (jj := 3) HX.out HRO.out HD.out rfl HG8.out HL8.out H6W.out HROW.out HZL.out HXL.out rfl
      simp only [putCells, Nat.add_assoc, Nat.reduceAdd] at hfin
      exact ⟨rfl, hfin⟩
  · refine wpOp_intro (by decide) (fun K6 HK6 => ?_); simp only [List.drop_succ_cons, List.drop_zero, List.take_succ_cons, List.take_zero]
    go_wp2_with fail
    have HBA : Hid (Below w.heap.size w ((w.alloc (.cells #[.string ⟨#[]⟩, .int .i64 0, .string ⟨#[]⟩, .slice none 0 0, .slice none 0 0, .int .i64 0, .int .i64 0] 219)).drew)) := Lib.hid (Below.drew ((Below.refl _ _).alloc (Nat.le_refl _) _))
    have HFA := Lib.hid (But.of_below (X := fun k => k = b) HBA.out)
    refine HK6.out _ _ ⟨fun _ => HSF.out _ HFA.out, ?_⟩
    clear HK6
    refine wpAnyB_one (i := 4) (by kernel_rfl) ?_
    refine wpOp_intro (by decide) (fun K4 HK4 => ?_); simp only [List.drop_succ_cons, List.drop_zero, List.take_succ_cons, List.take_zero]
    go_wp2_with fail
    refine (HVAL.out _ (H.out.rd.below HBA.out)).mono ?_
    rintro r w2 ⟨cs, rfl, hrd, hr2, hf2⟩
    obtain ⟨nm, k, a, b', t, a1, a2, n1, c1, n2, c2, rfl⟩ := HVC.out _ _ _ hrd
    have HF := Lib.hid (HFA.out.trans hf2)
    have HLB : Hid (w2.heap[w.heap.size]? = some (.cells #[.string ⟨#[]⟩, .int .i64 0, .string ⟨#[]⟩, .slice none 0 0, .slice none 0 0, .int .i64 0, .int .i64 0] 219 (0, 0))) := by
      rw [hf2.block w.heap.size (by show w.heap.size < (w.alloc _).heap.size; simp) (by omega)]
      exact Lib.hid (heap_at_new _ _)
    have HRD := Lib.hid hrd
    have HR2 := Lib.hid hr2
    clear hrd hr2 hf2
    go_wp2_with fail
    refine HK4.out _ _ ⟨fun _ => HSF.out _ HF.out, ?_⟩
    clear HK4
    have HLI := Lib.hid (H.out.step HR2.out HF.out)
    have HX := Lib.hid (HROWS.out _ HF.out)
    have HRO := Lib.hid (HRS.out.to (HST.out _ HF.out))
    have H6W : Hid (w2.heap[t6]? = some (.cells ((mkFields at_) (.slice va ds.length vc)) 49 (0, 0))) := Lib.hid (by rw [HF.out.block t6 hlt6 (by omega)]; exact H6.out)
    have HD := Lib.hid (HRD.out.to (w' := w2) (Q := fun x => t6 < x ∧ (Value.slice va ds.length vc).ownBlock ≠ some x) (Stands.sub w2 (fun x hx2 hp => by
      have h2 : (w.alloc (.cells #[.string ⟨#[]⟩, .int .i64 0, .string ⟨#[]⟩, .slice none 0 0, .slice none 0 0, .int .i64 0, .int .i64 0] 219)).heap.size ≤ x := hp
      simp at h2
      exact ⟨by omega, fun e => by have h1 := (HVL.out x e).2; omega⟩)))
    have HLIT : Hid (∀ j u, zs[j]? = some u → w2.cell? ((⟨w.heap.size, 0, none⟩ : Addr).add j) = some u) := Lib.hid (lit_cells (fz := (0, 0)) (by rw [HZS.out]; exact HLB.out))
    have hbase : LB t6 bx ≤ (w2).heap.size := HLI.out.low
    have HONE : Hid (∀ u ∈ zs, u.oneCell' = true) := Lib.hid (by rw [HZS.out]; intro u hu; simp at hu; rcases hu with rfl | rfl | rfl | rfl | rfl | rfl | rfl <;> rfl)
    refine wpAnyB_one (i := 7) (by kernel_rfl) ?_
    refine wpOp_intro (by decide) (fun K7 HK7 => ?_); simp only [List.drop_succ_cons, List.drop_zero, List.take_succ_cons, List.take_zero]
    go_wp2_with (first | (at_builtin; refine wpList_append_own_at _ rfl _ _ 47 rfl (LB t6 bx) 219 i0 _ 7 104 Tryz.underlying47 hi hz0 hz1 hz2 rfl (by decide) (.slice va ds.length vc) ds.length xs rfl HX.out ⟨w.heap.size, 0, none⟩ 1 1 zs rfl HZL.out HLIT.out HONE.out (by unfold maxLen; omega) (by omega) hbase ?_; intro v' w8 hrow8 hg8 hnil8 hloc8; clear hnil8; obtain ⟨g', c', rfl, hg1, hg2⟩ := rowForm hrow8 (by omega); have HROW := Lib.hid hrow8; have HG8 := Lib.hid hg8; have HL8 := Lib.hid hloc8; clear hrow8 hg8 hloc8) | fail)
    refine HK7.out _ _ ⟨fun h => absurd h (by decide), ?_⟩
    clear HK7
    refine wpAnyB_takeAny (i := 8) (v := (.pointer (some ⟨g', (ds.length * 7), none⟩))) (by decide) rfl (by kernel_rfl) (by kernel_rfl) (by kernel_rfl) (fun _ _ _ h => h) (Or.inl ⟨by rfl, fun w _ => by go_simp⟩) ?_; simp only [Act.put, List.setIfInBounds_toArray, List.set_cons_zero, List.set_cons_succ]
    refine wpAnyB_takeAny (i := 10) (v := (.pointer (some ⟨t6, 3, none⟩))) (by decide) rfl (by kernel_rfl) (by kernel_rfl) (by kernel_rfl) (fun _ _ _ h => h) (Or.inl ⟨by rfl, fun w _ => by go_simp⟩) ?_; simp only [Act.put, List.setIfInBounds_toArray, List.set_cons_zero, List.set_cons_succ]
    have h68 := HLI.out.h6 HX.out HG8.out H6W.out
    have y6 : w8.cell? ⟨t6, 3, none⟩ = some (.slice va ds.length vc) := by simp [World.cell?, h68, mkFields]
    have y7 : w8.frozen? ⟨t6, 3, none⟩ = false := by simp [World.frozen?, h68]
    have hxl : xs.length = ds.length * 7 := HX.out.1
    have q0 := row_cell HROW.out (ds.length * 7) (.string ⟨#[]⟩) (by rw [← hxl, List.getElem?_append_right (Nat.le_refl _), Nat.sub_self, HZS.out]; rfl)
    have q1 := row_cell HROW.out (ds.length * 7 + 1) (.int .i64 0) (by rw [← hxl, List.getElem?_append_right (by omega), Nat.add_sub_cancel_left, HZS.out]; rfl)
    have q2 := row_cell HROW.out (ds.length * 7 + 2) (.string ⟨#[]⟩) (by rw [← hxl, List.getElem?_append_right (by omega), Nat.add_sub_cancel_left, HZS.out]; rfl)
    have q3 := row_cell HROW.out (ds.length * 7 + 3) (.slice none 0 0) (by rw [← hxl, List.getElem?_append_right (by omega), Nat.add_sub_cancel_left, HZS.out]; rfl)
    have q4 := row_cell HROW.out (ds.length * 7 + 4) (.slice none 0 0) (by rw [← hxl, List.getElem?_append_right (by omega), Nat.add_sub_cancel_left, HZS.out]; rfl)
    have q5 := row_cell HROW.out (ds.length * 7 + 5) (.int .i64 0) (by rw [← hxl, List.getElem?_append_right (by omega), Nat.add_sub_cancel_left, HZS.out]; rfl)
    have q6 := row_cell HROW.out (ds.length * 7 + 6) (.int .i64 0) (by rw [← hxl, List.getElem?_append_right (by omega), Nat.add_sub_cancel_left, HZS.out]; rfl)
    have p0 := World.ownsRow.frozenAt HROW.out (ds.length * 7)
    have p1 := World.ownsRow.frozenAt HROW.out (ds.length * 7 + 1)
    have p2 := World.ownsRow.frozenAt HROW.out (ds.length * 7 + 2)
    have p3 := World.ownsRow.frozenAt HROW.out (ds.length * 7 + 3)
    have p4 := World.ownsRow.frozenAt HROW.out (ds.length * 7 + 4)
    have p5 := World.ownsRow.frozenAt HROW.out (ds.length * 7 + 5)
    have p6 := World.ownsRow.frozenAt HROW.out (ds.length * 7 + 6)
    have n1 : ¬ g' = t6 := by omega
    have n2 : ¬ t6 = g' := by omega
    have HXL := Lib.hid hxl.symm
    clear h68 hxl
    refine wpAnyB_two (i := 9) (k := 11) (by kernel_rfl) ?_ ?_
    · refine wpOp_intro (by decide) (fun K9 HK9 => ?_); simp only [List.drop_succ_cons, List.drop_zero, List.take_succ_cons, List.take_zero]
      go_wp2_with fail
      refine HK9.out _ _ ⟨fun h => absurd h (by decide), ?_⟩
      clear HK9
      refine wpAnyB_one (i := 11) (by kernel_rfl) ?_
      refine wpOp_intro (by decide) (fun Ka HKa => ?_); simp only [List.drop_succ_cons, List.drop_zero, List.take_succ_cons, List.take_zero]
      go_wp2_with fail
      refine HKa.out _ _ ⟨fun h => absurd h (by decide), ?_⟩
      clear HKa
      refine wpAnyB_done (by kernel_rfl) ?_ _
      go_wp2_with fail
      go_end0
      have hfin := HLI.out.end1 (jj := 3) HX.out HRO.out HD.out rfl HG8.out HL8.out H6W.out HROW.out HZL.out HXL.out rfl
      simp only [putCells, Nat.add_assoc, Nat.reduceAdd] at hfin
      exact ⟨rfl, hfin⟩
    · refine wpOp_intro (by decide) (fun K9 HK9 => ?_); simp only [List.drop_succ_cons, List.drop_zero, List.take_succ_cons, List.take_zero]
      go_wp2_with fail
      refine HK9.out _ _ ⟨fun h => absurd h (by decide), ?_⟩
      clear HK9
      refine wpAnyB_one (i := 9) (by kernel_rfl) ?_
      refine wpOp_intro (by decide) (fun Ka HKa => ?_); simp only [List.drop_succ_cons, List.drop_zero, List.take_succ_cons, List.take_zero]
      go_wp2_with fail
      refine HKa.out _ _ ⟨fun h => absurd h (by decide), ?_⟩
      clear HKa
      refine wpAnyB_done (by kernel_rfl) ?_ _
      go_wp2_with fail
      go_end0
      have hfin := HLI.out.end2 (jj := 3) HX.out HRO.out HD.out rfl HG8.out HL8.out H6W.out HROW.out HZL.out HXL.out rfl
      simp only [putCells, Nat.add_assoc, Nat.reduceAdd] at hfin
      exact ⟨rfl, hfin⟩
end Go.Proofs.YtmgoebfcfgilfaaGreatDoor
