/-
  Data that came in, of any type of numbers, texts, structs and slices: its cells hold a tree of that shape. Problems in memory; the document's list of them compared, walked. Problems of the call's own; the document's list with one more, walked. The document's list of problems with one more, and in order, walked.
-/
import Derived.Test.YtmgoebfcfgilfaaGreatDoorZs6
import Derived.ChangeArms
import Derived.DataElems
import Derived.Test.YtmgoebfcfgilfaaGreatDoorZs1
import Derived.Laws.StructEq
import Derived.Deep.LoopGhost
import Derived.Maps.AppendAt
import Derived.Laws.AppendOwnNone
import Derived.OpenShut
namespace Go.Proofs.YtmgoebfcfgilfaaGreatDoor
set_option linter.unusedSimpArgs false
set_option linter.unusedVariables false
open Go Go.RowKit

mutual
/-- This tree is of that type. -/
def HasT (P : Program) : TypeId → D → Prop
  | t, .int n => P.underlying t = some (.int .i64) ∧ (Lit.int .i64 n).wf = true
  | t, .str s => P.underlying t = some .string ∧ s.length ≤ maxLen
  | t, .bool _ => P.underlying t = some .bool
  | t, .obj ds => ∃ fs, P.underlying t = some (.struct fs) ∧ HasTs P (fs.toList.map (·.type)) ds
  | t, .seq k ds => ∃ e, P.underlying t = some (.slice e) ∧ P.cellsOf e = k ∧ ds.length ≤ maxLen ∧ HasTe P e ds
def HasTs (P : Program) : List TypeId → List D → Prop
  | [], [] => True
  | t :: ts, d :: ds => HasT P t d ∧ HasTs P ts ds
  | [], _ :: _ => False
  | _ :: _, [] => False
def HasTe (P : Program) : TypeId → List D → Prop
  | _, [] => True
  | e, d :: ds => HasT P e d ∧ HasTe P e ds
end
/-- A list of types that hold no others. -/
def niceB (P : Program) (L : List TypeId) : Bool := L.all fun t => match P.underlying t with
  | some (.int k) => decide (k = .i64)
  | some .string => true
  | some .bool => true
  | some (.struct fs) => P.consecB fs.toList 0 (P.cellsOf t) && fs.toList.all fun f => L.contains f.type
  | some (.slice e) => L.contains e && decide (0 < P.cellsOf e)
  | _ => false
section
variable {H : Type} {enc : TypeId × Value → H} {P : Program} {w : World} {sp : Nat → Bool} {held : Bool}
theorem fields_read {n : Nat} {L : List TypeId} (IH : ∀ t cs x, t ∈ L → DataW.trod enc P w 0 sp held n t cs = some x → ∃ d, Reads w (fun _ => True) d cs ∧ HasT P t d) :
    ∀ (fs : List Field) (xs : List (DataW H × List MemPlace)) (off : Nat) (cs : List Value), P.consecB fs off cs.length = true → (∀ f ∈ fs, f.type ∈ L) → xs.length = fs.length →
      (∀ (i : Nat) (f : Field), fs[i]? = some f → DataW.trod enc P w 0 sp held n f.type ((cs.drop f.offset).take (P.cellsOf f.type)) = xs[i]?) →
      ∃ ds, ReadsR w (fun _ => True) ds (cs.drop off) ∧ HasTs P (fs.map (·.type)) ds
  | [], xs, off, cs, hc, _, _, _ => by
    unfold Program.consecB at hc
    have : off = cs.length := by simpa using hc
    subst this
    rw [List.drop_length]
    exact ⟨[], .nil, trivial⟩
  | f :: fs, [], off, cs, hc, _, hl, _ => by simp at hl
  | f :: fs, x :: xs, off, cs, hc, hT, hl, h => by
    unfold Program.consecB at hc
    rw [Bool.and_eq_true] at hc
    have ho : f.offset = off := by simpa using hc.1
    have h0 := h 0 f rfl
    rw [ho] at h0
    obtain ⟨d, hd, ht⟩ := IH _ _ _ (hT f (by simp)) h0
    obtain ⟨ds, hds, hts⟩ := fields_read IH fs xs (off + P.cellsOf f.type) cs hc.2 (fun g hg => hT g (by simp [hg])) (by simpa using hl) (fun i g hg => h (i + 1) g hg)
    refine ⟨d :: ds, ?_, ht, hts⟩
    rw [← take_drop_step cs off (P.cellsOf f.type)]
    exact .cons hd hds
theorem elems_read {n k : Nat} {e : TypeId} (IH : ∀ cs x, DataW.trod enc P w 0 sp held n e cs = some x → ∃ d, Reads w (fun _ => True) d cs ∧ HasT P e d) (hk : P.cellsOf e = k) (h0 : 0 < k) (a : Addr) (len : Nat) (hs : 0 < len → a.spot = none) :
    ∀ (m i : Nat) (elems : List (DataW H × List MemPlace)), i + m = len → elems.length = len → (∀ i, i < len → (w.cells? 0 (a.add (i * P.cellsOf e)) (P.cellsOf e)).bind (DataW.trod enc P w 0 sp held n e) = elems[i]?) →
      ∃ ds, ds.length = m ∧ ReadsS w (fun _ => True) k (some a) i ds ∧ HasTe P e ds
  | 0, i, elems, hi, hl, h => ⟨[], rfl, .nil, trivial⟩
  | m + 1, i, elems, hi, hl, h => by
    obtain ⟨ds, hdl, hds, hts⟩ := elems_read IH hk h0 a len hs m (i + 1) elems (by omega) hl h
    have hx := h i (by omega)
    rw [List.getElem?_eq_getElem (by omega : i < elems.length), Option.bind_eq_some_iff] at hx
    obtain ⟨cs, hcells, hd⟩ := hx
    obtain ⟨d, hr, ht⟩ := IH cs _ hd
    obtain ⟨_, hlc, hcell⟩ := World.cells?_some hcells
    rw [hk] at hcell hlc
    have hc0 := hcell 0 h0
    rw [List.getElem?_eq_getElem (by omega : 0 < cs.length)] at hc0
    obtain ⟨g, o, spot⟩ := a
    have hspot : spot = none := hs (by omega)
    subst hspot
    have hlt : g < w.heap.size := by
      have hb := World.block_lt_of_cell? w _ hc0
      rw [Addr.add_add] at hb
      unfold Addr.add at hb
      split at hb <;> exact hb
    refine ⟨d :: ds, by rw [List.length_cons, hdl], ?_, ht, hts⟩
    refine .cons rfl trivial hlt hlc (fun j v hj => ?_) hr hds
    have hjl : j < k := by rw [← hlc]; exact (List.getElem?_eq_some_iff.1 hj).1
    have := hcell j hjl
    rw [hj, Addr.add_add] at this
    rw [← this]
    congr 1
    unfold Addr.add
    split
    · rename_i hz
      have h1 : i * k = 0 := by omega
      have h2 : j = 0 := by omega
      rw [h1, h2]; rfl
    · show _ = (⟨g, o + (i * k + j), _⟩ : Addr)
      rw [Nat.add_assoc]
theorem open_data {L : List TypeId} (hL : niceB P L = true) : ∀ (fuel : Nat) (t : TypeId) (cs : List Value) (x : DataW H × List MemPlace), t ∈ L → DataW.trod enc P w 0 sp held fuel t cs = some x → ∃ d, Reads w (fun _ => True) d cs ∧ HasT P t d
  | 0, t, cs, x, _, h => by simp [DataW.trod] at h
  | n + 1, t, cs, x, ht, h => by
    have hn := List.all_eq_true.1 hL t ht
    split at hn
    · rename_i k hu
      obtain rfl : k = .i64 := of_decide_eq_true hn
      obtain ⟨m, rfl, -, hw⟩ := DataW.trod_int hu h
      exact ⟨.int m, .int m, hu, hw⟩
    · rename_i hu
      obtain ⟨s, rfl, -, hs⟩ := DataW.trod_string hu h
      have e : s = ⟨s.data.toList.toArray⟩ := by cases s; simp
      refine ⟨.str s.data.toList, ?_, hu, hs⟩
      have := Reads.str (w := w) (P := fun _ => True) s.data.toList
      rw [← e] at this
      exact this
    · rename_i hu
      obtain ⟨b, rfl, -⟩ := DataW.trod_bool hu h
      exact ⟨.bool b, .bool b, hu⟩
    · rename_i fs hu
      rw [Bool.and_eq_true] at hn
      obtain ⟨xs, n', e, -, hl, hxl, hf⟩ := DataW.trod_struct hu h
      obtain rfl : n = n' := by omega
      obtain ⟨ds, hds, hts⟩ := fields_read (fun t cs x ht hx => open_data hL n t cs x ht hx) fs.toList xs 0 cs (by rw [hl]; exact hn.1) (fun f hf => by simpa using List.all_eq_true.1 hn.2 f hf) (by rw [hxl]; simp) (fun i f hi => hf i f (by simpa using hi))
      rw [List.drop_zero] at hds
      exact ⟨.obj ds, .obj hds, fs, hu, hts⟩
    · rename_i e hu
      rw [Bool.and_eq_true, decide_eq_true_eq] at hn
      have heL : e ∈ L := by simpa using hn.1
      rcases DataW.trod_slice hu h with ⟨rfl, -⟩ | ⟨a, len, cap, elems, rest, n', e2, rfl, -, -, hlc, hcm, hel, hrd, -⟩
      · exact ⟨.seq (P.cellsOf e) [], .seq .nil, e, hu, rfl, by simp, trivial⟩
      · obtain rfl : n = n' := by omega
        have hspot : 0 < len → a.spot = none := fun h0 => by
          have hx := hrd 0 h0
          rw [List.getElem?_eq_getElem (by omega : 0 < elems.length), Option.bind_eq_some_iff] at hx
          obtain ⟨cs, hcells, -⟩ := hx
          obtain ⟨_, hlc, hcell⟩ := World.cells?_some hcells
          have hc0 := hcell 0 hn.2
          rw [List.getElem?_eq_getElem (by omega : 0 < cs.length)] at hc0
          have ha : (a.add (0 * P.cellsOf e)).add 0 = a := by simp [Addr.add]
          rw [ha] at hc0
          exact World.cell?_spot hc0
        obtain ⟨ds, hdl, hds, hts⟩ := elems_read (fun cs x hx => open_data hL n e cs x heL hx) rfl hn.2 a len hspot len 0 elems (by omega) hel hrd
        subst hdl
        exact ⟨.seq (P.cellsOf e) ds, .seq hds, e, hu, rfl, by omega, hts⟩
    · cases hn
theorem open_arg {L : List TypeId} (hL : niceB P L = true) {t : TypeId} {v : Value} {x : DataW H} {ps : List MemPlace} (ht : t ∈ L) (h : DataW.Trod enc P w 0 sp held t v x ps) : ∃ d, Reads w (fun _ => True) d v.cells.toList ∧ HasT P t d := by
  obtain ⟨fuel, hf⟩ := h
  exact open_data hL fuel t _ _ ht hf
end
section
variable {P : Program} {t : TypeId} {d : D}
theorem HasT.int (ht : P.underlying t = some (.int .i64)) (h : HasT P t d) : ∃ n, d = .int n ∧ (Lit.int .i64 n).wf = true := by
  cases d with
  | int n => unfold HasT at h; exact ⟨n, rfl, h.2⟩
  | str s => unfold HasT at h; rw [ht] at h; cases h.1
  | bool b => unfold HasT at h; rw [ht] at h; cases h
  | obj ds => unfold HasT at h; obtain ⟨fs, h, -⟩ := h; rw [ht] at h; cases h
  | seq k ds => unfold HasT at h; obtain ⟨fs, h, -⟩ := h; rw [ht] at h; cases h
theorem HasT.str (ht : P.underlying t = some .string) (h : HasT P t d) : ∃ s, d = .str s ∧ s.length ≤ maxLen := by
  cases d with
  | int n => unfold HasT at h; rw [ht] at h; cases h.1
  | str s => unfold HasT at h; exact ⟨s, rfl, h.2⟩
  | bool b => unfold HasT at h; rw [ht] at h; cases h
  | obj ds => unfold HasT at h; obtain ⟨fs, h, -⟩ := h; rw [ht] at h; cases h
  | seq k ds => unfold HasT at h; obtain ⟨fs, h, -⟩ := h; rw [ht] at h; cases h
theorem HasT.bool (ht : P.underlying t = some .bool) (h : HasT P t d) : ∃ b, d = .bool b := by
  cases d with
  | int n => unfold HasT at h; rw [ht] at h; cases h.1
  | str s => unfold HasT at h; rw [ht] at h; cases h.1
  | bool b => exact ⟨b, rfl⟩
  | obj ds => unfold HasT at h; obtain ⟨fs, h, -⟩ := h; rw [ht] at h; cases h
  | seq k ds => unfold HasT at h; obtain ⟨fs, h, -⟩ := h; rw [ht] at h; cases h
theorem HasT.obj {fs : Array Field} (ht : P.underlying t = some (.struct fs)) (h : HasT P t d) : ∃ ds, d = .obj ds ∧ HasTs P (fs.toList.map (·.type)) ds := by
  cases d with
  | int n => unfold HasT at h; rw [ht] at h; cases h.1
  | str s => unfold HasT at h; rw [ht] at h; cases h.1
  | bool b => unfold HasT at h; rw [ht] at h; cases h
  | obj ds =>
    unfold HasT at h
    obtain ⟨fs', h1, h2⟩ := h
    rw [ht] at h1
    cases h1
    exact ⟨ds, rfl, h2⟩
  | seq k ds => unfold HasT at h; obtain ⟨fs, h, -⟩ := h; rw [ht] at h; cases h
theorem HasT.seq {e : TypeId} (ht : P.underlying t = some (.slice e)) (h : HasT P t d) : ∃ ds, d = .seq (P.cellsOf e) ds ∧ ds.length ≤ maxLen ∧ HasTe P e ds := by
  cases d with
  | int n => unfold HasT at h; rw [ht] at h; cases h.1
  | str s => unfold HasT at h; rw [ht] at h; cases h.1
  | bool b => unfold HasT at h; rw [ht] at h; cases h
  | obj ds => unfold HasT at h; obtain ⟨fs, h, -⟩ := h; rw [ht] at h; cases h
  | seq k ds =>
    unfold HasT at h
    obtain ⟨e', h1, h2, h3, h4⟩ := h
    rw [ht] at h1
    cases h1
    subst h2
    exact ⟨ds, rfl, h3, h4⟩
theorem HasTs.cons {ts : List TypeId} {ds : List D} (h : HasTs P (t :: ts) ds) : ∃ d r, ds = d :: r ∧ HasT P t d ∧ HasTs P ts r := by
  cases ds with
  | nil => unfold HasTs at h; exact h.elim
  | cons d r => unfold HasTs at h; exact ⟨d, r, rfl, h.1, h.2⟩
theorem HasTs.nil {ds : List D} (h : HasTs P [] ds) : ds = [] := by
  cases ds with
  | nil => rfl
  | cons d r => unfold HasTs at h; exact h.elim
theorem HasTe.mem {ds : List D} (h : HasTe P t ds) : ∀ d ∈ ds, HasT P t d := by
  induction ds with
  | nil => intro d hd; simp at hd
  | cons x r ih =>
    unfold HasTe at h
    intro d hd
    rcases List.mem_cons.1 hd with rfl | hd
    · exact h.1
    · exact ih h.2 d hd
end
end Go.Proofs.YtmgoebfcfgilfaaGreatDoor
namespace Go.Proofs.YtmgoebfcfgilfaaGreatDoor
set_option linter.unusedSimpArgs false
set_option linter.unusedVariables false
open Go Go.RowKit

/-- A problem as data. -/
def Cp.d (p : Cp.Pb) : D := .obj [.int p.1, .int p.2]
/-- Are they one? -/
def Cp.eqb (p q : Cp.Pb) : Bool := decide (p = q)
theorem Cp.eqb_true {p q : Cp.Pb} (h : p = q) : Cp.eqb p q = true := decide_eq_true h
theorem Cp.eqb_false {p q : Cp.Pb} (h : p ≠ q) : Cp.eqb p q = false := decide_eq_false h
/-- A slice of problems, in blocks that P names. -/
def Pbs (w : World) (P : Nat → Prop) (v : Value) (l : List Cp.Pb) : Prop := Reads w P (.seq 2 (l.map Cp.d)) [v]
section
variable {w : World} {P : Nat → Prop}
theorem Pbs.form {v : Value} {l : List Cp.Pb} (h : Pbs w P v l) : ∃ a c, v = .slice a l.length c := by
  obtain ⟨a, c, e, _⟩ := h.seq_inv
  refine ⟨a, c, ?_⟩
  rw [List.length_map] at e
  simpa using e
theorem Pbs.at {a : Option Addr} {n c : Nat} {l : List Cp.Pb} (h : Pbs w P (.slice a n c) l) {j : Nat} {p : Cp.Pb} (hj : l[j]? = some p) :
    ∃ g o, a = some ⟨g, o, none⟩ ∧ P g ∧ g < w.heap.size ∧ w.cell? ⟨g, o + j * 2, none⟩ = some (.int .i64 p.1) ∧ w.cell? ⟨g, o + j * 2 + 1, none⟩ = some (.int .i64 p.2) := by
  obtain ⟨a', c', e, hr⟩ := h.seq_inv
  rw [List.length_map] at e
  obtain ⟨rfl, rfl, rfl⟩ : a = a' ∧ n = l.length ∧ c = c' := by simpa using e
  obtain ⟨g, o, cs, e1, e2, e3, e4, e5, e6⟩ := hr.at j (Cp.d p) (by rw [List.getElem?_map, hj]; rfl)
  have e7 := e6.obj_inv
  obtain ⟨c1, r1, rfl, h1, h2⟩ := e7.cons_inv
  obtain ⟨c2, r2, rfl, h3, h4⟩ := h2.cons_inv
  rw [h1.int_inv, h3.int_inv, h4.nil_inv] at e5
  rw [Nat.zero_add] at e5
  exact ⟨g, o, e1, e2, e3, by have := e5 0 (.int .i64 p.1) rfl; rwa [Nat.add_zero] at this, e5 1 (.int .i64 p.2) rfl⟩
theorem Pbs.to {w' : World} {Q : Nat → Prop} {v : Value} {l : List Cp.Pb} (h : Pbs w P v l) (hs : Stands w P w' Q) : Pbs w' Q v l := Reads.to hs h
theorem Pbs.len {a : Option Addr} {n c : Nat} {l : List Cp.Pb} (h : Pbs w P (.slice a n c) l) : n = l.length := by
  obtain ⟨a', c', e⟩ := h.form
  simp at e
  exact e.2.1
end

@[go_sem high] theorem pb_guard (op : BinOp) (x y : Operand) (xs ys : Array Value) (w : World) : (eqGuard op 42 x y (.agg xs) (.agg ys)).run Tryz.prog w = .ok () w :=
  run_eqGuard_agg w op _ x y xs ys (by kernel_rfl)
theorem pb_equal (a b c d : Int) (w : World) : (Op.equalIn 10000 42 (.agg #[.int .i64 a, .int .i64 b]) (.agg #[.int .i64 c, .int .i64 d])).run Tryz.prog w = .ok (Cp.eqb (a, b) (c, d)) w := by
  have u3 := Tryz.underlying3
  have a3 := Tryz.isAgg3
  have z3 := Tryz.sizeOf3
  have hS : Tryz.prog.underlying 42 = some (.struct (Tryz.prog.fieldsOf 42)) := by kernel_rfl
  have hp : Tryz.prog.stoodInHeld 42 = false := by kernel_rfl
  rw [show (10000 : Nat) = 9999 + 1 from rfl, run_equalIn_agg w 9999 _ _ _ hS hp]
  simp only [Program.fieldsOf, Tryz.underlying42]
  go_simp
  unfold Cp.eqb
  by_cases h1 : a = c <;> by_cases h2 : b = d <;> simp [h1, h2]
@[go_sem high] theorem pb_eql (a b c d : Int) (w : World) : (binOp .eql 42 (.agg #[.int .i64 a, .int .i64 b]) (.agg #[.int .i64 c, .int .i64 d])).run Tryz.prog w = .ok (.bool (Cp.eqb (a, b) (c, d))) w := by
  rw [run_eql_struct, pb_equal]; rfl
@[go_sem high] theorem pb_neq (a b c d : Int) (w : World) : (binOp .neq 42 (.agg #[.int .i64 a, .int .i64 b]) (.agg #[.int .i64 c, .int .i64 d])).run Tryz.prog w = .ok (.bool (!(Cp.eqb (a, b) (c, d)))) w := by
  rw [run_neq_struct, pb_equal]; rfl

theorem same_at {a b : List Cp.Pb} (h : a.length = b.length) (he : ∀ (i : Nat) x y, a[i]? = some x → b[i]? = some y → x = y) : a = b := by
  apply List.ext_getElem h
  intro i h1 h2
  exact he i _ _ (List.getElem?_eq_getElem h1) (List.getElem?_eq_getElem h2)

set_option maxHeartbeats 1000000 in
set_option maxRecDepth 100000 in
theorem rsame_any (x y : Value) (l m : List Cp.Pb) (w : World) (P Q : Nat → Prop) (hl : l.length ≤ 9223372036854775807) (hx : Pbs w P x l) (hy : Pbs w Q y m) :
    Calls Tryz.prog 18 #[x, y] w fun e w' => e = .returned (.bool (decide (l = m))) ∧ ∃ n, w' = w.drewN n := by
  obtain ⟨xa, xc, rfl⟩ := hx.form
  obtain ⟨ya, yc, rfl⟩ := hy.form
  have HX := Lib.hid hx
  have HY := Lib.hid hy
  clear hx hy
  by_cases hlen : l.length = m.length
  rotate_left
  · have e0 : ((l.length : Int) != (m.length : Int)) = true := neT (by omega)
    have HF : Hid (decide (l = m) = false) := Lib.hid (decide_eq_false (fun e => hlen (by rw [e])))
    go_enter Tryz.func18, Tryz.ntmps18
    go_wp2_with fail
    go_ret
    exact ⟨by rw [HF.out]; rfl, 0, rfl⟩
  have e0 : ((l.length : Int) != (m.length : Int)) = false := neF (by omega)
  have HLEN := Lib.hid hlen
  clear hlen
  obtain ⟨B, hB⟩ : ∃ B, B = decide (l = m) := ⟨_, rfl⟩
  have HB := Lib.hid hB
  rw [← hB]
  clear hB
  go_enter Tryz.func18, Tryz.ntmps18
  go_wp2_with fail
  go_loopg [13] l.length (fun k s wr => ∃ j : Nat, j ≤ l.length ∧ k = l.length - j ∧ s = .int .i64 (j : Nat) ∧ (∀ (i : Nat) p q, i < j → l[i]? = some p → m[i]? = some q → p = q) ∧ ∃ n, wr = w.drewN n)
  case atStart => exact ⟨0, Nat.zero_le _, rfl, rfl, fun i _ _ h => absurd h (Nat.not_lt_zero _), 0, rfl⟩
  case round =>
    obtain ⟨j, hj, hk, rfl, heq, n, hwr⟩ := hrel
    have HK := Lib.hid hk
    have HE := Lib.hid heq
    clear hk heq
    have hj0 : (0 : Int) ≤ (j : Int) := Int.natCast_nonneg _
    by_cases hjn : j < l.length
    · have hjn1 : (j : Int) < (l.length : Int) := by omega
      have hjm1 : (j : Int) < (m.length : Int) := by have := HLEN.out; omega
      obtain ⟨p, hp⟩ : ∃ p, l[j]? = some p := ⟨_, List.getElem?_eq_getElem hjn⟩
      obtain ⟨q, hq⟩ : ∃ q, m[j]? = some q := ⟨_, List.getElem?_eq_getElem (by omega)⟩
      obtain ⟨g, o, rfl, -, hg, c1, c2⟩ := HX.out.at hp
      obtain ⟨g', o', rfl, -, hg', c1', c2'⟩ := HY.out.at hq
      obtain ⟨p1, p2⟩ := p
      obtain ⟨q1, q2⟩ := q
      dsimp only at c1 c2 c1' c2'
      have C1 : ∀ k, (w.drewN k).cell? ⟨g, o + j * 2, none⟩ = some (.int .i64 p1) := fun _ => c1
      have C2 : ∀ k, (w.drewN k).cell? ⟨g, o + j * 2 + 1, none⟩ = some (.int .i64 p2) := fun _ => c2
      have D1 : ∀ k, (w.drewN k).cell? ⟨g', o' + j * 2, none⟩ = some (.int .i64 q1) := fun _ => c1'
      have D2 : ∀ k, (w.drewN k).cell? ⟨g', o' + j * 2 + 1, none⟩ = some (.int .i64 q2) := fun _ => c2'
      clear c1 c2 c1' c2'
      have HP := Lib.hid hp
      have HQ := Lib.hid hq
      have HWR := Lib.hid hwr
      clear hp hq
      subst hwr
      by_cases hpq : ((p1, p2) : Cp.Pb) = (q1, q2)
      · have hb := Cp.eqb_true hpq
        have HPQ := Lib.hid hpq
        clear hpq
        go_wp2_with fail
        refine wp_region_cuts [] (by kernel_rfl) (by kernel_rfl) ?_; simp only [wpMix, List.take_succ_cons, List.take_zero, List.drop_succ_cons, List.drop_zero, Nat.sub_zero, Nat.reduceSub, Nat.reduceAdd]
        repeat (go_big_quiet_step (fail))
        refine wpQuiet_nil ?_; rintro _ ⟨nq, rfl⟩
        go_wp2_with fail
        go_roundg (l.length - (j + 1))
        case measure => rw [HK.out]; omega
        case rel =>
          refine ⟨j + 1, by omega, rfl, by simp, fun i p q hi h1 h2 => ?_, _, rfl⟩
          rcases Nat.lt_or_ge i j with h3 | h3
          · exact HE.out i p q h3 h1 h2
          · obtain rfl : i = j := by omega
            rw [HP.out] at h1
            rw [HQ.out] at h2
            cases h1
            cases h2
            exact HPQ.out
      · have hb := Cp.eqb_false hpq
        have HPQ := Lib.hid hpq
        clear hpq
        go_wp2_with fail
        refine wp_region_cuts [] (by kernel_rfl) (by kernel_rfl) ?_; simp only [wpMix, List.take_succ_cons, List.take_zero, List.drop_succ_cons, List.drop_zero, Nat.sub_zero, Nat.reduceSub, Nat.reduceAdd]
        repeat (go_big_quiet_step (fail))
        refine wpQuiet_nil ?_; rintro _ ⟨nq, rfl⟩
        go_wp2_with fail
        go_ret
        refine ⟨?_, _, World.drewN_drewN _ _ _⟩
        rw [HB.out, decide_eq_false]
        · rfl
        intro e
        have h1 := HP.out
        rw [e, HQ.out] at h1
        exact HPQ.out (Option.some.inj h1).symm
    · have hjn1 : (l.length : Int) ≤ (j : Int) := by omega
      subst hwr
      go_wp2_with fail
      go_ret
      refine ⟨?_, _, rfl⟩
      rw [HB.out, decide_eq_true]
      · rfl
      refine same_at HLEN.out fun i x y h1 h2 => HE.out i x y ?_ h1 h2
      have := (List.getElem?_eq_some_iff.1 h1).1
      omega
end Go.Proofs.YtmgoebfcfgilfaaGreatDoor
namespace Go.Proofs.YtmgoebfcfgilfaaGreatDoor
set_option linter.unusedSimpArgs false
set_option linter.unusedVariables false
open Go Go.RowKit
open Go.Maps Go.WideMaps

/-- A problem's cells. -/
def Cp.enc (p : Cp.Pb) : List Value := [.int .i64 p.1, .int .i64 p.2]
def pbCells (l : List Cp.Pb) : List Value := l.flatMap Cp.enc
theorem pbCells_app (a b : List Cp.Pb) : pbCells (a ++ b) = pbCells a ++ pbCells b := by unfold pbCells; rw [List.flatMap_append]
theorem pbCells_cons (p : Cp.Pb) (l : List Cp.Pb) : pbCells (p :: l) = [.int .i64 p.1, .int .i64 p.2] ++ pbCells l := by unfold pbCells; rw [List.flatMap_cons]; rfl
theorem pbCells_len : ∀ l : List Cp.Pb, (pbCells l).length = l.length * 2
  | [] => rfl
  | p :: r => by rw [pbCells_cons, List.length_append, pbCells_len r, List.length_cons]; simp; omega
theorem pbCells_oneCell (l : List Cp.Pb) : ∀ u ∈ pbCells l, u.oneCell' = true := fun u hu => by
  unfold pbCells at hu
  obtain ⟨c, _, hc⟩ := List.mem_flatMap.1 hu
  simp [Cp.enc] at hc
  rcases hc with rfl | rfl <;> rfl
theorem pbCells_at : ∀ (l : List Cp.Pb) (j : Nat) (p : Cp.Pb), l[j]? = some p → (pbCells l)[j * 2]? = some (.int .i64 p.1) ∧ (pbCells l)[j * 2 + 1]? = some (.int .i64 p.2)
  | [], j, p, h => by simp at h
  | x :: r, 0, p, h => by simp at h; subst h; rw [pbCells_cons]; exact ⟨rfl, rfl⟩
  | x :: r, j + 1, p, h => by
    have := pbCells_at r j p (by simpa using h)
    rw [pbCells_cons, show (j + 1) * 2 = j * 2 + 1 + 1 by omega]
    exact this
theorem pbCells_inv : ∀ (l : List Cp.Pb) (k : Nat) (u : Value), (pbCells l)[k]? = some u → ∃ p, l[k / 2]? = some p ∧ u = if k % 2 = 0 then .int .i64 p.1 else .int .i64 p.2
  | [], k, u, h => by simp [pbCells] at h
  | x :: r, 0, u, h => by rw [pbCells_cons] at h; simp at h; exact ⟨x, rfl, by rw [← h]; rfl⟩
  | x :: r, 1, u, h => by rw [pbCells_cons] at h; simp at h; exact ⟨x, rfl, by rw [← h]; rfl⟩
  | x :: r, k + 2, u, h => by
    rw [pbCells_cons] at h
    obtain ⟨p, h1, h2⟩ := pbCells_inv r k u (by simpa using h)
    rw [show (k + 2) / 2 = k / 2 + 1 by omega, show (k + 2) % 2 = k % 2 by omega]
    exact ⟨p, by simpa using h1, h2⟩
/-- Problems of the call's own. -/
def OwnP (w : World) (base : Nat) (v : Value) (l : List Cp.Pb) : Prop := w.ownsRow base 42 2 v l.length (pbCells l)
theorem infoP : (Tryz.prog.info? 42).map (fun i => (i.zero, i.size, i.bytes)) = some (some (.agg #[.int .i64 0, .int .i64 0]), 2, 16) := by kernel_rfl
theorem infoP_parts : ∃ i, Tryz.prog.info? 42 = some i ∧ i.zero = some (.agg #[.int .i64 0, .int .i64 0]) ∧ i.size = 2 ∧ i.bytes = 16 := by
  have h := infoP
  cases hh : Tryz.prog.info? 42 with
  | none => rw [hh] at h; cases h
  | some i =>
    rw [hh] at h
    simp only [Option.map_some, Option.some.injEq, Prod.mk.injEq] at h
    exact ⟨i, rfl, h.1, h.2.1, h.2.2⟩
theorem OwnP.mono {w : World} {base base' : Nat} {v : Value} {l : List Cp.Pb} (h : OwnP w base v l) (hb : base' ≤ base) : OwnP w base' v l := by
  refine ⟨h.1, ?_⟩
  rcases h.2 with h2 | ⟨g, cap, cur, hv, hg, r⟩
  · exact .inl h2
  · exact .inr ⟨g, cap, cur, hv, Nat.le_trans hb hg, r⟩
theorem OwnP.lt {w : World} {base : Nat} {v : Value} {l : List Cp.Pb} (h : OwnP w base v l) : ∀ g, v.ownBlock = some g → base ≤ g ∧ g < w.heap.size := fun g hg => World.ownsRow.lt h g hg
theorem OwnP.heap {w w' : World} {base : Nat} {v : Value} {l : List Cp.Pb} (h : OwnP w base v l) (hb : ∀ g, v.ownBlock = some g → w'.heap[g]? = w.heap[g]?) : OwnP w' base v l := row_to h hb
theorem OwnP.keep {w w' : World} {base : Nat} {v : Value} {l : List Cp.Pb} (h : OwnP w base v l) (hb : Below w.heap.size w w') : OwnP w' base v l :=
  h.heap (fun g hg => hb.block g (h.lt g hg).2)
theorem OwnP.form {w : World} {base : Nat} {v : Value} {l : List Cp.Pb} (h : OwnP w base v l) : ∃ a n c, v = .slice a n c ∧ Hid (n = l.length) := by
  rcases h.2 with ⟨h4, h5⟩ | ⟨g, cap, cur, hv, _⟩
  · exact ⟨none, 0, 0, h4, Lib.hid h5.symm⟩
  · exact ⟨_, _, _, hv, Lib.hid rfl⟩
theorem OwnP.nil (w : World) (base : Nat) : OwnP w base (.slice none 0 0) [] := World.ownsRow_nil _ _ _ _
theorem rows_pb (w : World) (P : Nat → Prop) : ∀ l : List Cp.Pb, RowsD w P 2 (l.map Cp.d) (pbCells l)
  | [] => .nil
  | p :: r => by
    rw [pbCells_cons]
    have h1 : Reads w P (Cp.d p) [.int .i64 p.1, .int .i64 p.2] := .obj (.cons (.int _) (.cons (.int _) .nil))
    exact .cons h1 rfl (rows_pb w P r)
theorem OwnP.pbs {w : World} {base : Nat} {v : Value} {l : List Cp.Pb} (h : OwnP w base v l) : Pbs w (fun g => v.ownBlock = some g) v l := by
  have hg : Grows w (fun _ => False) base 42 2 v (l.map Cp.d) := ⟨⟨pbCells l, by rw [List.length_map]; exact h, rows_pb w _ l⟩, fun _ _ h => h⟩
  exact hg.reads.to (Stands.sub _ (fun g _ hh => hh.elim False.elim id))
/-- Where a row grew, all that lay below its base stands. -/
theorem OwnP.grown {w wr w5 : World} {base : Nat} {v : Value} {l : List Cp.Pb} (ho : OwnP wr base v l) (hb : Below base w wr) (hg : wr.grownBy w5 v.ownBlock) (hbase : base ≤ wr.heap.size) : Below base w w5 := by
  refine ⟨hg.os.trans hb.os, hg.tape.trans hb.tape, hg.output.trans hb.output, Nat.le_trans hb.size hg.size, fun j hj => ?_⟩
  rw [← hb.block j hj]
  exact hg.block j (by omega) (fun e => by
    have := (ho.lt j e.symm).1
    omega)
theorem addrAddP (g o k : Nat) : (⟨g, o, none⟩ : Addr).add k = ⟨g, o + k, none⟩ := by
  by_cases h : k = 0
  · subst h; simp [Addr.add]
  · simp [Addr.add, h]
/-- A slice that is none has no room. -/
def NilCap (v : Value) : Prop := ∀ n c, v = .slice none n c → c = 0
theorem OwnP.nilCap {w : World} {base : Nat} {v : Value} {l : List Cp.Pb} (h : OwnP w base v l) : NilCap v := by
  intro n c e
  rcases h.2 with ⟨h4, h5⟩ | ⟨g, cap, cur, hv, _⟩
  · rw [h4] at e; cases e; rfl
  · rw [hv] at e; cases e
/-- One problem behind problems of one's own. -/
theorem wpList_append_pb {ops : Array Oper} {rest : List Oper} {o : Oper} {a : Act} {w : World} {Q : Exit → Act → World → Prop} (hgd : o.guard = none) (s x : Operand)
    (ho : o.op = .call { callee := .builtin .append, args := #[s, x], argTypes := #[37, 37] })
    (base : Nat) (v : Value) (l : List Cp.Pb) (hs : a.eval s = v) (hown : OwnP w base v l) (n : Cp.Pb) (b : Nat) (hx : a.eval x = .slice (some ⟨b, 0, none⟩) 1 1)
    (h0 : w.cell? ⟨b, 0, none⟩ = some (.int .i64 n.1)) (h1 : w.cell? ⟨b, 1, none⟩ = some (.int .i64 n.2)) (h63 : l.length ≤ 1000000000) (hbase : base ≤ w.heap.size)
    (h : ∀ v' w', OwnP w' base v' (l ++ [n]) → w.grownBy w' v.ownBlock → (v'.ownBlock = v.ownBlock ∨ v'.ownBlock = some w.heap.size) → wpList Tryz.prog ops Q rest (a.put o.dst v') w') :
    wpList Tryz.prog ops Q (o :: rest) a w := by
  obtain ⟨i0, hi, hz0, hz1, hz2⟩ := infoP_parts
  refine wpList_append_own_at w hgd s x _ ho base 42 i0 (.agg #[.int .i64 0, .int .i64 0]) 2 16 Tryz.underlying37 hi hz0 hz1 hz2 rfl (by decide) v l.length (pbCells l) hs hown ⟨b, 0, none⟩ 1 1 (pbCells [n]) hx rfl ?_ (pbCells_oneCell [n]) (by unfold maxLen; omega) (by omega) hbase ?_
  · intro j u hj
    rw [addr_add0]
    match j, hj with
    | 0, hj => simp [pbCells, Cp.enc] at hj; subst hj; exact h0
    | 1, hj => simp [pbCells, Cp.enc] at hj; subst hj; exact h1
    | j + 2, hj => simp [pbCells, Cp.enc] at hj
  · intro v' w' g1 g2 _ g4
    exact h v' w' (by unfold OwnP; rw [List.length_append, pbCells_app]; exact g1) g2 g4
/-- Problems, wherever they lie, behind problems of one's own. -/
theorem wpList_append_pbs {ops : Array Oper} {rest : List Oper} {o : Oper} {a : Act} {w : World} {Q : Exit → Act → World → Prop} (hgd : o.guard = none) (s x : Operand)
    (ho : o.op = .call { callee := .builtin .append, args := #[s, x], argTypes := #[37, 37] })
    (base : Nat) (v : Value) (l : List Cp.Pb) (hs : a.eval s = v) (hown : OwnP w base v l) (xv : Value) (P : Nat → Prop) (news : List Cp.Pb) (hx : a.eval x = xv) (hB : Pbs w P xv news)
    (h63 : l.length + news.length ≤ 1000000000) (hbase : base ≤ w.heap.size) (hnil : NilCap xv)
    (h : ∀ v' w', OwnP w' base v' (l ++ news) → w.grownBy w' v.ownBlock → (v'.ownBlock = v.ownBlock ∨ v'.ownBlock = some w.heap.size) → wpList Tryz.prog ops Q rest (a.put o.dst v') w') :
    wpList Tryz.prog ops Q (o :: rest) a w := by
  obtain ⟨i0, hi, hz0, hz1, hz2⟩ := infoP_parts
  obtain ⟨xa, xc, rfl⟩ := hB.form
  cases xa with
  | none =>
    have h0 : news = [] := by
      cases news with
      | nil => rfl
      | cons p r =>
        obtain ⟨g, o, e, _⟩ := hB.at (j := 0) (p := p) rfl
        cases e
    subst h0
    have hc0 : xc = 0 := hnil _ _ rfl
    subst hc0
    refine wpList_append_own_none hgd s x _ ho base 42 i0 2 Tryz.underlying37 hi v _ _ hs hown hx ?_
    exact h v w (by rw [List.append_nil]; exact hown) ⟨rfl, rfl, rfl, Nat.le_refl _, fun _ _ _ => rfl⟩ (.inl rfl)
  | some ad =>
    refine wpList_append_own_at w hgd s x _ ho base 42 i0 (.agg #[.int .i64 0, .int .i64 0]) 2 16 Tryz.underlying37 hi hz0 hz1 hz2 rfl (by decide) v l.length (pbCells l) hs hown ad news.length xc (pbCells news) hx (by rw [pbCells_len]) ?_ (pbCells_oneCell news) (by unfold maxLen; omega) (by omega) hbase ?_
    · intro j u hj
      obtain ⟨p, h1, h2⟩ := pbCells_inv _ _ _ hj
      obtain ⟨b, off, e1, _, _, e3, e4⟩ := hB.at h1
      cases e1
      rw [addrAddP]
      by_cases hj2 : j % 2 = 0
      · rw [if_pos hj2] at h2
        rw [h2, show off + j = off + j / 2 * 2 by omega]
        exact e3
      · rw [if_neg hj2] at h2
        rw [h2, show off + j = off + j / 2 * 2 + 1 by omega]
        exact e4
    · intro v' w' h1 h2 _ h4
      exact h v' w' (by unfold OwnP; rw [List.length_append, pbCells_app]; exact h1) h2 h4
end Go.Proofs.YtmgoebfcfgilfaaGreatDoor
namespace Go.Proofs.YtmgoebfcfgilfaaGreatDoor
set_option linter.unusedSimpArgs false
set_option linter.unusedVariables false
open Go Go.RowKit
open Go.Maps Go.WideMaps

namespace Cp
/-- One more, from here on; is it done? -/
def putL (p : Pb) : Bool → List Pb → List Pb
  | done, [] => if done then [] else [p]
  | done, x :: r => if !done && lt p x then p :: x :: putL p true r else x :: putL p done r
theorem putL_true (p : Pb) : ∀ l, putL p true l = l
  | [] => rfl
  | x :: r => by rw [putL, putL_true p r]; rfl
theorem putL_false (p : Pb) : ∀ l, putL p false l = ins p l
  | [] => rfl
  | x :: r => by
    rw [putL, ins, putL_true, putL_false p r]
    rfl
end Cp
/-- What stands while problems are gone through. -/
structure PRd (base : Nat) (wA : World) (p x : Cp.Pb) (bx b o : Nat) (v : Value) (out : List Cp.Pb) (w : World) : Prop where
  own : OwnP w base v out
  bel : Below base wA w
  hb : base ≤ w.heap.size
  z0 : w.cell? ⟨bx, 0, none⟩ = some (.int .i64 p.1)
  z1 : w.cell? ⟨bx, 1, none⟩ = some (.int .i64 p.2)
  c0 : w.cell? ⟨b, o, none⟩ = some (.int .i64 x.1)
  c1 : w.cell? ⟨b, o + 1, none⟩ = some (.int .i64 x.2)
theorem cellLtP {w : World} {a : Addr} {v : Value} (h : w.cell? a = some v) : a.block < w.heap.size := by
  rcases Nat.lt_or_ge a.block w.heap.size with h' | h'
  · exact h'
  · unfold World.cell? at h
    simp [Array.getElem?_eq_none h'] at h
theorem PRd.below {base : Nat} {wA : World} {p x : Cp.Pb} {bx b o : Nat} {v : Value} {out : List Cp.Pb} {w w' : World} (h : PRd base wA p x bx b o v out w) (hb : Below w.heap.size w w') : PRd base wA p x bx b o v out w' :=
  ⟨h.own.keep hb, h.bel.trans (hb.mono h.hb), Nat.le_trans h.hb hb.size, by rw [hb.cell (cellLtP h.z0)]; exact h.z0, by rw [hb.cell (cellLtP h.z1)]; exact h.z1, by rw [hb.cell (cellLtP h.c0)]; exact h.c0, by rw [hb.cell (cellLtP h.c1)]; exact h.c1⟩
theorem PRd.grown {base : Nat} {wA : World} {p x : Cp.Pb} {bx b o : Nat} {v v' : Value} {out out' : List Cp.Pb} {w w' : World} (h : PRd base wA p x bx b o v out w) (hbx : bx < base) (hbb : b < base) (ho : OwnP w' base v' out') (hg : w.grownBy w' v.ownBlock) : PRd base wA p x bx b o v' out' w' := by
  have hB : Below base w w' := h.own.grown (Below.refl _ _) hg h.hb
  exact ⟨ho, h.bel.trans hB, Nat.le_trans h.hb hB.size, by rw [hB.cell hbx]; exact h.z0, by rw [hB.cell hbx]; exact h.z1, by rw [hB.cell hbb]; exact h.c0, by rw [hB.cell hbb]; exact h.c1⟩
set_option maxHeartbeats 1000000 in
set_option maxRecDepth 100000 in
theorem rput_any (v : Value) (l : List Cp.Pb) (p1 p2 : Int) (w : World) (P : Nat → Prop) (h : Pbs w P v l) (hl : l.length ≤ 1000000) :
    Calls Tryz.prog 56 #[v, .int .i64 p1, .int .i64 p2] w fun e w' => ∃ v', e = .returned v' ∧ Below w.heap.size w w' ∧ (((p1, p2) ∈ l ∧ v' = v) ∨ ((p1, p2) ∉ l ∧ OwnP w' w.heap.size v' (Cp.ins (p1, p2) l))) := by
  obtain ⟨a, c, rfl⟩ := h.form
  have hb0 : Below w.heap.size w (w.alloc (.cells #[.int .i64 p1, .int .i64 p2] 42)) := (Below.refl _ _).alloc (Nat.le_refl _) _
  have HB0 := Lib.hid hb0
  have H := Lib.hid (h.to (Stands.below hb0))
  have H0 := Lib.hid h
  have y0 := cell_at_new w #[.int .i64 p1, .int .i64 p2] 42 (0, 0) 0 _ rfl
  have y1 := cell_at_new w #[.int .i64 p1, .int .i64 p2] 42 (0, 0) 1 _ rfl
  clear h hb0
  go_enter Tryz.func56, Tryz.ntmps56
  go_wp2_with fail
  go_loopg [8, 9, 10, 16] l.length (fun k s8 s9 s10 s16 wq => ∃ (i : Nat) (out : List Cp.Pb) (done : Bool), i ≤ l.length ∧ k = l.length - i ∧ s16 = .int .i64 (i : Nat) ∧ s9 = .bool done ∧ OwnP wq (w.heap.size + 1) s8 out ∧ out.length ≤ 2 * i ∧ out ++ Cp.putL (p1, p2) done (l.drop i) = Cp.ins (p1, p2) l ∧ (∀ (j : Nat) q, j < i → l[j]? = some q → q ≠ (p1, p2)) ∧ Below (w.heap.size + 1) (w.alloc (.cells #[.int .i64 p1, .int .i64 p2] 42)) wq)
  case atStart => exact ⟨0, [], false, Nat.zero_le _, rfl, rfl, rfl, OwnP.nil _ _, by simp, by rw [List.drop_zero, List.nil_append]; exact Cp.putL_false _ l, fun j _ h => absurd h (Nat.not_lt_zero _), Below.refl _ _⟩
  case round =>
    obtain ⟨i, out, done, hi, hk, rfl, rfl, hout, hol, hw, hnf, hbr⟩ := hrel
    obtain ⟨oa, on, oc, hov, HON⟩ := OwnP.form hout
    subst hov
    have HK := Lib.hid hk
    have HOUT := Lib.hid hout
    have HW := Lib.hid hw
    have HNF := Lib.hid hnf
    have HBR := Lib.hid hbr
    have hi0 : (0 : Int) ≤ (i : Int) := Int.natCast_nonneg _
    have hbase : w.heap.size + 1 ≤ wr.heap.size := Nat.le_trans (by simp) hbr.size
    have z0 : wr.cell? ⟨w.heap.size, 0, none⟩ = some (.int .i64 p1) := by rw [hbr.cell (Nat.lt_succ_self _)]; exact y0
    have z1 : wr.cell? ⟨w.heap.size, 1, none⟩ = some (.int .i64 p2) := by rw [hbr.cell (Nat.lt_succ_self _)]; exact y1
    clear hk hout hw hnf
    by_cases hin : i < l.length
    · have hin1 : (i : Int) < (l.length : Int) := by omega
      obtain ⟨x, hx⟩ : ∃ x, l[i]? = some x := ⟨_, List.getElem?_eq_getElem hin⟩
      obtain ⟨b, o, rfl, -, hb, -, -⟩ := H0.out.at hx
      have hbr1 : Below (w.alloc (.cells #[.int .i64 p1, .int .i64 p2] 42)).heap.size (w.alloc (.cells #[.int .i64 p1, .int .i64 p2] 42)) wr := by simpa using hbr
      obtain ⟨_, _, eb, -, _, c0, c1⟩ := (H.out.to (Stands.below hbr1)).at hx
      cases eb
      obtain ⟨x1, x2⟩ := x
      dsimp only at c0 c1
      have hbB : b < w.heap.size + 1 := by omega
      have HD : Hid (Cp.putL (p1, p2) done (l.drop i) = if !done && Cp.lt (p1, p2) (x1, x2) then (p1, p2) :: (x1, x2) :: Cp.putL (p1, p2) true (l.drop (i + 1)) else (x1, x2) :: Cp.putL (p1, p2) done (l.drop (i + 1))) := by
        obtain ⟨h1, h2⟩ := List.getElem?_eq_some_iff.1 hx
        rw [List.drop_eq_getElem_cons h1, h2, Cp.putL]
        exact Lib.hid rfl
      have HX := Lib.hid hx
      clear hx hbr1 hbr y0 y1
      have HG : Hid (PRd (w.heap.size + 1) (w.alloc (.cells #[.int .i64 p1, .int .i64 p2] 42)) (p1, p2) (x1, x2) w.heap.size b (o + i * 2) (.slice oa on oc) out wr) := Lib.hid ⟨HOUT.out, HBR.out, hbase, z0, z1, c0, c1⟩
      clear hb HOUT HBR hbase
      by_cases he : ((x1, x2) : Cp.Pb) = (p1, p2)
      · have hcmp := Cp.eqb_true he
        have HE := Lib.hid he
        clear he
        go_wp2_with fail
        refine wp_region_cuts [] (by kernel_rfl) (by kernel_rfl) ?_; simp only [wpMix, List.take_succ_cons, List.take_zero, List.drop_succ_cons, List.drop_zero, Nat.sub_zero, Nat.reduceSub, Nat.reduceAdd]
        repeat (go_big_quiet_step (fail))
        refine wpQuiet_nil ?_; rintro _ ⟨nq, rfl⟩
        have HG6 := Lib.hid (HG.out.below (Below.drewN (Below.refl _ _) nq))
        obtain ⟨w6, hwx⟩ : ∃ x, x = (wr).drewN nq := ⟨_, rfl⟩
        rw [← hwx] at HG6 ⊢
        clear hwx z0 z1 c0 c1
        have z0 := HG6.out.z0
        have z1 := HG6.out.z1
        have c0 := HG6.out.c0
        have c1 := HG6.out.c1
        go_wp2_with fail
        go_ret
        exact ⟨_, rfl, HB0.out.trans (HG6.out.bel.mono (Nat.le_succ _)), .inl ⟨by rw [← HE.out]; exact List.mem_of_getElem? HX.out, rfl⟩⟩
      · have hcmp := Cp.eqb_false he
        have HNF2 : Hid (∀ (j : Nat) q, j < i + 1 → l[j]? = some q → q ≠ (p1, p2)) := Lib.hid (fun j q hj hq => by
          rcases Nat.lt_or_ge j i with h3 | h3
          · exact HNF.out j q h3 hq
          · obtain rfl : j = i := by omega
            rw [HX.out] at hq
            cases hq
            exact he)
        clear he HX
        cases done
        · by_cases hA : p2 < x2
          · have hA1 : decide (p2 < x2) = true := decide_eq_true hA
            have HW2 : Hid ((out ++ [(p1, p2)] ++ [(x1, x2)]) ++ Cp.putL (p1, p2) true (l.drop (i + 1)) = Cp.ins (p1, p2) l) := by
              rw [← HW.out, HD.out, if_pos (by rw [(Cp.lt_iff _ _).2 (.inl hA)]; rfl)]
              exact Lib.hid (by simp)
            go_wp2_with fail
            refine wp_region_cuts [] (by kernel_rfl) (by kernel_rfl) ?_; simp only [wpMix, List.take_succ_cons, List.take_zero, List.drop_succ_cons, List.drop_zero, Nat.sub_zero, Nat.reduceSub, Nat.reduceAdd]
            repeat (go_big_quiet_step (fail))
            refine wpQuiet_nil ?_; rintro _ ⟨nq, rfl⟩
            have HG6 := Lib.hid (HG.out.below (Below.drewN (Below.refl _ _) nq))
            obtain ⟨w6, hwx⟩ : ∃ x, x = (wr).drewN nq := ⟨_, rfl⟩
            rw [← hwx] at HG6 ⊢
            clear hwx z0 z1 c0 c1
            have z0 := HG6.out.z0
            have z1 := HG6.out.z1
            have c0 := HG6.out.c0
            have c1 := HG6.out.c1
            go_wp2_with fail
            refine wp_region_cuts [] (by kernel_rfl) (by kernel_rfl) ?_; simp only [wpMix, List.take_succ_cons, List.take_zero, List.drop_succ_cons, List.drop_zero, Nat.sub_zero, Nat.reduceSub, Nat.reduceAdd]
            repeat (go_big_quiet_step (fail))
            refine wpQuiet_nil ?_; rintro _ ⟨nq, rfl⟩
            have HG7 := Lib.hid (HG6.out.below (Below.drewN (Below.refl _ _) nq))
            obtain ⟨w7, hwx⟩ : ∃ x, x = (w6).drewN nq := ⟨_, rfl⟩
            rw [← hwx] at HG7 ⊢
            clear hwx z0 z1 c0 c1
            have z0 := HG7.out.z0
            have z1 := HG7.out.z1
            have c0 := HG7.out.c0
            have c1 := HG7.out.c1
            have hbA : Below (w7).heap.size w7 ((w7).alloc (.cells #[.int .i64 p1, .int .i64 p2] 42)) := (Below.refl _ _).alloc (Nat.le_refl _) _
            have HGA := Lib.hid (HG7.out.below hbA)
            have E0 := Lib.hid (cell_at_new (w7) #[.int .i64 p1, .int .i64 p2] 42 (0, 0) 0 _ rfl)
            have E1 := Lib.hid (cell_at_new (w7) #[.int .i64 p1, .int .i64 p2] 42 (0, 0) 1 _ rfl)
            have HLO : Hid ((out).length ≤ 1000000000) := Lib.hid (by first | omega | (simp; omega))
            clear hbA
            go_wp2_with (first
                  | (at_builtin; refine wpList_append_pb rfl _ _ rfl (w.heap.size + 1) _ (out) rfl HGA.out.own (p1, p2) (w7).heap.size rfl E0.out E1.out HLO.out HGA.out.hb ?_; intro v' w8 hown hgrow _; obtain ⟨va, vn, vc, hve, HVN⟩ := OwnP.form hown; subst hve; have HG8 := Lib.hid (HGA.out.grown (Nat.lt_succ_self _) hbB hown hgrow); clear hown hgrow z0 z1 c0 c1; have z0 := HG8.out.z0; have z1 := HG8.out.z1; have c0 := HG8.out.c0; have c1 := HG8.out.c1)
                  | (at_builtin; have hbA9 : Below w8.heap.size w8 (w8.alloc (.cells #[.int .i64 x1, .int .i64 x2] 42)) := (Below.refl _ _).alloc (Nat.le_refl _) _; have HGA9 := Lib.hid (HG8.out.below hbA9); have e09 := cell_at_new w8 #[.int .i64 x1, .int .i64 x2] 42 (0, 0) 0 _ rfl; have e19 := cell_at_new w8 #[.int .i64 x1, .int .i64 x2] 42 (0, 0) 1 _ rfl; refine wpList_append_pb rfl _ _ rfl (w.heap.size + 1) _ (out ++ [(p1, p2)]) rfl HGA9.out.own (x1, x2) w8.heap.size rfl e09 e19 (by simp; omega) HGA9.out.hb ?_; intro v'' w9 hown9 hgrow9 _; have HG9 := Lib.hid (HGA9.out.grown (Nat.lt_succ_self _) hbB hown9 hgrow9); clear hown9 hgrow9 hbA9 e09 e19)
                  | fail)
            go_roundg (l.length - (i + 1))
            case measure => rw [HK.out]; omega
            case rel => exact ⟨i + 1, out ++ [(p1, p2)] ++ [(x1, x2)], true, by omega, rfl, by simp, rfl, HG9.out.own, by simp; omega, HW2.out, HNF2.out, HG9.out.bel⟩
          · have hA1 : decide (p2 < x2) = false := decide_eq_false hA
            by_cases hB : p2 = x2
            · have hB1 : (p2 == x2) = true := by rw [hB]; exact beq_self_eq_true _
              by_cases hC : p1 < x1
              · have hC1 : decide (p1 < x1) = true := decide_eq_true hC
                have HW2 : Hid ((out ++ [(p1, p2)] ++ [(x1, x2)]) ++ Cp.putL (p1, p2) true (l.drop (i + 1)) = Cp.ins (p1, p2) l) := by
                  rw [← HW.out, HD.out, if_pos (by rw [(Cp.lt_iff _ _).2 (.inr ⟨hB, hC⟩)]; rfl)]
                  exact Lib.hid (by simp)
                clear hB
                go_wp2_with fail
                refine wp_region_cuts [] (by kernel_rfl) (by kernel_rfl) ?_; simp only [wpMix, List.take_succ_cons, List.take_zero, List.drop_succ_cons, List.drop_zero, Nat.sub_zero, Nat.reduceSub, Nat.reduceAdd]
                repeat (go_big_quiet_step (fail))
                refine wpQuiet_nil ?_; rintro _ ⟨nq, rfl⟩
                have HG6 := Lib.hid (HG.out.below (Below.drewN (Below.refl _ _) nq))
                obtain ⟨w6, hwx⟩ : ∃ x, x = (wr).drewN nq := ⟨_, rfl⟩
                rw [← hwx] at HG6 ⊢
                clear hwx z0 z1 c0 c1
                have z0 := HG6.out.z0
                have z1 := HG6.out.z1
                have c0 := HG6.out.c0
                have c1 := HG6.out.c1
                go_wp2_with fail
                refine wp_region_cuts [] (by kernel_rfl) (by kernel_rfl) ?_; simp only [wpMix, List.take_succ_cons, List.take_zero, List.drop_succ_cons, List.drop_zero, Nat.sub_zero, Nat.reduceSub, Nat.reduceAdd]
                repeat (go_big_quiet_step (fail))
                refine wpQuiet_nil ?_; rintro _ ⟨nq, rfl⟩
                have HG7 := Lib.hid (HG6.out.below (Below.drewN (Below.refl _ _) nq))
                obtain ⟨w7, hwx⟩ : ∃ x, x = (w6).drewN nq := ⟨_, rfl⟩
                rw [← hwx] at HG7 ⊢
                clear hwx z0 z1 c0 c1
                have z0 := HG7.out.z0
                have z1 := HG7.out.z1
                have c0 := HG7.out.c0
                have c1 := HG7.out.c1
                have hbA : Below (w7).heap.size w7 ((w7).alloc (.cells #[.int .i64 p1, .int .i64 p2] 42)) := (Below.refl _ _).alloc (Nat.le_refl _) _
                have HGA := Lib.hid (HG7.out.below hbA)
                have E0 := Lib.hid (cell_at_new (w7) #[.int .i64 p1, .int .i64 p2] 42 (0, 0) 0 _ rfl)
                have E1 := Lib.hid (cell_at_new (w7) #[.int .i64 p1, .int .i64 p2] 42 (0, 0) 1 _ rfl)
                have HLO : Hid ((out).length ≤ 1000000000) := Lib.hid (by first | omega | (simp; omega))
                clear hbA
                go_wp2_with (first
                      | (at_builtin; refine wpList_append_pb rfl _ _ rfl (w.heap.size + 1) _ (out) rfl HGA.out.own (p1, p2) (w7).heap.size rfl E0.out E1.out HLO.out HGA.out.hb ?_; intro v' w8 hown hgrow _; obtain ⟨va, vn, vc, hve, HVN⟩ := OwnP.form hown; subst hve; have HG8 := Lib.hid (HGA.out.grown (Nat.lt_succ_self _) hbB hown hgrow); clear hown hgrow z0 z1 c0 c1; have z0 := HG8.out.z0; have z1 := HG8.out.z1; have c0 := HG8.out.c0; have c1 := HG8.out.c1)
                      | (at_builtin; have hbA9 : Below w8.heap.size w8 (w8.alloc (.cells #[.int .i64 x1, .int .i64 x2] 42)) := (Below.refl _ _).alloc (Nat.le_refl _) _; have HGA9 := Lib.hid (HG8.out.below hbA9); have e09 := cell_at_new w8 #[.int .i64 x1, .int .i64 x2] 42 (0, 0) 0 _ rfl; have e19 := cell_at_new w8 #[.int .i64 x1, .int .i64 x2] 42 (0, 0) 1 _ rfl; refine wpList_append_pb rfl _ _ rfl (w.heap.size + 1) _ (out ++ [(p1, p2)]) rfl HGA9.out.own (x1, x2) w8.heap.size rfl e09 e19 (by simp; omega) HGA9.out.hb ?_; intro v'' w9 hown9 hgrow9 _; have HG9 := Lib.hid (HGA9.out.grown (Nat.lt_succ_self _) hbB hown9 hgrow9); clear hown9 hgrow9 hbA9 e09 e19)
                      | fail)
                go_roundg (l.length - (i + 1))
                case measure => rw [HK.out]; omega
                case rel => exact ⟨i + 1, out ++ [(p1, p2)] ++ [(x1, x2)], true, by omega, rfl, by simp, rfl, HG9.out.own, by simp; omega, HW2.out, HNF2.out, HG9.out.bel⟩
              · have hC1 : decide (p1 < x1) = false := decide_eq_false hC
                have hlt : Cp.lt (p1, p2) (x1, x2) = false := by
                  rw [← Bool.not_eq_true, Cp.lt_iff]
                  simp only
                  omega
                have HW2 : Hid ((out ++ [(x1, x2)]) ++ Cp.putL (p1, p2) false (l.drop (i + 1)) = Cp.ins (p1, p2) l) := by
                  rw [← HW.out, HD.out, if_neg (by rw [hlt]; simp)]
                  exact Lib.hid (by simp)
                clear hB hlt
                go_wp2_with fail
                refine wp_region_cuts [] (by kernel_rfl) (by kernel_rfl) ?_; simp only [wpMix, List.take_succ_cons, List.take_zero, List.drop_succ_cons, List.drop_zero, Nat.sub_zero, Nat.reduceSub, Nat.reduceAdd]
                repeat (go_big_quiet_step (fail))
                refine wpQuiet_nil ?_; rintro _ ⟨nq, rfl⟩
                have HG6 := Lib.hid (HG.out.below (Below.drewN (Below.refl _ _) nq))
                obtain ⟨w6, hwx⟩ : ∃ x, x = (wr).drewN nq := ⟨_, rfl⟩
                rw [← hwx] at HG6 ⊢
                clear hwx z0 z1 c0 c1
                have z0 := HG6.out.z0
                have z1 := HG6.out.z1
                have c0 := HG6.out.c0
                have c1 := HG6.out.c1
                go_wp2_with fail
                refine wp_region_cuts [] (by kernel_rfl) (by kernel_rfl) ?_; simp only [wpMix, List.take_succ_cons, List.take_zero, List.drop_succ_cons, List.drop_zero, Nat.sub_zero, Nat.reduceSub, Nat.reduceAdd]
                repeat (go_big_quiet_step (fail))
                refine wpQuiet_nil ?_; rintro _ ⟨nq, rfl⟩
                have HG7 := Lib.hid (HG6.out.below (Below.drewN (Below.refl _ _) nq))
                obtain ⟨w7, hwx⟩ : ∃ x, x = (w6).drewN nq := ⟨_, rfl⟩
                rw [← hwx] at HG7 ⊢
                clear hwx z0 z1 c0 c1
                have z0 := HG7.out.z0
                have z1 := HG7.out.z1
                have c0 := HG7.out.c0
                have c1 := HG7.out.c1
                have hbA : Below (w7).heap.size w7 ((w7).alloc (.cells #[.int .i64 x1, .int .i64 x2] 42)) := (Below.refl _ _).alloc (Nat.le_refl _) _
                have HGA := Lib.hid (HG7.out.below hbA)
                have E0 := Lib.hid (cell_at_new (w7) #[.int .i64 x1, .int .i64 x2] 42 (0, 0) 0 _ rfl)
                have E1 := Lib.hid (cell_at_new (w7) #[.int .i64 x1, .int .i64 x2] 42 (0, 0) 1 _ rfl)
                have HLO : Hid ((out).length ≤ 1000000000) := Lib.hid (by first | omega | (simp; omega))
                clear hbA
                go_wp2_with (first | (at_builtin; refine wpList_append_pb rfl _ _ rfl (w.heap.size + 1) _ (out) rfl HGA.out.own ((x1, x2)) (w7).heap.size rfl E0.out E1.out HLO.out HGA.out.hb ?_; intro v' w8 hown hgrow _; obtain ⟨va, vn, vc, hve, HVN⟩ := OwnP.form hown; subst hve; have HG8 := Lib.hid (HGA.out.grown (Nat.lt_succ_self _) hbB hown hgrow); clear hown hgrow z0 z1 c0 c1; have z0 := HG8.out.z0; have z1 := HG8.out.z1; have c0 := HG8.out.c0; have c1 := HG8.out.c1) | fail)
                go_roundg (l.length - (i + 1))
                case measure => rw [HK.out]; omega
                case rel => exact ⟨i + 1, out ++ [(x1, x2)], false, by omega, rfl, by simp, rfl, HG8.out.own, by rw [List.length_append, List.length_singleton]; omega, HW2.out, HNF2.out, HG8.out.bel⟩
            · have hB1 : (p2 == x2) = false := by rw [beq_eq_false_iff_ne]; exact hB
              have hlt : Cp.lt (p1, p2) (x1, x2) = false := by
                rw [← Bool.not_eq_true, Cp.lt_iff]
                simp only
                omega
              have HW2 : Hid ((out ++ [(x1, x2)]) ++ Cp.putL (p1, p2) false (l.drop (i + 1)) = Cp.ins (p1, p2) l) := by
                rw [← HW.out, HD.out, if_neg (by rw [hlt]; simp)]
                exact Lib.hid (by simp)
              clear hlt
              go_wp2_with fail
              refine wp_region_cuts [] (by kernel_rfl) (by kernel_rfl) ?_; simp only [wpMix, List.take_succ_cons, List.take_zero, List.drop_succ_cons, List.drop_zero, Nat.sub_zero, Nat.reduceSub, Nat.reduceAdd]
              repeat (go_big_quiet_step (fail))
              refine wpQuiet_nil ?_; rintro _ ⟨nq, rfl⟩
              have HG6 := Lib.hid (HG.out.below (Below.drewN (Below.refl _ _) nq))
              obtain ⟨w6, hwx⟩ : ∃ x, x = (wr).drewN nq := ⟨_, rfl⟩
              rw [← hwx] at HG6 ⊢
              clear hwx z0 z1 c0 c1
              have z0 := HG6.out.z0
              have z1 := HG6.out.z1
              have c0 := HG6.out.c0
              have c1 := HG6.out.c1
              go_wp2_with fail
              refine wp_region_cuts [] (by kernel_rfl) (by kernel_rfl) ?_; simp only [wpMix, List.take_succ_cons, List.take_zero, List.drop_succ_cons, List.drop_zero, Nat.sub_zero, Nat.reduceSub, Nat.reduceAdd]
              repeat (go_big_quiet_step (fail))
              refine wpQuiet_nil ?_; rintro _ ⟨nq, rfl⟩
              have HG7 := Lib.hid (HG6.out.below (Below.drewN (Below.refl _ _) nq))
              obtain ⟨w7, hwx⟩ : ∃ x, x = (w6).drewN nq := ⟨_, rfl⟩
              rw [← hwx] at HG7 ⊢
              clear hwx z0 z1 c0 c1
              have z0 := HG7.out.z0
              have z1 := HG7.out.z1
              have c0 := HG7.out.c0
              have c1 := HG7.out.c1
              have hbA : Below (w7).heap.size w7 ((w7).alloc (.cells #[.int .i64 x1, .int .i64 x2] 42)) := (Below.refl _ _).alloc (Nat.le_refl _) _
              have HGA := Lib.hid (HG7.out.below hbA)
              have E0 := Lib.hid (cell_at_new (w7) #[.int .i64 x1, .int .i64 x2] 42 (0, 0) 0 _ rfl)
              have E1 := Lib.hid (cell_at_new (w7) #[.int .i64 x1, .int .i64 x2] 42 (0, 0) 1 _ rfl)
              have HLO : Hid ((out).length ≤ 1000000000) := Lib.hid (by first | omega | (simp; omega))
              clear hbA
              go_wp2_with (first | (at_builtin; refine wpList_append_pb rfl _ _ rfl (w.heap.size + 1) _ (out) rfl HGA.out.own ((x1, x2)) (w7).heap.size rfl E0.out E1.out HLO.out HGA.out.hb ?_; intro v' w8 hown hgrow _; obtain ⟨va, vn, vc, hve, HVN⟩ := OwnP.form hown; subst hve; have HG8 := Lib.hid (HGA.out.grown (Nat.lt_succ_self _) hbB hown hgrow); clear hown hgrow z0 z1 c0 c1; have z0 := HG8.out.z0; have z1 := HG8.out.z1; have c0 := HG8.out.c0; have c1 := HG8.out.c1) | fail)
              go_roundg (l.length - (i + 1))
              case measure => rw [HK.out]; omega
              case rel => exact ⟨i + 1, out ++ [(x1, x2)], false, by omega, rfl, by simp, rfl, HG8.out.own, by rw [List.length_append, List.length_singleton]; omega, HW2.out, HNF2.out, HG8.out.bel⟩
        · have HW2 : Hid ((out ++ [(x1, x2)]) ++ Cp.putL (p1, p2) true (l.drop (i + 1)) = Cp.ins (p1, p2) l) := by
            rw [← HW.out, HD.out, if_neg (by simp)]
            exact Lib.hid (by simp)
          go_wp2_with fail
          refine wp_region_cuts [] (by kernel_rfl) (by kernel_rfl) ?_; simp only [wpMix, List.take_succ_cons, List.take_zero, List.drop_succ_cons, List.drop_zero, Nat.sub_zero, Nat.reduceSub, Nat.reduceAdd]
          repeat (go_big_quiet_step (fail))
          refine wpQuiet_nil ?_; rintro _ ⟨nq, rfl⟩
          have HG6 := Lib.hid (HG.out.below (Below.drewN (Below.refl _ _) nq))
          obtain ⟨w6, hwx⟩ : ∃ x, x = (wr).drewN nq := ⟨_, rfl⟩
          rw [← hwx] at HG6 ⊢
          clear hwx z0 z1 c0 c1
          have z0 := HG6.out.z0
          have z1 := HG6.out.z1
          have c0 := HG6.out.c0
          have c1 := HG6.out.c1
          go_wp2_with fail
          refine wp_region_cuts [] (by kernel_rfl) (by kernel_rfl) ?_; simp only [wpMix, List.take_succ_cons, List.take_zero, List.drop_succ_cons, List.drop_zero, Nat.sub_zero, Nat.reduceSub, Nat.reduceAdd]
          repeat (go_big_quiet_step (fail))
          refine wpQuiet_nil ?_; rintro _ ⟨nq, rfl⟩
          have HG7 := Lib.hid (HG6.out.below (Below.drewN (Below.refl _ _) nq))
          obtain ⟨w7, hwx⟩ : ∃ x, x = (w6).drewN nq := ⟨_, rfl⟩
          rw [← hwx] at HG7 ⊢
          clear hwx z0 z1 c0 c1
          have z0 := HG7.out.z0
          have z1 := HG7.out.z1
          have c0 := HG7.out.c0
          have c1 := HG7.out.c1
          have hbA : Below (w7).heap.size w7 ((w7).alloc (.cells #[.int .i64 x1, .int .i64 x2] 42)) := (Below.refl _ _).alloc (Nat.le_refl _) _
          have HGA := Lib.hid (HG7.out.below hbA)
          have E0 := Lib.hid (cell_at_new (w7) #[.int .i64 x1, .int .i64 x2] 42 (0, 0) 0 _ rfl)
          have E1 := Lib.hid (cell_at_new (w7) #[.int .i64 x1, .int .i64 x2] 42 (0, 0) 1 _ rfl)
          have HLO : Hid ((out).length ≤ 1000000000) := Lib.hid (by first | omega | (simp; omega))
          clear hbA
          go_wp2_with (first | (at_builtin; refine wpList_append_pb rfl _ _ rfl (w.heap.size + 1) _ (out) rfl HGA.out.own ((x1, x2)) (w7).heap.size rfl E0.out E1.out HLO.out HGA.out.hb ?_; intro v' w8 hown hgrow _; obtain ⟨va, vn, vc, hve, HVN⟩ := OwnP.form hown; subst hve; have HG8 := Lib.hid (HGA.out.grown (Nat.lt_succ_self _) hbB hown hgrow); clear hown hgrow z0 z1 c0 c1; have z0 := HG8.out.z0; have z1 := HG8.out.z1; have c0 := HG8.out.c0; have c1 := HG8.out.c1) | fail)
          go_roundg (l.length - (i + 1))
          case measure => rw [HK.out]; omega
          case rel => exact ⟨i + 1, out ++ [(x1, x2)], true, by omega, rfl, by simp, rfl, HG8.out.own, by rw [List.length_append, List.length_singleton]; omega, HW2.out, HNF2.out, HG8.out.bel⟩
    · have hin1 : (l.length : Int) ≤ (i : Int) := by omega
      have hend : l.drop i = [] := List.drop_eq_nil_of_le (by omega)
      rw [hend] at HW
      have hbr1 : Below w.heap.size w wr := HB0.out.trans (hbr.mono (Nat.le_succ _))
      have HBW := Lib.hid hbr1
      have HNO : Hid ((p1, p2) ∉ l) := Lib.hid (fun hm => by
        obtain ⟨j, hj⟩ := List.getElem?_of_mem hm
        exact HNF.out j _ (by have := (List.getElem?_eq_some_iff.1 hj).1; omega) hj rfl)
      clear hend hbr hbr1
      cases done
      · have hbA : Below wr.heap.size wr (wr.alloc (.cells #[.int .i64 p1, .int .i64 p2] 42)) := (Below.refl _ _).alloc (Nat.le_refl _) _
        have HOA := Lib.hid (HOUT.out.keep hbA)
        have HBA := Lib.hid (HBW.out.trans (hbA.mono HBW.out.size))
        have E0 := Lib.hid (cell_at_new wr #[.int .i64 p1, .int .i64 p2] 42 (0, 0) 0 _ rfl)
        have E1 := Lib.hid (cell_at_new wr #[.int .i64 p1, .int .i64 p2] 42 (0, 0) 1 _ rfl)
        have hbase2 : w.heap.size + 1 ≤ (wr.alloc (.cells #[.int .i64 p1, .int .i64 p2] 42)).heap.size := Nat.le_trans hbase hbA.size
        have HLO : Hid (out.length ≤ 1000000000) := Lib.hid (by omega)
        clear hbA
        go_wp2_with (first | (at_builtin; refine wpList_append_pb rfl _ _ rfl (w.heap.size + 1) _ out rfl HOA.out (p1, p2) wr.heap.size rfl E0.out E1.out HLO.out hbase2 ?_; intro v' w5 hown hgrow _; have HOWN := Lib.hid hown; have HB5 := Lib.hid ((HOA.out.mono (Nat.le_succ _)).grown HBA.out hgrow (Nat.le_trans (Nat.le_succ _) hbase2)); clear hown hgrow) | fail)
        go_ret
        refine ⟨_, rfl, HB5.out, .inr ⟨HNO.out, ?_⟩⟩
        have h1 := HOWN.out
        rw [show out ++ [(p1, p2)] = Cp.ins (p1, p2) l from HW.out] at h1
        exact OwnP.mono h1 (Nat.le_succ _)
      · go_wp2_with fail
        go_ret
        refine ⟨_, rfl, HBW.out, .inr ⟨HNO.out, ?_⟩⟩
        have h1 := HOUT.out
        have h2 : out = Cp.ins (p1, p2) l := by have := HW.out; rwa [show Cp.putL (p1, p2) true [] = [] from rfl, List.append_nil] at this
        rw [← h2]
        exact OwnP.mono h1 (Nat.le_succ _)
end Go.Proofs.YtmgoebfcfgilfaaGreatDoor
