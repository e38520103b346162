/-
  Data that came in, of any type of numbers, texts, structs and slices: its cells hold a tree of that shape.
-/
import Derived.Test.YtabcaljnpahgpaaGreatDoorK10
import Derived.ChangeArms
import Derived.DataElems
namespace Go.Proofs.YtabcaljnpahgpaaGreatDoor
set_option linter.unusedSimpArgs false
set_option linter.unusedVariables false
open Go Go.RowKit

mutual
/-- This tree is of that type. -/
def HasT (P : Program) : TypeId → D → Prop
  | t, .int n => P.underlying t = some (.int .i64) ∧ (Lit.int .i64 n).wf = true
  | t, .str s => P.underlying t = some .string ∧ s.length ≤ maxLen
  | t, .bool _ => P.underlying t = some .bool
  | t, .obj ds => ∃ fs, P.underlying t = some (.struct fs) ∧ HasTs P (fs.toList.map (·.type)) ds
  | t, .seq k ds => ∃ e, P.underlying t = some (.slice e) ∧ P.cellsOf e = k ∧ ds.length ≤ maxLen ∧ HasTe P e ds
def HasTs (P : Program) : List TypeId → List D → Prop
  | [], [] => True
  | t :: ts, d :: ds => HasT P t d ∧ HasTs P ts ds
  | [], _ :: _ => False
  | _ :: _, [] => False
def HasTe (P : Program) : TypeId → List D → Prop
  | _, [] => True
  | e, d :: ds => HasT P e d ∧ HasTe P e ds
end
/-- A list of types that hold no others. -/
def niceB (P : Program) (L : List TypeId) : Bool := L.all fun t => match P.underlying t with
  | some (.int k) => decide (k = .i64)
  | some .string => true
  | some .bool => true
  | some (.struct fs) => P.consecB fs.toList 0 (P.cellsOf t) && fs.toList.all fun f => L.contains f.type
  | some (.slice e) => L.contains e && decide (0 < P.cellsOf e)
  | _ => false
section
variable {H : Type} {enc : TypeId × Value → H} {P : Program} {w : World} {sp : Nat → Bool} {held : Bool}
theorem fields_read {n : Nat} {L : List TypeId} (IH : ∀ t cs x, t ∈ L → DataW.trod enc P w 0 sp held n t cs = some x → ∃ d, Reads w (fun _ => True) d cs ∧ HasT P t d) :
    ∀ (fs : List Field) (xs : List (DataW H × List MemPlace)) (off : Nat) (cs : List Value), P.consecB fs off cs.length = true → (∀ f ∈ fs, f.type ∈ L) → xs.length = fs.length →
      (∀ (i : Nat) (f : Field), fs[i]? = some f → DataW.trod enc P w 0 sp held n f.type ((cs.drop f.offset).take (P.cellsOf f.type)) = xs[i]?) →
      ∃ ds, ReadsR w (fun _ => True) ds (cs.drop off) ∧ HasTs P (fs.map (·.type)) ds
  | [], xs, off, cs, hc, _, _, _ => by
    unfold Program.consecB at hc
    have : off = cs.length := by simpa using hc
    subst this
    rw [List.drop_length]
    exact ⟨[], .nil, trivial⟩
  | f :: fs, [], off, cs, hc, _, hl, _ => by simp at hl
  | f :: fs, x :: xs, off, cs, hc, hT, hl, h => by
    unfold Program.consecB at hc
    rw [Bool.and_eq_true] at hc
    have ho : f.offset = off := by simpa using hc.1
    have h0 := h 0 f rfl
    rw [ho] at h0
    obtain ⟨d, hd, ht⟩ := IH _ _ _ (hT f (by simp)) h0
    obtain ⟨ds, hds, hts⟩ := fields_read IH fs xs (off + P.cellsOf f.type) cs hc.2 (fun g hg => hT g (by simp [hg])) (by simpa using hl) (fun i g hg => h (i + 1) g hg)
    refine ⟨d :: ds, ?_, ht, hts⟩
    rw [← take_drop_step cs off (P.cellsOf f.type)]
    exact .cons hd hds
theorem elems_read {n k : Nat} {e : TypeId} (IH : ∀ cs x, DataW.trod enc P w 0 sp held n e cs = some x → ∃ d, Reads w (fun _ => True) d cs ∧ HasT P e d) (hk : P.cellsOf e = k) (h0 : 0 < k) (a : Addr) (len : Nat) (hs : 0 < len → a.spot = none) :
    ∀ (m i : Nat) (elems : List (DataW H × List MemPlace)), i + m = len → elems.length = len → (∀ i, i < len → (w.cells? 0 (a.add (i * P.cellsOf e)) (P.cellsOf e)).bind (DataW.trod enc P w 0 sp held n e) = elems[i]?) →
      ∃ ds, ds.length = m ∧ ReadsS w (fun _ => True) k (some a) i ds ∧ HasTe P e ds
  | 0, i, elems, hi, hl, h => ⟨[], rfl, .nil, trivial⟩
  | m + 1, i, elems, hi, hl, h => by
    obtain ⟨ds, hdl, hds, hts⟩ := elems_read IH hk h0 a len hs m (i + 1) elems (by omega) hl h
    have hx := h i (by omega)
    rw [List.getElem?_eq_getElem (by omega : i < elems.length), Option.bind_eq_some_iff] at hx
    obtain ⟨cs, hcells, hd⟩ := hx
    obtain ⟨d, hr, ht⟩ := IH cs _ hd
    obtain ⟨_, hlc, hcell⟩ := World.cells?_some hcells
    rw [hk] at hcell hlc
    have hc0 := hcell 0 h0
    rw [List.getElem?_eq_getElem (by omega : 0 < cs.length)] at hc0
    obtain ⟨g, o, spot⟩ := a
    have hspot : spot = none := hs (by omega)
    subst hspot
    have hlt : g < w.heap.size := by
      have hb := World.block_lt_of_cell? w _ hc0
      rw [Addr.add_add] at hb
      unfold Addr.add at hb
      split at hb <;> exact hb
    refine ⟨d :: ds, by rw [List.length_cons, hdl], ?_, ht, hts⟩
    refine .cons rfl trivial hlt hlc (fun j v hj => ?_) hr hds
    have hjl : j < k := by rw [← hlc]; exact (List.getElem?_eq_some_iff.1 hj).1
    have := hcell j hjl
    rw [hj, Addr.add_add] at this
    rw [← this]
    congr 1
    unfold Addr.add
    split
    · rename_i hz
      have h1 : i * k = 0 := by omega
      have h2 : j = 0 := by omega
      rw [h1, h2]; rfl
    · show _ = (⟨g, o + (i * k + j), _⟩ : Addr)
      rw [Nat.add_assoc]
theorem open_data {L : List TypeId} (hL : niceB P L = true) : ∀ (fuel : Nat) (t : TypeId) (cs : List Value) (x : DataW H × List MemPlace), t ∈ L → DataW.trod enc P w 0 sp held fuel t cs = some x → ∃ d, Reads w (fun _ => True) d cs ∧ HasT P t d
  | 0, t, cs, x, _, h => by simp [DataW.trod] at h
  | n + 1, t, cs, x, ht, h => by
    have hn := List.all_eq_true.1 hL t ht
    split at hn
    · rename_i k hu
      obtain rfl : k = .i64 := of_decide_eq_true hn
      obtain ⟨m, rfl, -, hw⟩ := DataW.trod_int hu h
      exact ⟨.int m, .int m, hu, hw⟩
    · rename_i hu
      obtain ⟨s, rfl, -, hs⟩ := DataW.trod_string hu h
      have e : s = ⟨s.data.toList.toArray⟩ := by cases s; simp
      refine ⟨.str s.data.toList, ?_, hu, hs⟩
      have := Reads.str (w := w) (P := fun _ => True) s.data.toList
      rw [← e] at this
      exact this
    · rename_i hu
      obtain ⟨b, rfl, -⟩ := DataW.trod_bool hu h
      exact ⟨.bool b, .bool b, hu⟩
    · rename_i fs hu
      rw [Bool.and_eq_true] at hn
      obtain ⟨xs, n', e, -, hl, hxl, hf⟩ := DataW.trod_struct hu h
      obtain rfl : n = n' := by omega
      obtain ⟨ds, hds, hts⟩ := fields_read (fun t cs x ht hx => open_data hL n t cs x ht hx) fs.toList xs 0 cs (by rw [hl]; exact hn.1) (fun f hf => by simpa using List.all_eq_true.1 hn.2 f hf) (by rw [hxl]; simp) (fun i f hi => hf i f (by simpa using hi))
      rw [List.drop_zero] at hds
      exact ⟨.obj ds, .obj hds, fs, hu, hts⟩
    · rename_i e hu
      rw [Bool.and_eq_true, decide_eq_true_eq] at hn
      have heL : e ∈ L := by simpa using hn.1
      rcases DataW.trod_slice hu h with ⟨rfl, -⟩ | ⟨a, len, cap, elems, rest, n', e2, rfl, -, -, hlc, hcm, hel, hrd, -⟩
      · exact ⟨.seq (P.cellsOf e) [], .seq .nil, e, hu, rfl, by simp, trivial⟩
      · obtain rfl : n = n' := by omega
        have hspot : 0 < len → a.spot = none := fun h0 => by
          have hx := hrd 0 h0
          rw [List.getElem?_eq_getElem (by omega : 0 < elems.length), Option.bind_eq_some_iff] at hx
          obtain ⟨cs, hcells, -⟩ := hx
          obtain ⟨_, hlc, hcell⟩ := World.cells?_some hcells
          have hc0 := hcell 0 hn.2
          rw [List.getElem?_eq_getElem (by omega : 0 < cs.length)] at hc0
          have ha : (a.add (0 * P.cellsOf e)).add 0 = a := by simp [Addr.add]
          rw [ha] at hc0
          exact World.cell?_spot hc0
        obtain ⟨ds, hdl, hds, hts⟩ := elems_read (fun cs x hx => open_data hL n e cs x heL hx) rfl hn.2 a len hspot len 0 elems (by omega) hel hrd
        subst hdl
        exact ⟨.seq (P.cellsOf e) ds, .seq hds, e, hu, rfl, by omega, hts⟩
    · cases hn
theorem open_arg {L : List TypeId} (hL : niceB P L = true) {t : TypeId} {v : Value} {x : DataW H} {ps : List MemPlace} (ht : t ∈ L) (h : DataW.Trod enc P w 0 sp held t v x ps) : ∃ d, Reads w (fun _ => True) d v.cells.toList ∧ HasT P t d := by
  obtain ⟨fuel, hf⟩ := h
  exact open_data hL fuel t _ _ ht hf
end
section
variable {P : Program} {t : TypeId} {d : D}
theorem HasT.int (ht : P.underlying t = some (.int .i64)) (h : HasT P t d) : ∃ n, d = .int n ∧ (Lit.int .i64 n).wf = true := by
  cases d with
  | int n => unfold HasT at h; exact ⟨n, rfl, h.2⟩
  | str s => unfold HasT at h; rw [ht] at h; cases h.1
  | bool b => unfold HasT at h; rw [ht] at h; cases h
  | obj ds => unfold HasT at h; obtain ⟨fs, h, -⟩ := h; rw [ht] at h; cases h
  | seq k ds => unfold HasT at h; obtain ⟨fs, h, -⟩ := h; rw [ht] at h; cases h
theorem HasT.str (ht : P.underlying t = some .string) (h : HasT P t d) : ∃ s, d = .str s ∧ s.length ≤ maxLen := by
  cases d with
  | int n => unfold HasT at h; rw [ht] at h; cases h.1
  | str s => unfold HasT at h; exact ⟨s, rfl, h.2⟩
  | bool b => unfold HasT at h; rw [ht] at h; cases h
  | obj ds => unfold HasT at h; obtain ⟨fs, h, -⟩ := h; rw [ht] at h; cases h
  | seq k ds => unfold HasT at h; obtain ⟨fs, h, -⟩ := h; rw [ht] at h; cases h
theorem HasT.bool (ht : P.underlying t = some .bool) (h : HasT P t d) : ∃ b, d = .bool b := by
  cases d with
  | int n => unfold HasT at h; rw [ht] at h; cases h.1
  | str s => unfold HasT at h; rw [ht] at h; cases h.1
  | bool b => exact ⟨b, rfl⟩
  | obj ds => unfold HasT at h; obtain ⟨fs, h, -⟩ := h; rw [ht] at h; cases h
  | seq k ds => unfold HasT at h; obtain ⟨fs, h, -⟩ := h; rw [ht] at h; cases h
theorem HasT.obj {fs : Array Field} (ht : P.underlying t = some (.struct fs)) (h : HasT P t d) : ∃ ds, d = .obj ds ∧ HasTs P (fs.toList.map (·.type)) ds := by
  cases d with
  | int n => unfold HasT at h; rw [ht] at h; cases h.1
  | str s => unfold HasT at h; rw [ht] at h; cases h.1
  | bool b => unfold HasT at h; rw [ht] at h; cases h
  | obj ds =>
    unfold HasT at h
    obtain ⟨fs', h1, h2⟩ := h
    rw [ht] at h1
    cases h1
    exact ⟨ds, rfl, h2⟩
  | seq k ds => unfold HasT at h; obtain ⟨fs, h, -⟩ := h; rw [ht] at h; cases h
theorem HasT.seq {e : TypeId} (ht : P.underlying t = some (.slice e)) (h : HasT P t d) : ∃ ds, d = .seq (P.cellsOf e) ds ∧ ds.length ≤ maxLen ∧ HasTe P e ds := by
  cases d with
  | int n => unfold HasT at h; rw [ht] at h; cases h.1
  | str s => unfold HasT at h; rw [ht] at h; cases h.1
  | bool b => unfold HasT at h; rw [ht] at h; cases h
  | obj ds => unfold HasT at h; obtain ⟨fs, h, -⟩ := h; rw [ht] at h; cases h
  | seq k ds =>
    unfold HasT at h
    obtain ⟨e', h1, h2, h3, h4⟩ := h
    rw [ht] at h1
    cases h1
    subst h2
    exact ⟨ds, rfl, h3, h4⟩
theorem HasTs.cons {ts : List TypeId} {ds : List D} (h : HasTs P (t :: ts) ds) : ∃ d r, ds = d :: r ∧ HasT P t d ∧ HasTs P ts r := by
  cases ds with
  | nil => unfold HasTs at h; exact h.elim
  | cons d r => unfold HasTs at h; exact ⟨d, r, rfl, h.1, h.2⟩
theorem HasTs.nil {ds : List D} (h : HasTs P [] ds) : ds = [] := by
  cases ds with
  | nil => rfl
  | cons d r => unfold HasTs at h; exact h.elim
theorem HasTe.mem {ds : List D} (h : HasTe P t ds) : ∀ d ∈ ds, HasT P t d := by
  induction ds with
  | nil => intro d hd; simp at hd
  | cons x r ih =>
    unfold HasTe at h
    intro d hd
    rcases List.mem_cons.1 hd with rfl | hd
    · exact h.1
    · exact ih h.2 d hd
end
end Go.Proofs.YtabcaljnpahgpaaGreatDoor
