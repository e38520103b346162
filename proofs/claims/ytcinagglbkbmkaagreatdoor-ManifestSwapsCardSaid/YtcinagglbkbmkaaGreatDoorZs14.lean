/-
  Numbers, texts, manifests that came in. Numbers of the machine's, and lists of lists of them, that came in.
-/
import Derived.Test.YtcinagglbkbmkaaGreatDoorZs2
import Derived.Test.YtcinagglbkbmkaaGreatDoorZs13
namespace Go.Proofs.YtcinagglbkbmkaaGreatDoor
set_option linter.unusedSimpArgs false
set_option linter.unusedVariables false
open Go Go.RowKit

theorem ints_reads {w : World} {P : Nat → Prop} {a : Option Addr} {cap : Nat} {l : List Int} (h : Reads w P (.seq 1 (l.map .int)) [.slice a l.length cap]) : Ints w (.slice a l.length cap) l := by
  obtain ⟨a', cap', e, hs⟩ := h.seq_inv
  simp only [List.length_map, List.cons.injEq, and_true, Value.slice.injEq] at e
  obtain ⟨rfl, -, rfl⟩ := e
  refine ⟨a, cap, rfl, fun i x hi => ?_⟩
  obtain ⟨g, o, cs, e, -, hg, hl, hc, hr⟩ := hs.at i (.int x) (by rw [List.getElem?_map, hi]; rfl)
  have e2 := hr.int_inv
  subst e2
  refine ⟨g, o, e, hg, ?_⟩
  have := hc 0 (.int .i64 x) rfl
  rw [Nat.zero_add, Nat.mul_one, Nat.add_zero] at this
  exact this
theorem ints_reads1 {w : World} {P : Nat → Prop} {l : List Int} {cs : List Value} (h : Reads w P (.seq 1 (l.map .int)) cs) : ∃ sv, cs = [sv] ∧ Ints w sv l := by
  obtain ⟨a, cap, e, hs⟩ := h.seq_inv
  rw [List.length_map] at e
  subst e
  exact ⟨_, rfl, ints_reads h⟩
/-- A manifest as a tree. -/
def manD (m : Int × List Int) : D := .obj [.int m.1, .seq 1 (m.2.map .int)]
theorem man_reads {w : World} {P : Nat → Prop} {m : Int × List Int} {cs : List Value} (h : Reads w P (manD m) cs) : ∃ sv, cs = [.int .i64 m.1, sv] ∧ Ints w sv m.2 := by
  obtain ⟨c, r, rfl, h1, h2⟩ := h.obj_inv.cons_inv
  obtain ⟨c2, r2, rfl, h3, h4⟩ := h2.cons_inv
  have := h4.nil_inv
  subst this
  have := h1.int_inv
  subst this
  obtain ⟨sv, rfl, h5⟩ := ints_reads1 h3
  exact ⟨sv, rfl, h5⟩
theorem manifs_reads {w : World} {P : Nat → Prop} {ms : List (Int × List Int)} {cs : List Value} (h : Reads w P (.seq 2 (ms.map manD)) cs) : ∃ sv, cs = [sv] ∧ Manifs w sv ms := by
  obtain ⟨a, cap, e, hs⟩ := h.seq_inv
  subst e
  refine ⟨_, rfl, a, cap, by rw [List.length_map], fun i m hi => ?_⟩
  obtain ⟨g, o, cs, e, -, hg, hl, hc, hr⟩ := hs.at i (manD m) (by rw [List.getElem?_map, hi]; rfl)
  obtain ⟨sv, rfl, h5⟩ := man_reads hr
  have c0 := hc 0 _ rfl
  have c1 := hc 1 _ rfl
  rw [Nat.zero_add, Nat.add_zero] at c0
  rw [Nat.zero_add] at c1
  exact ⟨g, o, sv, e, hg, c0, c1, h5⟩
theorem hasT_ints : ∀ {ds : List D}, HasTe Tryz.prog 3 ds → ∃ l : List Int, ds = l.map .int
  | [], _ => ⟨[], rfl⟩
  | d :: ds, h => by
    unfold HasTe at h
    obtain ⟨n, rfl, -⟩ := h.1.int Tryz.underlying3
    obtain ⟨l, rfl⟩ := hasT_ints h.2
    exact ⟨n :: l, rfl⟩
theorem manFields : ∃ fs, Tryz.prog.underlying 24 = some (.struct fs) ∧ fs.toList.map (·.type) = [3, 22] := ⟨_, Tryz.underlying24, rfl⟩
theorem cellsInt : Tryz.prog.cellsOf 3 = 1 := by kernel_rfl
theorem cellsMan : Tryz.prog.cellsOf 24 = 2 := by kernel_rfl
theorem hasT_man {d : D} (h : HasT Tryz.prog 24 d) : ∃ m, d = manD m ∧ m.2.length ≤ maxLen := by
  obtain ⟨fs, hu, hf⟩ := manFields
  obtain ⟨ds, rfl, ht⟩ := h.obj hu
  rw [hf] at ht
  obtain ⟨d0, r, rfl, h0, ht⟩ := ht.cons
  obtain ⟨d1, r, rfl, h1, ht⟩ := ht.cons
  have := ht.nil
  subst this
  obtain ⟨n, rfl, -⟩ := h0.int Tryz.underlying3
  obtain ⟨ds, rfl, hl, he⟩ := h1.seq Tryz.underlying22
  obtain ⟨l, rfl⟩ := hasT_ints he
  rw [cellsInt]
  exact ⟨(n, l), rfl, by simpa using hl⟩
theorem hasT_mans : ∀ {ds : List D}, HasTe Tryz.prog 24 ds → ∃ ms : List (Int × List Int), ds = ms.map manD ∧ ∀ m ∈ ms, m.2.length ≤ maxLen
  | [], _ => ⟨[], rfl, fun s hs => by cases hs⟩
  | d :: ds, h => by
    unfold HasTe at h
    obtain ⟨m, rfl, hm⟩ := hasT_man h.1
    obtain ⟨l, rfl, hl⟩ := hasT_mans h.2
    exact ⟨m :: l, rfl, fun x hx => by rcases List.mem_cons.1 hx with rfl | hx; exact hm; exact hl x hx⟩
def manTypes : List TypeId := [41, 24, 22, 3, 42, 9]
theorem manNice : niceB Tryz.prog manTypes = true := by kernel_rfl
section
set_option maxRecDepth 20000
variable {H : Type} {enc : TypeId × Value → H} {W : World} {v : Value} {x : DataW H} {ps : List MemPlace} {sp : Nat → Bool} {r : Reach} {base : Nat}
theorem manifs_arg (hv : Value.okWide Tryz.prog W r base 41 v) (h : DataW.Trod enc Tryz.prog W 0 sp true 41 v x ps) : ∃ ms, Manifs W v ms ∧ ms.length ≤ maxLen ∧ ∀ m ∈ ms, m.2.length ≤ maxLen := by
  obtain ⟨a0, len, cap, rfl⟩ := Go.WideShapes.okWide_slice Tryz.underlying41 hv
  obtain ⟨d, hr, ht⟩ := open_arg manNice (by simp [manTypes]) h
  obtain ⟨ds, rfl, hl, he⟩ := ht.seq Tryz.underlying41
  obtain ⟨l, rfl, hs⟩ := hasT_mans he
  rw [cellsMan] at hr
  obtain ⟨sv, e, h1⟩ := manifs_reads hr
  have e : [Value.slice a0 len cap] = [sv] := e
  simp only [List.cons.injEq, and_true] at e
  subst e
  exact ⟨l, h1, by simpa using hl, hs⟩
end
end Go.Proofs.YtcinagglbkbmkaaGreatDoor
namespace Go.Proofs.YtcinagglbkbmkaaGreatDoor
set_option linter.unusedSimpArgs false
set_option linter.unusedVariables false
open Go Go.RowKit

def I64 (z : Int) : Prop := -9223372036854775808 ≤ z ∧ z ≤ 9223372036854775807
theorem i64_of {n : Int} (h : (Lit.int .i64 n).wf = true) : I64 n := by
  have e1 : IntKind.i64.min = -9223372036854775808 := by decide
  have e2 : IntKind.i64.max = 9223372036854775807 := by decide
  simp [Lit.wf, e1, e2] at h
  exact h
theorem hasT_intsw : ∀ {ds : List D}, HasTe Tryz.prog 3 ds → ∃ l : List Int, ds = l.map .int ∧ ∀ z ∈ l, I64 z
  | [], _ => ⟨[], rfl, fun z hz => by cases hz⟩
  | d :: ds, h => by
    unfold HasTe at h
    obtain ⟨n, rfl, hn⟩ := h.1.int Tryz.underlying3
    obtain ⟨l, rfl, hl⟩ := hasT_intsw h.2
    exact ⟨n :: l, rfl, fun z hz => by rcases List.mem_cons.1 hz with rfl | hz; exact i64_of hn; exact hl z hz⟩
/-- A slice of slices of numbers. -/
def Intss (w : World) (v : Value) (ll : List (List Int)) : Prop :=
  ∃ a cap, v = .slice a ll.length cap ∧ ∀ (i : Nat) l, ll[i]? = some l → ∃ b off sv, a = some ⟨b, off, none⟩ ∧ b < w.heap.size ∧ w.cell? ⟨b, off + i, none⟩ = some sv ∧ Ints w sv l
theorem Intss.form {w : World} {v : Value} {ll : List (List Int)} (h : Intss w v ll) : ∃ a cap, v = .slice a ll.length cap := by
  obtain ⟨a, cap, h1, _⟩ := h
  exact ⟨a, cap, h1⟩
theorem Intss.at {w : World} {a : Option Addr} {n cap : Nat} {ll : List (List Int)} (h : Intss w (.slice a n cap) ll) {i : Nat} {l : List Int} (hi : ll[i]? = some l) :
    ∃ b off sv, a = some ⟨b, off, none⟩ ∧ b < w.heap.size ∧ w.cell? ⟨b, off + i, none⟩ = some sv ∧ Ints w sv l := by
  obtain ⟨a', cap', h1, h2⟩ := h
  obtain ⟨b, off, sv, e, h3, h4, h5⟩ := h2 i l hi
  simp only [Value.slice.injEq] at h1
  exact ⟨b, off, sv, by rw [h1.1, e], h3, h4, h5⟩
theorem Intss.below {w w' : World} {v : Value} {ll : List (List Int)} (h : Intss w v ll) (hb : Below w.heap.size w w') : Intss w' v ll := by
  obtain ⟨a, cap, h1, h3⟩ := h
  refine ⟨a, cap, h1, fun i x hi => ?_⟩
  obtain ⟨b, off, sv, e, h4, h5, h7⟩ := h3 i x hi
  exact ⟨b, off, sv, e, Nat.lt_of_lt_of_le h4 hb.size, by rw [World.cell?_of_block (hb.block b h4)]; exact h5, h7.below hb⟩
def intsD (l : List Int) : D := .seq 1 (l.map .int)
theorem intss_reads {w : World} {P : Nat → Prop} {ll : List (List Int)} {cs : List Value} (h : Reads w P (.seq 1 (ll.map intsD)) cs) : ∃ sv, cs = [sv] ∧ Intss w sv ll := by
  obtain ⟨a, cap, e, hs⟩ := h.seq_inv
  subst e
  refine ⟨_, rfl, a, cap, by rw [List.length_map], fun i l hi => ?_⟩
  obtain ⟨g, o, cs, e, -, hg, hl, hc, hr⟩ := hs.at i (intsD l) (by rw [List.getElem?_map, hi]; rfl)
  obtain ⟨sv, rfl, h5⟩ := ints_reads1 hr
  have c0 := hc 0 _ rfl
  rw [Nat.zero_add, Nat.mul_one, Nat.add_zero] at c0
  exact ⟨g, o, sv, e, hg, c0, h5⟩
theorem cellsInts : Tryz.prog.cellsOf 22 = 1 := by kernel_rfl
theorem hasT_intss : ∀ {ds : List D}, HasTe Tryz.prog 22 ds → ∃ ll : List (List Int), ds = ll.map intsD ∧ ∀ l ∈ ll, l.length ≤ maxLen ∧ ∀ z ∈ l, I64 z
  | [], _ => ⟨[], rfl, fun s hs => by cases hs⟩
  | d :: ds, h => by
    unfold HasTe at h
    obtain ⟨es, rfl, hl, he⟩ := h.1.seq Tryz.underlying22
    obtain ⟨l, rfl, hz⟩ := hasT_intsw he
    obtain ⟨ll, rfl, hll⟩ := hasT_intss h.2
    refine ⟨l :: ll, by rw [cellsInt]; rfl, fun x hx => ?_⟩
    rcases List.mem_cons.1 hx with rfl | hx
    · exact ⟨by simpa using hl, hz⟩
    · exact hll x hx
def planTypes : List TypeId := [51, 22, 3]
theorem planNice : niceB Tryz.prog planTypes = true := by kernel_rfl
section
set_option maxRecDepth 20000
variable {H : Type} {enc : TypeId × Value → H} {W : World} {v : Value} {x : DataW H} {ps : List MemPlace} {sp : Nat → Bool} {r : Reach} {base : Nat}
theorem ints_argw (hv : Value.okWide Tryz.prog W r base 22 v) (h : DataW.Trod enc Tryz.prog W 0 sp true 22 v x ps) : ∃ l : List Int, Ints W v l ∧ l.length ≤ maxLen ∧ ∀ z ∈ l, I64 z := by
  obtain ⟨a0, len, cap, rfl⟩ := Go.WideShapes.okWide_slice Tryz.underlying22 hv
  obtain ⟨d, hr, ht⟩ := open_arg planNice (by simp [planTypes]) h
  obtain ⟨ds, rfl, hl, he⟩ := ht.seq Tryz.underlying22
  obtain ⟨l, rfl, hz⟩ := hasT_intsw he
  rw [cellsInt] at hr
  obtain ⟨sv, e, h1⟩ := ints_reads1 hr
  have e : [Value.slice a0 len cap] = [sv] := e
  simp only [List.cons.injEq, and_true] at e
  subst e
  exact ⟨l, h1, by simpa using hl, hz⟩
theorem intss_arg (hv : Value.okWide Tryz.prog W r base 51 v) (h : DataW.Trod enc Tryz.prog W 0 sp true 51 v x ps) : ∃ ll : List (List Int), Intss W v ll ∧ ll.length ≤ maxLen ∧ ∀ l ∈ ll, l.length ≤ maxLen ∧ ∀ z ∈ l, I64 z := by
  obtain ⟨a0, len, cap, rfl⟩ := Go.WideShapes.okWide_slice Tryz.underlying51 hv
  obtain ⟨d, hr, ht⟩ := open_arg planNice (by simp [planTypes]) h
  obtain ⟨ds, rfl, hl, he⟩ := ht.seq Tryz.underlying51
  obtain ⟨ll, rfl, hs⟩ := hasT_intss he
  rw [cellsInts] at hr
  obtain ⟨sv, e, h1⟩ := intss_reads hr
  have e : [Value.slice a0 len cap] = [sv] := e
  simp only [List.cons.injEq, and_true] at e
  subst e
  exact ⟨ll, h1, by simpa using hl, hs⟩
end
end Go.Proofs.YtcinagglbkbmkaaGreatDoor
