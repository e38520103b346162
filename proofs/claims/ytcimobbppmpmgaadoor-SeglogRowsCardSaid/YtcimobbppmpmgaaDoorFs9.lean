/-
  The file system: turn, Create, walked.
-/
import Derived.Test.YtcimobbppmpmgaaDoorFs8
namespace Go.Proofs.YtcimobbppmpmgaaDoor
set_option linter.unusedSimpArgs false
set_option linter.unusedVariables false
open Go Go.RowKit
open Go.Maps Go.WideMaps

theorem nameCells_at (l : Fs.Names) : ∀ (i : Nat) p, l[i]? = some p → (nameCells l)[i * 2]? = some (.string ⟨p.1.toArray⟩) ∧ (nameCells l)[i * 2 + 1]? = some (.int .i64 p.2) := by
  induction l with
  | nil => intro i p h; simp at h
  | cons c l ih =>
    intro i p h
    have e : nameCells (c :: l) = .string ⟨c.1.toArray⟩ :: .int .i64 c.2 :: nameCells l := rfl
    rw [e]
    match i, h with
    | 0, h => simp at h; subst h; exact ⟨rfl, rfl⟩
    | i + 1, h =>
      have := ih i p (by simpa using h)
      rw [show (i + 1) * 2 = i * 2 + 1 + 1 by omega, show i * 2 + 1 + 1 + 1 = (i * 2 + 1) + 1 + 1 by omega]
      simpa using this
theorem nameCells_len (l : Fs.Names) : (nameCells l).length = l.length * 2 := by
  induction l with
  | nil => rfl
  | cons c l ih =>
    have e : nameCells (c :: l) = .string ⟨c.1.toArray⟩ :: .int .i64 c.2 :: nameCells l := rfl
    rw [e]
    simp [ih]
    omega
theorem chg_cells {w : World} {b cap : Nat} {cur : Array Value} {l : Fs.Names} (h : w.heap[b]? = some (.cells cur 100 (0, 0))) (ht : cur.toList.take (l.length * 2) = nameCells l) : ChgCells w (.slice (some ⟨b, 0, none⟩) l.length cap) l := by
  refine ⟨b, cap, rfl, heap_lt h, fun i p hi => ?_⟩
  obtain ⟨h1, h2⟩ := nameCells_at l i p hi
  have hl : i < l.length := (List.getElem?_eq_some_iff.1 hi).1
  rw [← ht, List.getElem?_take, if_pos (by omega)] at h1 h2
  constructor
  · rw [Lib.cell_of_heap h]; simpa using h1
  · rw [Lib.cell_of_heap h]; simpa using h2

theorem doAll_mem : ∀ (l d : Fs.Names) (p : List UInt8 × Int), p ∈ Fs.doAll d l → p ∈ d ∨ (p ∈ l ∧ 0 ≤ p.2)
  | [], d, p, h => .inl h
  | c :: l, d, p, h => by
    unfold Fs.doAll at h
    rw [List.foldl_cons] at h
    rcases doAll_mem l _ p h with h1 | ⟨h1, h2⟩
    · unfold Fs.doOne at h1
      split at h1
      · exact .inl ((List.mem_filter.1 h1).1)
      · rename_i hn
        have hm : ∀ (x : List UInt8 × Int) (m : Fs.Names), p ∈ Fs.mins x m → p = x ∨ p ∈ m := by
          intro x m
          induction m with
          | nil => intro h; simp [Fs.mins] at h; exact .inl h
          | cons y r ih =>
            intro h
            unfold Fs.mins at h
            split at h
            · rcases List.mem_cons.1 h with h | h
              · exact .inl h
              · exact .inr h
            · rcases List.mem_cons.1 h with h | h
              · exact .inr (by rw [h]; simp)
              · rcases ih h with h | h
                · exact .inl h
                · exact .inr (by simp [h])
        rcases hm _ _ h1 with h3 | h3
        · refine .inr ⟨by rw [h3]; simp, by rw [h3]; show 0 ≤ c.2; omega⟩
        · exact .inl ((List.mem_filter.1 h3).1)
    · exact .inr ⟨by simp [h1], h2⟩

/-- The directory has turned. -/
theorem FsOK.turned {base B : Nat} {st : Fs.St} {V : FsV} {own : Nat → Tag} {w w3 w5 : World} {cv' : Value} {bC cap : Nat} {cur : Array Value} {l : Fs.Names} {vs : List Value} (h : FsOK base B st V own w)
    (hC : w.heap[bC]? = some (.cells cur 100 (0, 0))) (hCt : cur.toList.take (l.length * 2) = nameCells l) (hCo : own bC = .other) (hCb : base ≤ bC)
    (hB3 : But (fun k => k = V.md) w w3) (hM : MapOf w3 V.md (Fs.doAll st.dir l)) (hl : ∀ p ∈ l, p.2 < st.files.length)
    (hvs1 : w.ownsRow base 89 1 V.cv st.changes.length vs) (hvs2 : ∀ k, V.cv.ownBlock = some k → own k = .chg) (hvs3 : ∀ (i : Nat) x y, vs[i]? = some x → st.changes[i]? = some y → ChgOne w own x y)
    (hrow : w5.ownsRow base 89 1 cv' (st.changes.length + 1) (vs ++ [.slice (some ⟨bC, 0, none⟩) l.length cap]))
    (hg : (w3.alloc (.cells #[.slice (some ⟨bC, 0, none⟩) l.length cap] 89)).grownBy w5 V.cv.ownBlock)
    (hloc : cv'.ownBlock = V.cv.ownBlock ∨ cv'.ownBlock = some (w3.alloc (.cells #[.slice (some ⟨bC, 0, none⟩) l.length cap] 89)).heap.size) (hbase : base ≤ w.heap.size) :
    ∃ own', FsOK base B { st with dir := Fs.doAll st.dir l, changes := st.changes ++ [l] } { V with cv := cv' } own' (w5.setCell ⟨B, 7, none⟩ cv') ∧
      (∀ k, k < w.heap.size → k ≠ bC → own' k = own k) ∧ Kept own (· ≠ .other) w (w5.setCell ⟨B, 7, none⟩ cv') := by
  have hA := h.at_
  have hB := heap_lt hA.root
  have hClt := heap_lt hC
  have s4 : (w3.alloc (.cells #[.slice (some ⟨bC, 0, none⟩) l.length cap] 89)).heap.size = w3.heap.size + 1 := by simp
  have b4 : But (fun k => k = V.md) w (w3.alloc (.cells #[.slice (some ⟨bC, 0, none⟩) l.length cap] 89)) := hB3.alloc _
  have hM4 : MapOf (w3.alloc (.cells #[.slice (some ⟨bC, 0, none⟩) l.length cap] 89)) V.md (Fs.doAll st.dir l) := World.ownsMap.alloc hM _
  generalize (w3.alloc (.cells #[.slice (some ⟨bC, 0, none⟩) l.length cap] 89)) = w4 at *
  have hcvlt : ∀ k, V.cv.ownBlock = some k → k < w.heap.size := fun k hk => (row_block_lt hvs1 k hk).2
  have hcvne : ∀ k, V.cv.ownBlock = some k → k ≠ bC := fun k hk e => by
    have := hvs2 k hk
    rw [e, hCo] at this
    cases this
  have hmdne : V.md ≠ bC := fun e => by
    have := hA.tdir
    rw [e, hCo] at this
    cases this
  have hrow4 : w4.ownsRow base 89 1 V.cv st.changes.length vs := row_kept hvs1 (fun g hg2 => b4.block g (hcvlt g hg2) (fun e => by
    have h1 := hvs2 g hg2
    rw [e, hA.tdir] at h1
    cases h1))
  have htA : ∀ k, k ≠ bC → tag1 own bC .chgs k = own k := fun k hk => if_neg hk
  have hsz := hB3.size
  have hs4 := b4.size
  have hfrA : ∀ k, w4.heap.size ≤ k → tag1 own bC .chgs k = .other := fun k hk => by
    rw [htA k (by omega)]
    exact h.fresh k (by omega)
  obtain ⟨own', o1, o2, o3, o4, hk⟩ := retag (own := tag1 own bC .chgs) hrow4 hrow hg hloc (fun k hk => by rw [htA k (hcvne k hk)]; exact hvs2 k hk) hfrA
    (fun k hk => by rw [htA k (by omega)]; exact h.old k hk) (by omega)
  have ho1 : ∀ k, k < w.heap.size → k ≠ bC → own' k = own k := fun k hk2 hne => (o1 k (by omega)).trans (htA k hne)
  have ho : ∀ k, k < w.heap.size → own k ≠ .other → own' k = own k := fun k hk2 hx => ho1 k hk2 (fun e => hx (by rw [e]; exact hCo))
  have hoC : own' bC = .chgs := (o1 bC (by omega)).trans tag1_new
  have hk45 : Kept own (fun t => t = .dir ∨ t = .chg) w w5 := by
    refine ⟨hk.os.trans b4.os, hk.tape.trans b4.tape, hk.output.trans b4.output, Nat.le_trans hs4 hk.size, fun k hk2 ht => ?_⟩
    have hkm : k ≠ V.md := fun e => ht (.inl (by rw [e]; exact hA.tdir))
    rw [hk.block k (by omega) (by
      by_cases e : k = bC
      · rw [e, tag1_new]; simp
      · rw [htA k e]; exact fun x => ht (.inr x))]
    exact b4.block k hk2 hkm
  have hkW : Kept own (fun t => t = .root ∨ t = .dir ∨ t = .chg) w (w5.setCell ⟨B, 7, none⟩ cv') := (hk45.mono (fun t ht => .inr ht)).setCell ⟨B, 7, none⟩ (.inl hA.tB) _
  have hkW' : Kept own' (fun t => t = .root ∨ t = .dir ∨ t = .chg) w (w5.setCell ⟨B, 7, none⟩ cv') := hkW.tagsO ho (by simp)
  have hr5 : w5.heap[B]? = some (.cells (FsCells st V) 57 (0, 0)) := by rw [hk45.block B hB (by rw [hA.tB]; simp)]; exact hA.root
  have hBne : ∀ k, own' k = .dir ∨ own' k = .chg ∨ own' k = .chgs → k ≠ B := fun k hx e => by
    have h1 := (ho B hB (by rw [hA.tB]; simp)).trans hA.tB
    rw [e, h1] at hx
    simp at hx
  have hmd' : own' V.md = .dir := (ho _ hA.dir.lt (by rw [hA.tdir]; simp)).trans hA.tdir
  have hmdk : (w5.setCell ⟨B, 7, none⟩ cv').heap[V.md]? = w4.heap[V.md]? := by
    rw [Below.heap_setCell _ _ _ _ (hBne _ (.inl hmd')), hk.block V.md (by have := hA.dir.lt; omega) (by rw [htA _ hmdne, hA.tdir]; simp)]
  refine ⟨own', ⟨⟨heap_set hr5 _, (ho B hB (by rw [hA.tB]; simp)).trans hA.tB, hA.lo, hA.left, (hA.plan.tags ho).kept hkW' (by simp),
    row_kept hA.files (fun g hg2 => hkW.block g (row_block_lt hA.files g hg2).2 (by rw [hA.tfiles g hg2]; simp)), fun k hk2 => (ho k (row_block_lt hA.files k hk2).2 (by rw [hA.tfiles k hk2]; simp)).trans (hA.tfiles k hk2), hA.nfb, hA.ndv,
    fun i f b d h1 h2 h3 => ((hA.file i f b d h1 h2 h3).tags ho).kept hkW' (by simp) (by simp), hM4.heap hmdk, hmd', hA.sure.heap (hkW.block _ hA.sure.lt (by rw [hA.tsure]; simp)), (ho _ hA.sure.lt (by rw [hA.tsure]; simp)).trans hA.tsure,
    ?_, ?_, hA.bl⟩, fun k hk2 => o3 k ?_, o4⟩, ho1, hkW.mono (fun t ht => by rcases ht with rfl | rfl | rfl <;> simp)⟩
  · refine ⟨vs ++ [.slice (some ⟨bC, 0, none⟩) l.length cap], ?_, o2, fun i x y hx hy => ?_⟩
    · rw [List.length_append, List.length_singleton]
      exact row_kept hrow (fun g hg2 => Below.heap_setCell _ _ _ _ (hBne g (.inr (.inl (o2 g hg2)))))
    · have hvl : vs.length = st.changes.length := by have := hvs1.1; omega
      by_cases hi : i < st.changes.length
      · rw [List.getElem?_append_left (by omega)] at hx
        rw [List.getElem?_append_left hi] at hy
        exact ((hvs3 i x y hx hy).tags ho).kept hkW' (by simp)
      · have hi2 : i = st.changes.length := by
          have := (List.getElem?_eq_some_iff.1 hy).1
          simp at this
          omega
        subst hi2
        rw [← hvl, List.getElem?_append_right (Nat.le_refl _), Nat.sub_self] at hx
        rw [List.getElem?_append_right (Nat.le_refl _), Nat.sub_self] at hy
        simp at hx hy
        subst hx hy
        refine ⟨bC, cap, cur, rfl, hoC, ?_, hCt⟩
        rw [hkW.block bC hClt (by rw [hCo]; simp)]
        exact hC
  · intro p hp
    rcases doAll_mem _ _ _ hp with h1 | ⟨h1, h2⟩
    · exact hA.known p h1
    · exact ⟨h2, hl p h1⟩
  · simpa [World.setCell] using hk2

namespace Fs
def create (st : St) (n : List UInt8) : St × Int :=
  if good n = false then (st, 7) else if mhas st.dir n then (st, 4) else if 64 ≤ st.dir.length then (st, 8)
  else if (step st).2.2 ≠ 0 then ((step st).1, (step st).2.2)
  else ({ (step st).1 with files := st.files ++ [([], 0)], dir := mput st.dir n st.files.length, changes := st.changes ++ [[(n, (st.files.length : Int))]] }, 0)
theorem step_changes (st : St) : (step st).1.changes = st.changes := by unfold step; split <;> rfl
end Fs

theorem row_form {w : World} {base : Nat} {t : TypeId} {k n : Nat} {v : Value} {cs : List Value} (h : w.ownsRow base t k v n cs) (hn : 0 < n) : ∃ g c, v = .slice (some ⟨g, 0, none⟩) n c := by
  rcases h.2 with ⟨_, h2⟩ | ⟨g, cap, cur, hv, _⟩
  · omega
  · exact ⟨g, cap, hv⟩
/-- What 'turn' leaves. -/
def TurnPost (base B : Nat) (st : Fs.St) (own : Nat → Tag) (bC : Nat) (l : Fs.Names) (w w' : World) : Prop :=
  ∃ V' own', FsOK base B { st with dir := Fs.doAll st.dir l, changes := st.changes ++ [l] } V' own' w' ∧ (∀ k, k < w.heap.size → k ≠ bC → own' k = own k) ∧ Kept own (· ≠ .other) w w'

set_option maxHeartbeats 1000000 in
set_option maxRecDepth 100000 in
theorem turn_any (base B : Nat) (st : Fs.St) (V : FsV) (own : Nat → Tag) (bC cap : Nat) (cur : Array Value) (l : Fs.Names) (w : World) (h : FsOK base B st V own w)
    (hC : w.heap[bC]? = some (.cells cur 100 (0, 0))) (hCt : cur.toList.take (l.length * 2) = nameCells l) (hCo : own bC = .other) (hCb : base ≤ bC) (hbase : base ≤ w.heap.size)
    (hl : ∀ p ∈ l, p.1.length ≤ 1000000 ∧ -9223372036854775808 ≤ p.2 ∧ p.2 < st.files.length) (hfl : st.files.length ≤ 1000000) (hn : st.dir.length + l.length ≤ 1000000) (hcl : st.changes.length ≤ 1000000) :
    Calls Tryd.prog 43 #[.pointer (some ⟨B, 0, none⟩), .slice (some ⟨bC, 0, none⟩) l.length cap] w fun e w' => e = .returned (.tuple #[]) ∧ TurnPost base B st own bC l w w' := by
  obtain ⟨i0, hi, hz0, hz1, hz2⟩ := info_parts infoCH
  have x5 : w.cell? ⟨B, 5, none⟩ = some (.map (some V.md)) := root_cell h.at_.root 5 _ rfl
  have hmdne : bC ≠ V.md := fun e => by have := h.at_.tdir; rw [← e, hCo] at this; cases this
  have hBne : B ≠ V.md := fun e => by have h1 := h.at_.tdir; rw [← e, h.at_.tB] at h1; cases h1
  have hBC : B ≠ bC := fun e => by have h1 := h.at_.tB; rw [e, hCo] at h1; cases h1
  obtain ⟨vs, hvs1, hvs2, hvs3⟩ := h.at_.chg
  have HDO := Lib.hid (do_any V.md st.dir l (.slice (some ⟨bC, 0, none⟩) l.length cap) w h.at_.dir (chg_cells hC hCt) (fun b n c e => by
    simp only [Value.slice.injEq, Option.some.injEq] at e
    rw [← e.1]
    exact hmdne) (fun c hc => ⟨(hl c hc).1, (hl c hc).2.1, by have := (hl c hc).2.2; omega⟩) hn)
  have HL := Lib.hid hl
  have H := Lib.hid h
  have HCT := Lib.hid hCt
  clear h hl hCt
  go_enter Tryd.func43, Tryd.ntmps43
  go_wp2_with fail
  refine HDO.out.mono ?_
  rintro e w3 ⟨rfl, hM3, hB3⟩
  have hBlt := heap_lt H.out.at_.root
  have hr3 : w3.heap[B]? = some (.cells (FsCells st V) 57 (0, 0)) := by rw [hB3.block B hBlt hBne]; exact H.out.at_.root
  have x7 : w3.cell? ⟨B, 7, none⟩ = some V.cv := root_cell hr3 7 _ rfl
  have y7 := root_frozen hr3 7
  have hrow3 : w3.ownsRow base 89 1 V.cv st.changes.length vs := row_kept hvs1 (fun g hg => hB3.block g (row_block_lt hvs1 g hg).2 (fun e => by
    have h1 := hvs2 g hg
    rw [e, H.out.at_.tdir] at h1
    cases h1))
  have hb3 := hB3.size
  have HB5 : ∀ w5, (w3.alloc (.cells #[.slice (some ⟨bC, 0, none⟩) l.length cap] 89)).grownBy w5 V.cv.ownBlock → w5.cell? ⟨B, 7, none⟩ = some V.cv ∧ w5.frozen? ⟨B, 7, none⟩ = false := fun w5 hgrow5 => by
    have hB5 : w5.heap[B]? = some (.cells (FsCells st V) 57 (0, 0)) := by
      rw [hgrow5.block B (by simp; omega) (fun e => by
        have h1 := hvs2 B e.symm
        rw [H.out.at_.tB] at h1
        cases h1), Lib.alloc_old _ _ _ (by omega)]
      exact hr3
    exact ⟨root_cell hB5 7 _ rfl, root_frozen hB5 7⟩
  go_wp2_with (first | (at_builtin; refine wpList_append_own_at _ rfl _ _ 55 rfl base 89 i0 (.slice none 0 0) 1 24 Tryd.underlying55 hi hz0 hz1 hz2 rfl (by decide) V.cv st.changes.length vs rfl (World.ownsRow.alloc hrow3 _) ⟨w3.heap.size, 0, none⟩ 1 1 [.slice (some ⟨bC, 0, none⟩) l.length cap] rfl rfl (cell_one_new _ _ _) (fun u hu => by simp at hu; subst hu; rfl) (by unfold maxLen; omega) (by omega) (by simp; omega) ?_; intro cv' w5 hown5 hgrow5 hnil5 hloc5; clear hnil5; obtain ⟨x7', y7'⟩ := HB5 _ hgrow5; obtain ⟨ga, ca, rfl⟩ := row_form hown5 (by omega); have HLOC := Lib.hid hloc5; clear hloc5) | fail)
  have HT := Lib.hid (H.out.turned hC HCT.out hCo hCb hB3 hM3 (fun p hp => (HL.out p hp).2.2) hvs1 hvs2 hvs3 hown5 hgrow5 HLOC.out hbase)
  clear hown5 hgrow5 hrow3 hvs1 hvs2 hvs3
  go_wp2
  go_end0
  obtain ⟨own', h1, h2, h3⟩ := HT.out
  exact ⟨rfl, _, own', h1, h2, h3⟩
end Go.Proofs.YtcimobbppmpmgaaDoor
