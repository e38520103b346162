/-
  The file system: Create, walked. The file system: turn, Create, walked. The file system: Create, walked. The file system: Remove and Rename (plain). The file system: Used, walked (the directory comes in whatever order).
-/
import Derived.Test.YtcinagglbkbmkaaDoorZk4
import Derived.Maps.RangeWalk
import Derived.Sort.KeysCollected
namespace Go.Proofs.YtcinagglbkbmkaaDoor
set_option linter.unusedSimpArgs false
set_option linter.unusedVariables false
open Go Go.RowKit
open Go.Maps Go.WideMaps

/-- A row that was appended to: its tags, what is kept. -/
theorem retag {base : Nat} {own : Nat → Tag} {τ : Tag} {w w' : World} {t : TypeId} {sz n n' : Nat} {v v' : Value} {cs cs' : List Value} (h : w.ownsRow base t sz v n cs) (h' : w'.ownsRow base t sz v' n' cs') (hg : w.grownBy w' v.ownBlock)
    (hloc : v'.ownBlock = v.ownBlock ∨ v'.ownBlock = some w.heap.size) (ht : ∀ k, v.ownBlock = some k → own k = τ) (hfr : ∀ k, w.heap.size ≤ k → own k = .other) (hold : ∀ k, k < base → own k = .other) (hbase : base ≤ w.heap.size) :
    ∃ own' : Nat → Tag, (∀ k, k < w.heap.size → own' k = own k) ∧ (∀ k, v'.ownBlock = some k → own' k = τ) ∧ (∀ k, w'.heap.size ≤ k → own' k = .other) ∧ (∀ k, k < base → own' k = .other) ∧ Kept own (· = τ) w w' := by
  have hk : Kept own (· = τ) w w' := (Kept.refl _ _ _).grown hg (fun k hk => .inl (ht k hk))
  rcases hloc with hl | hl
  · exact ⟨own, fun _ _ => rfl, fun k hk2 => ht k (hl ▸ hk2), fun k hk2 => hfr k (Nat.le_trans hg.size hk2), hold, hk⟩
  · have hlt := (row_block_lt h' _ hl).2
    refine ⟨tag1 own w.heap.size τ, fun k hk2 => tag1_old hk2, fun k hk2 => ?_, fun k hk2 => ?_, fun k hk2 => ?_, hk⟩
    · rw [hl] at hk2
      simp only [Option.some.injEq] at hk2
      rw [← hk2]
      exact tag1_new
    · unfold tag1
      rw [if_neg (by omega)]
      exact hfr k (by omega)
    · rw [tag1_old (by omega)]
      exact hold k hk2

theorem infoFP : (Tryd.prog.info? 71).map (fun i => (i.zero, i.size, i.bytes)) = some (some (.pointer none), 1, 8) := by kernel_rfl
theorem infoCH : (Tryd.prog.info? 65).map (fun i => (i.zero, i.size, i.bytes)) = some (some (.slice none 0 0), 1, 24) := by kernel_rfl

/-- One file more. -/
theorem FsOK.more {base B : Nat} {st : Fs.St} {V : FsV} {own : Nat → Tag} {w w5 : World} {fv' : Value} (h : FsOK base B st V own w)
    (hrow : w5.ownsRow base 71 1 fv' (st.files.length + 1) ((V.fb.map fun b => (.pointer (some ⟨b, 0, none⟩) : Value)) ++ [.pointer (some ⟨w.heap.size, 0, none⟩)]))
    (hg : ((w.alloc (.cells #[.slice none 0 0, .int .i64 0] 73)).alloc (.cells #[.pointer (some ⟨w.heap.size, 0, none⟩)] 71)).grownBy w5 V.fv.ownBlock)
    (hloc : fv'.ownBlock = V.fv.ownBlock ∨ fv'.ownBlock = some ((w.alloc (.cells #[.slice none 0 0, .int .i64 0] 73)).alloc (.cells #[.pointer (some ⟨w.heap.size, 0, none⟩)] 71)).heap.size) (hbase : base ≤ w.heap.size) :
    ∃ own', FsOK base B { st with files := st.files ++ [([], 0)] } { V with fv := fv', fb := V.fb ++ [w.heap.size], dv := V.dv ++ [.slice none 0 0] } own' (w5.setCell ⟨B, 4, none⟩ fv') ∧
      (∀ k, k < w.heap.size → own' k = own k) ∧ Kept own (· ≠ .other) w (w5.setCell ⟨B, 4, none⟩ fv') := by
  have hA := h.at_
  have hB := heap_lt hA.root
  have s1 : (w.alloc (.cells #[.slice none 0 0, .int .i64 0] 73)).heap.size = w.heap.size + 1 := by simp
  have s2 : ((w.alloc (.cells #[.slice none 0 0, .int .i64 0] 73)).alloc (.cells #[.pointer (some ⟨w.heap.size, 0, none⟩)] 71)).heap.size = w.heap.size + 2 := by simp
  have hF1 := heap_new w (.cells #[.slice none 0 0, .int .i64 0] 73)
  have hF2 : ((w.alloc (.cells #[.slice none 0 0, .int .i64 0] 73)).alloc (.cells #[.pointer (some ⟨w.heap.size, 0, none⟩)] 71)).heap[w.heap.size]? = some (.cells #[.slice none 0 0, .int .i64 0] 73 (0, 0)) := by
    rw [Lib.alloc_old _ _ _ (by omega)]; exact hF1
  have b4 : Below w.heap.size w ((w.alloc (.cells #[.slice none 0 0, .int .i64 0] 73)).alloc (.cells #[.pointer (some ⟨w.heap.size, 0, none⟩)] 71)) :=
    ((Below.refl _ _).alloc (Nat.le_refl _) _).alloc (by omega) _
  generalize hw4 : ((w.alloc (.cells #[.slice none 0 0, .int .i64 0] 73)).alloc (.cells #[.pointer (some ⟨w.heap.size, 0, none⟩)] 71)) = w4 at *
  have hfvlt : ∀ k, V.fv.ownBlock = some k → k < w.heap.size := fun k hk => (row_block_lt hA.files k hk).2
  have hrow4 : w4.ownsRow base 71 1 V.fv st.files.length (V.fb.map fun b => .pointer (some ⟨b, 0, none⟩)) := row_kept hA.files (fun g hg2 => b4.block g (hfvlt g hg2))
  have hfrA : ∀ k, w4.heap.size ≤ k → tag1 own w.heap.size (.file st.files.length) k = .other := fun k hk => by
    unfold tag1
    rw [if_neg (by omega)]
    exact h.fresh k (by omega)
  obtain ⟨own', o1, o2, o3, o4, hk⟩ := retag (own := tag1 own w.heap.size (.file st.files.length)) hrow4 hrow hg hloc (fun k hk => by rw [tag1_old (hfvlt k hk)]; exact hA.tfiles k hk) hfrA
    (fun k hk => by rw [tag1_old (by omega)]; exact h.old k hk) (by omega)
  have ho : ∀ k, k < w.heap.size → own' k = own k := fun k hk2 => (o1 k (by omega)).trans (tag1_old hk2)
  have hk45 : Kept own (· = .files) w w5 := by
    refine ⟨hk.os.trans b4.os, hk.tape.trans b4.tape, hk.output.trans b4.output, Nat.le_trans b4.size hk.size, fun k hk2 ht => ?_⟩
    rw [hk.block k (by omega) (by rw [tag1_old hk2]; exact ht)]
    exact b4.block k hk2
  have hkW : Kept own (fun t => t = .root ∨ t = .files) w (w5.setCell ⟨B, 4, none⟩ fv') := (hk45.mono (fun t ht => .inr ht)).setCell ⟨B, 4, none⟩ (.inl hA.tB) _
  have hkW' := hkW.tags ho
  have hr5 : w5.heap[B]? = some (.cells (FsCells st V) 38 (0, 0)) := by rw [hk45.block B hB (by rw [hA.tB]; simp)]; exact hA.root
  have hFn : (w5.setCell ⟨B, 4, none⟩ fv').heap[w.heap.size]? = some (.cells #[.slice none 0 0, .int .i64 0] 73 (0, 0)) := by
    rw [Below.heap_setCell _ _ _ _ (show w.heap.size ≠ (⟨B, 4, none⟩ : Addr).block by simp; omega), hk.block w.heap.size (by omega) (by rw [tag1_new]; simp)]
    exact hF2
  refine ⟨own', ⟨⟨heap_set hr5 _, (ho B hB).trans hA.tB, hA.lo, hA.left, (hA.plan.tags (fun k hk _ => ho k hk)).kept hkW' (by simp), ?_, o2, ?_, ?_, ?_, hA.dir.heap (hkW.block _ hA.dir.lt (by rw [hA.tdir]; simp)), (ho _ hA.dir.lt).trans hA.tdir,
    hA.sure.heap (hkW.block _ hA.sure.lt (by rw [hA.tsure]; simp)), (ho _ hA.sure.lt).trans hA.tsure, (hA.chg.tags (fun k hk _ => ho k hk)).kept hkW' (by simp) (by simp), ?_, hA.bl⟩, fun k hk2 => o3 k ?_, o4⟩, ho, hkW.mono (fun t ht => by rcases ht with rfl | rfl <;> simp)⟩
  · rw [List.length_append, List.length_singleton, List.map_append]
    refine row_kept hrow (fun g hg2 => Below.heap_setCell _ _ _ _ (fun e => ?_))
    have h1 := o2 g hg2
    rw [e] at h1
    rw [show (⟨B, 4, none⟩ : Addr).block = B from rfl, ho B hB, hA.tB] at h1
    cases h1
  · simp [hA.nfb]
  · simp [hA.ndv]
  · intro i f b d h1 h2 h3
    by_cases hi : i < st.files.length
    · rw [List.getElem?_append_left hi] at h1
      rw [List.getElem?_append_left (by rw [hA.nfb]; exact hi)] at h2
      rw [List.getElem?_append_left (by rw [hA.ndv]; exact hi)] at h3
      exact ((hA.file i f b d h1 h2 h3).tags (fun k hk _ => ho k hk)).kept hkW' (by simp) (by simp)
    · have hi2 : i = st.files.length := by
        have := (List.getElem?_eq_some_iff.1 h1).1
        simp at this
        omega
      subst hi2
      rw [List.getElem?_append_right (Nat.le_refl _), Nat.sub_self] at h1
      rw [← hA.nfb, List.getElem?_append_right (Nat.le_refl _), Nat.sub_self] at h2
      rw [← hA.ndv, List.getElem?_append_right (Nat.le_refl _), Nat.sub_self] at h3
      simp at h1 h2 h3
      subst h1 h2 h3
      exact ⟨hFn, (o1 _ (by omega)).trans tag1_new, World.ownsRow_nil _ _ _ _, fun k hk2 => by simp [Value.ownBlock] at hk2⟩
  · intro p hp
    rw [List.length_append, List.length_singleton]
    have := hA.known p hp
    omega
  · simpa [World.setCell] using hk2
end Go.Proofs.YtcinagglbkbmkaaDoor
namespace Go.Proofs.YtcinagglbkbmkaaDoor
set_option linter.unusedSimpArgs false
set_option linter.unusedVariables false
open Go Go.RowKit
open Go.Maps Go.WideMaps

theorem nameCells_at (l : Fs.Names) : ∀ (i : Nat) p, l[i]? = some p → (nameCells l)[i * 2]? = some (.string ⟨p.1.toArray⟩) ∧ (nameCells l)[i * 2 + 1]? = some (.int .i64 p.2) := by
  induction l with
  | nil => intro i p h; simp at h
  | cons c l ih =>
    intro i p h
    have e : nameCells (c :: l) = .string ⟨c.1.toArray⟩ :: .int .i64 c.2 :: nameCells l := rfl
    rw [e]
    match i, h with
    | 0, h => simp at h; subst h; exact ⟨rfl, rfl⟩
    | i + 1, h =>
      have := ih i p (by simpa using h)
      rw [show (i + 1) * 2 = i * 2 + 1 + 1 by omega, show i * 2 + 1 + 1 + 1 = (i * 2 + 1) + 1 + 1 by omega]
      simpa using this
theorem chg_cells {w : World} {b cap : Nat} {cur : Array Value} {l : Fs.Names} (h : w.heap[b]? = some (.cells cur 91 (0, 0))) (ht : cur.toList.take (l.length * 2) = nameCells l) : ChgCells w (.slice (some ⟨b, 0, none⟩) l.length cap) l := by
  refine ⟨b, cap, rfl, heap_lt h, fun i p hi => ?_⟩
  obtain ⟨h1, h2⟩ := nameCells_at l i p hi
  have hl : i < l.length := (List.getElem?_eq_some_iff.1 hi).1
  rw [← ht, List.getElem?_take, if_pos (by omega)] at h1 h2
  constructor
  · rw [Lib.cell_of_heap h]; simpa using h1
  · rw [Lib.cell_of_heap h]; simpa using h2

theorem doAll_mem : ∀ (l d : Fs.Names) (p : List UInt8 × Int), p ∈ Fs.doAll d l → p ∈ d ∨ (p ∈ l ∧ 0 ≤ p.2)
  | [], d, p, h => .inl h
  | c :: l, d, p, h => by
    unfold Fs.doAll at h
    rw [List.foldl_cons] at h
    rcases doAll_mem l _ p h with h1 | ⟨h1, h2⟩
    · unfold Fs.doOne at h1
      split at h1
      · exact .inl ((List.mem_filter.1 h1).1)
      · rename_i hn
        have hm : ∀ (x : List UInt8 × Int) (m : Fs.Names), p ∈ Fs.mins x m → p = x ∨ p ∈ m := by
          intro x m
          induction m with
          | nil => intro h; simp [Fs.mins] at h; exact .inl h
          | cons y r ih =>
            intro h
            unfold Fs.mins at h
            split at h
            · rcases List.mem_cons.1 h with h | h
              · exact .inl h
              · exact .inr h
            · rcases List.mem_cons.1 h with h | h
              · exact .inr (by rw [h]; simp)
              · rcases ih h with h | h
                · exact .inl h
                · exact .inr (by simp [h])
        rcases hm _ _ h1 with h3 | h3
        · refine .inr ⟨by rw [h3]; simp, by rw [h3]; show 0 ≤ c.2; omega⟩
        · exact .inl ((List.mem_filter.1 h3).1)
    · exact .inr ⟨by simp [h1], h2⟩

/-- The directory has turned. -/
theorem FsOK.turned {base B : Nat} {st : Fs.St} {V : FsV} {own : Nat → Tag} {w w3 w5 : World} {cv' : Value} {bC cap : Nat} {cur : Array Value} {l : Fs.Names} {vs : List Value} (h : FsOK base B st V own w)
    (hC : w.heap[bC]? = some (.cells cur 91 (0, 0))) (hCt : cur.toList.take (l.length * 2) = nameCells l) (hCo : own bC = .other) (hCb : base ≤ bC)
    (hB3 : But (fun k => k = V.md) w w3) (hM : MapOf w3 V.md (Fs.doAll st.dir l)) (hl : ∀ p ∈ l, p.2 < st.files.length)
    (hvs1 : w.ownsRow base 65 1 V.cv st.changes.length vs) (hvs2 : ∀ k, V.cv.ownBlock = some k → own k = .chg) (hvs3 : ∀ (i : Nat) x y, vs[i]? = some x → st.changes[i]? = some y → ChgOne w own x y)
    (hrow : w5.ownsRow base 65 1 cv' (st.changes.length + 1) (vs ++ [.slice (some ⟨bC, 0, none⟩) l.length cap]))
    (hg : (w3.alloc (.cells #[.slice (some ⟨bC, 0, none⟩) l.length cap] 65)).grownBy w5 V.cv.ownBlock)
    (hloc : cv'.ownBlock = V.cv.ownBlock ∨ cv'.ownBlock = some (w3.alloc (.cells #[.slice (some ⟨bC, 0, none⟩) l.length cap] 65)).heap.size) (hbase : base ≤ w.heap.size) :
    ∃ own', FsOK base B { st with dir := Fs.doAll st.dir l, changes := st.changes ++ [l] } { V with cv := cv' } own' (w5.setCell ⟨B, 7, none⟩ cv') ∧
      (∀ k, k < w.heap.size → k ≠ bC → own' k = own k) ∧ Kept own (· ≠ .other) w (w5.setCell ⟨B, 7, none⟩ cv') := by
  have hA := h.at_
  have hB := heap_lt hA.root
  have hClt := heap_lt hC
  have s4 : (w3.alloc (.cells #[.slice (some ⟨bC, 0, none⟩) l.length cap] 65)).heap.size = w3.heap.size + 1 := by simp
  have b4 : But (fun k => k = V.md) w (w3.alloc (.cells #[.slice (some ⟨bC, 0, none⟩) l.length cap] 65)) := hB3.alloc _
  have hM4 : MapOf (w3.alloc (.cells #[.slice (some ⟨bC, 0, none⟩) l.length cap] 65)) V.md (Fs.doAll st.dir l) := World.ownsMap.alloc hM _
  generalize (w3.alloc (.cells #[.slice (some ⟨bC, 0, none⟩) l.length cap] 65)) = w4 at *
  have hcvlt : ∀ k, V.cv.ownBlock = some k → k < w.heap.size := fun k hk => (row_block_lt hvs1 k hk).2
  have hcvne : ∀ k, V.cv.ownBlock = some k → k ≠ bC := fun k hk e => by
    have := hvs2 k hk
    rw [e, hCo] at this
    cases this
  have hmdne : V.md ≠ bC := fun e => by
    have := hA.tdir
    rw [e, hCo] at this
    cases this
  have hrow4 : w4.ownsRow base 65 1 V.cv st.changes.length vs := row_kept hvs1 (fun g hg2 => b4.block g (hcvlt g hg2) (fun e => by
    have h1 := hvs2 g hg2
    rw [e, hA.tdir] at h1
    cases h1))
  have htA : ∀ k, k ≠ bC → tag1 own bC .chgs k = own k := fun k hk => if_neg hk
  have hsz := hB3.size
  have hs4 := b4.size
  have hfrA : ∀ k, w4.heap.size ≤ k → tag1 own bC .chgs k = .other := fun k hk => by
    rw [htA k (by omega)]
    exact h.fresh k (by omega)
  obtain ⟨own', o1, o2, o3, o4, hk⟩ := retag (own := tag1 own bC .chgs) hrow4 hrow hg hloc (fun k hk => by rw [htA k (hcvne k hk)]; exact hvs2 k hk) hfrA
    (fun k hk => by rw [htA k (by omega)]; exact h.old k hk) (by omega)
  have ho1 : ∀ k, k < w.heap.size → k ≠ bC → own' k = own k := fun k hk2 hne => (o1 k (by omega)).trans (htA k hne)
  have ho : ∀ k, k < w.heap.size → own k ≠ .other → own' k = own k := fun k hk2 hx => ho1 k hk2 (fun e => hx (by rw [e]; exact hCo))
  have hoC : own' bC = .chgs := (o1 bC (by omega)).trans tag1_new
  have hk45 : Kept own (fun t => t = .dir ∨ t = .chg) w w5 := by
    refine ⟨hk.os.trans b4.os, hk.tape.trans b4.tape, hk.output.trans b4.output, Nat.le_trans hs4 hk.size, fun k hk2 ht => ?_⟩
    have hkm : k ≠ V.md := fun e => ht (.inl (by rw [e]; exact hA.tdir))
    rw [hk.block k (by omega) (by
      by_cases e : k = bC
      · rw [e, tag1_new]; simp
      · rw [htA k e]; exact fun x => ht (.inr x))]
    exact b4.block k hk2 hkm
  have hkW : Kept own (fun t => t = .root ∨ t = .dir ∨ t = .chg) w (w5.setCell ⟨B, 7, none⟩ cv') := (hk45.mono (fun t ht => .inr ht)).setCell ⟨B, 7, none⟩ (.inl hA.tB) _
  have hkW' : Kept own' (fun t => t = .root ∨ t = .dir ∨ t = .chg) w (w5.setCell ⟨B, 7, none⟩ cv') := hkW.tagsO ho (by simp)
  have hr5 : w5.heap[B]? = some (.cells (FsCells st V) 38 (0, 0)) := by rw [hk45.block B hB (by rw [hA.tB]; simp)]; exact hA.root
  have hBne : ∀ k, own' k = .dir ∨ own' k = .chg ∨ own' k = .chgs → k ≠ B := fun k hx e => by
    have h1 := (ho B hB (by rw [hA.tB]; simp)).trans hA.tB
    rw [e, h1] at hx
    simp at hx
  have hmd' : own' V.md = .dir := (ho _ hA.dir.lt (by rw [hA.tdir]; simp)).trans hA.tdir
  have hmdk : (w5.setCell ⟨B, 7, none⟩ cv').heap[V.md]? = w4.heap[V.md]? := by
    rw [Below.heap_setCell _ _ _ _ (hBne _ (.inl hmd')), hk.block V.md (by have := hA.dir.lt; omega) (by rw [htA _ hmdne, hA.tdir]; simp)]
  refine ⟨own', ⟨⟨heap_set hr5 _, (ho B hB (by rw [hA.tB]; simp)).trans hA.tB, hA.lo, hA.left, (hA.plan.tags ho).kept hkW' (by simp),
    row_kept hA.files (fun g hg2 => hkW.block g (row_block_lt hA.files g hg2).2 (by rw [hA.tfiles g hg2]; simp)), fun k hk2 => (ho k (row_block_lt hA.files k hk2).2 (by rw [hA.tfiles k hk2]; simp)).trans (hA.tfiles k hk2), hA.nfb, hA.ndv,
    fun i f b d h1 h2 h3 => ((hA.file i f b d h1 h2 h3).tags ho).kept hkW' (by simp) (by simp), hM4.heap hmdk, hmd', hA.sure.heap (hkW.block _ hA.sure.lt (by rw [hA.tsure]; simp)), (ho _ hA.sure.lt (by rw [hA.tsure]; simp)).trans hA.tsure,
    ?_, ?_, hA.bl⟩, fun k hk2 => o3 k ?_, o4⟩, ho1, hkW.mono (fun t ht => by rcases ht with rfl | rfl | rfl <;> simp)⟩
  · refine ⟨vs ++ [.slice (some ⟨bC, 0, none⟩) l.length cap], ?_, o2, fun i x y hx hy => ?_⟩
    · rw [List.length_append, List.length_singleton]
      exact row_kept hrow (fun g hg2 => Below.heap_setCell _ _ _ _ (hBne g (.inr (.inl (o2 g hg2)))))
    · have hvl : vs.length = st.changes.length := by have := hvs1.1; omega
      by_cases hi : i < st.changes.length
      · rw [List.getElem?_append_left (by omega)] at hx
        rw [List.getElem?_append_left hi] at hy
        exact ((hvs3 i x y hx hy).tags ho).kept hkW' (by simp)
      · have hi2 : i = st.changes.length := by
          have := (List.getElem?_eq_some_iff.1 hy).1
          simp at this
          omega
        subst hi2
        rw [← hvl, List.getElem?_append_right (Nat.le_refl _), Nat.sub_self] at hx
        rw [List.getElem?_append_right (Nat.le_refl _), Nat.sub_self] at hy
        simp at hx hy
        subst hx hy
        refine ⟨bC, cap, cur, rfl, hoC, ?_, hCt⟩
        rw [hkW.block bC hClt (by rw [hCo]; simp)]
        exact hC
  · intro p hp
    rcases doAll_mem _ _ _ hp with h1 | ⟨h1, h2⟩
    · exact hA.known p h1
    · exact ⟨h2, hl p h1⟩
  · simpa [World.setCell] using hk2

namespace Fs
def create (st : St) (n : List UInt8) : St × Int :=
  if good n = false then (st, 7) else if mhas st.dir n then (st, 4) else if 64 ≤ st.dir.length then (st, 8)
  else if (step st).2.2 ≠ 0 then ((step st).1, (step st).2.2)
  else ({ (step st).1 with files := st.files ++ [([], 0)], dir := mput st.dir n st.files.length, changes := st.changes ++ [[(n, (st.files.length : Int))]] }, 0)
theorem step_changes (st : St) : (step st).1.changes = st.changes := by unfold step; split <;> rfl
end Fs

theorem row_form {w : World} {base : Nat} {t : TypeId} {k n : Nat} {v : Value} {cs : List Value} (h : w.ownsRow base t k v n cs) (hn : 0 < n) : ∃ g c, v = .slice (some ⟨g, 0, none⟩) n c := by
  rcases h.2 with ⟨_, h2⟩ | ⟨g, cap, cur, hv, _⟩
  · omega
  · exact ⟨g, cap, hv⟩
/-- What 'turn' leaves. -/
def TurnPost (base B : Nat) (st : Fs.St) (own : Nat → Tag) (bC : Nat) (l : Fs.Names) (w w' : World) : Prop :=
  ∃ V' own', FsOK base B { st with dir := Fs.doAll st.dir l, changes := st.changes ++ [l] } V' own' w' ∧ (∀ k, k < w.heap.size → k ≠ bC → own' k = own k) ∧ Kept own (· ≠ .other) w w'

set_option maxHeartbeats 1000000 in
set_option maxRecDepth 100000 in
theorem turn_any (base B : Nat) (st : Fs.St) (V : FsV) (own : Nat → Tag) (bC cap : Nat) (cur : Array Value) (l : Fs.Names) (w : World) (h : FsOK base B st V own w)
    (hC : w.heap[bC]? = some (.cells cur 91 (0, 0))) (hCt : cur.toList.take (l.length * 2) = nameCells l) (hCo : own bC = .other) (hCb : base ≤ bC) (hbase : base ≤ w.heap.size)
    (hl : ∀ p ∈ l, p.1.length ≤ 1000000 ∧ -9223372036854775808 ≤ p.2 ∧ p.2 < st.files.length) (hfl : st.files.length ≤ 1000000) (hn : st.dir.length + l.length ≤ 1000000) (hcl : st.changes.length ≤ 1000000) :
    Calls Tryd.prog 32 #[.pointer (some ⟨B, 0, none⟩), .slice (some ⟨bC, 0, none⟩) l.length cap] w fun e w' => e = .returned (.tuple #[]) ∧ TurnPost base B st own bC l w w' := by
  obtain ⟨i0, hi, hz0, hz1, hz2⟩ := info_parts infoCH
  have x5 : w.cell? ⟨B, 5, none⟩ = some (.map (some V.md)) := root_cell h.at_.root 5 _ rfl
  have hmdne : bC ≠ V.md := fun e => by have := h.at_.tdir; rw [← e, hCo] at this; cases this
  have hBne : B ≠ V.md := fun e => by have h1 := h.at_.tdir; rw [← e, h.at_.tB] at h1; cases h1
  have hBC : B ≠ bC := fun e => by have h1 := h.at_.tB; rw [e, hCo] at h1; cases h1
  obtain ⟨vs, hvs1, hvs2, hvs3⟩ := h.at_.chg
  have HDO := Lib.hid (do_any V.md st.dir l (.slice (some ⟨bC, 0, none⟩) l.length cap) w h.at_.dir (chg_cells hC hCt) (fun b n c e => by
    simp only [Value.slice.injEq, Option.some.injEq] at e
    rw [← e.1]
    exact hmdne) (fun c hc => ⟨(hl c hc).1, (hl c hc).2.1, by have := (hl c hc).2.2; omega⟩) hn)
  have HL := Lib.hid hl
  have H := Lib.hid h
  have HCT := Lib.hid hCt
  clear h hl hCt
  go_enter Tryd.func32, Tryd.ntmps32
  go_wp2_with fail
  refine HDO.out.mono ?_
  rintro e w3 ⟨rfl, hM3, hB3⟩
  have hBlt := heap_lt H.out.at_.root
  have hr3 : w3.heap[B]? = some (.cells (FsCells st V) 38 (0, 0)) := by rw [hB3.block B hBlt hBne]; exact H.out.at_.root
  have x7 : w3.cell? ⟨B, 7, none⟩ = some V.cv := root_cell hr3 7 _ rfl
  have y7 := root_frozen hr3 7
  have hrow3 : w3.ownsRow base 65 1 V.cv st.changes.length vs := row_kept hvs1 (fun g hg => hB3.block g (row_block_lt hvs1 g hg).2 (fun e => by
    have h1 := hvs2 g hg
    rw [e, H.out.at_.tdir] at h1
    cases h1))
  have hb3 := hB3.size
  have HB5 : ∀ w5, (w3.alloc (.cells #[.slice (some ⟨bC, 0, none⟩) l.length cap] 65)).grownBy w5 V.cv.ownBlock → w5.cell? ⟨B, 7, none⟩ = some V.cv ∧ w5.frozen? ⟨B, 7, none⟩ = false := fun w5 hgrow5 => by
    have hB5 : w5.heap[B]? = some (.cells (FsCells st V) 38 (0, 0)) := by
      rw [hgrow5.block B (by simp; omega) (fun e => by
        have h1 := hvs2 B e.symm
        rw [H.out.at_.tB] at h1
        cases h1), Lib.alloc_old _ _ _ (by omega)]
      exact hr3
    exact ⟨root_cell hB5 7 _ rfl, root_frozen hB5 7⟩
  go_wp2_with (first | (at_builtin; refine wpList_append_own_at _ rfl _ _ 36 rfl base 65 i0 (.slice none 0 0) 1 24 Tryd.underlying36 hi hz0 hz1 hz2 rfl (by decide) V.cv st.changes.length vs rfl (World.ownsRow.alloc hrow3 _) ⟨w3.heap.size, 0, none⟩ 1 1 [.slice (some ⟨bC, 0, none⟩) l.length cap] rfl rfl (cell_one_new _ _ _) (fun u hu => by simp at hu; subst hu; rfl) (by unfold maxLen; omega) (by omega) (by simp; omega) ?_; intro cv' w5 hown5 hgrow5 hnil5 hloc5; clear hnil5; obtain ⟨x7', y7'⟩ := HB5 _ hgrow5; obtain ⟨ga, ca, rfl⟩ := row_form hown5 (by omega); have HLOC := Lib.hid hloc5; clear hloc5) | fail)
  have HT := Lib.hid (H.out.turned hC HCT.out hCo hCb hB3 hM3 (fun p hp => (HL.out p hp).2.2) hvs1 hvs2 hvs3 hown5 hgrow5 HLOC.out hbase)
  clear hown5 hgrow5 hrow3 hvs1 hvs2 hvs3
  go_wp2
  go_end0
  obtain ⟨own', h1, h2, h3⟩ := HT.out
  exact ⟨rfl, _, own', h1, h2, h3⟩
end Go.Proofs.YtcinagglbkbmkaaDoor
namespace Go.Proofs.YtcinagglbkbmkaaDoor
set_option linter.unusedSimpArgs false
set_option linter.unusedVariables false
open Go Go.RowKit
open Go.Maps Go.WideMaps

theorem doAll_new (d : Fs.Names) (n : List UInt8) (k : Nat) : Fs.doAll d [(n, (k : Int))] = Fs.mput d n k := by
  unfold Fs.doAll Fs.doOne
  simp only [List.foldl_cons, List.foldl_nil]
  rw [if_neg (by omega)]
set_option maxHeartbeats 2000000 in
set_option maxRecDepth 100000 in
theorem create_any (base B : Nat) (st : Fs.St) (V : FsV) (own : Nat → Tag) (s : ByteArray) (w : World) (h : FsOK base B st V own w) (hs : s.size ≤ 1000000) (hfl : st.files.length ≤ 900000) (hcl : st.changes.length ≤ 900000) (hdl : st.dir.length ≤ 900000) :
    Calls Tryd.prog 14 #[.pointer (some ⟨B, 0, none⟩), .string s] w fun e w' => e = .returned (.int .i64 (Fs.create st s.data.toList).2) ∧ OpPost base B (Fs.create st s.data.toList).1 own w w' := by
  obtain ⟨i0, hi, hz0, hz1, hz2⟩ := info_parts infoFP
  have x5 : w.cell? ⟨B, 5, none⟩ = some (.map (some V.md)) := root_cell h.at_.root 5 _ rfl
  have hb1 : Below w.heap.size w (w.alloc (.cells #[.string s] 9)) := (Below.refl _ _).alloc (Nat.le_refl _) _
  have hkey := keyOf_string_mk Tryd.underlying9 (s := s) (show s.size ≤ maxLen by unfold maxLen; omega)
  have HN := Lib.hid (named_any _ [s] (w.alloc (.cells #[.string s] 9)) (strs_one (by simp) (cell_new w _ _ 0 _ rfl)) (by simp) (by intro x hx; simp at hx; subst hx; omega))
  have hga : goodAll [s] = Fs.good s.data.toList := by simp [goodAll]
  rw [hga] at HN
  have HM := Lib.hid h.at_.dir
  have HM1 := Lib.hid (h.at_.dir.heap (hb1.block _ h.at_.dir.lt))
  have x5' : (w.alloc (.cells #[.string s] 9)).cell? ⟨B, 5, none⟩ = some (.map (some V.md)) := by rw [hb1.cell (cellLt x5)]; exact x5
  have HOK1 := Lib.hid (h.kept (kept_below hb1))
  have HSZ := Lib.hid (Fs.datum_size st.dir)
  have HHAS := Lib.hid (Fs.datum_has st.dir s.data.toList)
  have H := Lib.hid h
  clear h
  go_enter Tryd.func14, Tryd.ntmps14
  cases hgd : Fs.good s.data.toList
  · have HE : Hid (Fs.create st s.data.toList = (st, 7)) := by unfold Fs.create; rw [if_pos hgd]; exact Lib.hid rfl
    rw [hgd] at HN
    clear hgd
    go_wp2_with (first | (at_lookup; refine wpList_lookup_own_ok_int _ rfl _ _ 35 rfl 9 3 .i64 strKeyed Tryd.underlying35 Tryd.underlying3 (zeroInt _) V.md _ _ rfl HM.out _ _ rfl hkey ?_; intro c hat hwc; clear hat hwc; rw [HHAS.out]) | fail)
    refine HN.out.mono ?_
    rintro e w2 ⟨rfl, hw2⟩
    obtain rfl := hw2.symm
    go_wp2
    go_ret
    rw [HE.out]
    exact ⟨rfl, V, own, HOK1.out, fun _ _ => rfl, kept_below hb1⟩
  · rw [hgd] at HN
    cases hhas : Fs.mhas st.dir s.data.toList
    · have HHF : Hid (Maps.has (Fs.datum st.dir) (.string s.data.toList) = false) := by rw [HHAS.out]; exact Lib.hid hhas
      by_cases h64 : 64 ≤ st.dir.length
      · have HE : Hid (Fs.create st s.data.toList = (st, 8)) := by unfold Fs.create; rw [if_neg (by rw [hgd]; simp), if_neg (by rw [hhas]; simp), if_pos h64]; exact Lib.hid rfl
        have h641 : (64 : Int) ≤ (st.dir.length : Int) := by omega
        clear hgd hhas
        go_wp2_with (first | (at_lookup; refine wpList_lookup_own_ok_int _ rfl _ _ 35 rfl 9 3 .i64 strKeyed Tryd.underlying35 Tryd.underlying3 (zeroInt _) V.md _ _ rfl HM.out _ _ rfl hkey ?_; intro c hat hwc; clear hat hwc; rw [HHF.out]) | fail)
        refine HN.out.mono ?_
        rintro e w2 ⟨rfl, hw2⟩
        obtain rfl := hw2.symm
        go_wp2_with (first | (at_len; refine wpList_len_own _ rfl _ 35 rfl 9 3 Tryd.underlying35 _ V.md _ _ rfl HM1.out ?_; rw [HSZ.out]) | fail)
        go_ret
        rw [HE.out]
        exact ⟨rfl, V, own, HOK1.out, fun _ _ => rfl, kept_below hb1⟩
      · have h641 : (st.dir.length : Int) < 64 := by omega
        by_cases hc : (Fs.step st).2.2 = 0
        · have HE : Hid (Fs.create st s.data.toList = ({ (Fs.step st).1 with files := st.files ++ [([], 0)], dir := Fs.mput st.dir s.data.toList st.files.length, changes := st.changes ++ [[(s.data.toList, (st.files.length : Int))]] }, 0)) := by
            unfold Fs.create; rw [if_neg (by rw [hgd]; simp), if_neg (by rw [hhas]; simp), if_neg h64, if_neg (by simp [hc])]; exact Lib.hid rfl
          have hc2 : ((Fs.step st).2.2 != 0) = false := by rw [hc]; rfl
          clear hgd hhas hc h64
          go_wp2_with (first | (at_lookup; refine wpList_lookup_own_ok_int _ rfl _ _ 35 rfl 9 3 .i64 strKeyed Tryd.underlying35 Tryd.underlying3 (zeroInt _) V.md _ _ rfl HM.out _ _ rfl hkey ?_; intro c hat hwc; clear hat hwc; rw [HHF.out]) | fail)
          refine HN.out.mono ?_
          rintro e w2 ⟨rfl, hw2⟩
          obtain rfl := hw2.symm
          go_wp2_with (first | (at_len; refine wpList_len_own _ rfl _ 35 rfl 9 3 Tryd.underlying35 _ V.md _ _ rfl HM1.out ?_; rw [HSZ.out]) | fail)
          refine (step_any base B st V own _ HOK1.out.at_).mono ?_
          rintro e w2 ⟨pv, rfl, h2, hk2⟩
          have h2ok : FsOK base B (Fs.step st).1 { V with pv := pv } own w2 := ⟨h2, fun k hk => HOK1.out.fresh k (Nat.le_trans hk2.size hk), H.out.old⟩
          have hk02 : Kept own (· ≠ .other) w w2 := (kept_below hb1).trans (hk2.mono (fun t ht => by rw [ht]; simp))
          have x4 : w2.cell? ⟨B, 4, none⟩ = some V.fv := root_cell h2.root 4 _ rfl
          have hrow := h2.files
          have hB2 := heap_lt h2.root
          have hlo := h2.lo
          have hbase2 : base ≤ w2.heap.size := by omega
          rw [Fs.step_files] at hrow
          have HROW := Lib.hid hrow
          have H2 := Lib.hid h2ok
          have HB5 : ∀ w5, ((w2.alloc (.cells #[.slice none 0 0, .int .i64 0] 73)).alloc (.cells #[.pointer (some ⟨w2.heap.size, 0, none⟩)] 71)).grownBy w5 V.fv.ownBlock → w5.cell? ⟨B, 4, none⟩ = some V.fv ∧ w5.frozen? ⟨B, 4, none⟩ = false := fun w5 hgrow5 => by
            have hB5 : w5.heap[B]? = some (.cells (FsCells (Fs.step st).1 { V with pv := pv }) 38 (0, 0)) := by
              rw [hgrow5.block B (by simp; omega) (fun e => by
                have h1 := H2.out.at_.tfiles B e.symm
                rw [H.out.at_.tB] at h1
                cases h1), Lib.alloc_old _ _ _ (by simp; omega), Lib.alloc_old _ _ _ (by omega)]
              exact H2.out.at_.root
            exact ⟨root_cell hB5 4 _ rfl, root_frozen hB5 4⟩
          have hcn : ∀ j u, [(.pointer (some ⟨w2.heap.size, 0, none⟩) : Value)][j]? = some u → ((w2.alloc (.cells #[.slice none 0 0, .int .i64 0] 73)).alloc (.cells #[.pointer (some ⟨w2.heap.size, 0, none⟩)] 71)).cell? ((⟨w2.heap.size + 1, 0, none⟩ : Addr).add j) = some u := by
            have h9 := cell_one_new (w2.alloc (.cells #[.slice none 0 0, .int .i64 0] 73)) (.pointer (some ⟨w2.heap.size, 0, none⟩)) 71
            rw [show (w2.alloc (.cells #[.slice none 0 0, .int .i64 0] 73)).heap.size = w2.heap.size + 1 by simp] at h9
            exact h9
          have HCN := Lib.hid hcn
          clear h2 h2ok hrow hcn
          go_wp2_with (first | (at_builtin; refine wpList_append_own_at _ rfl _ _ 34 rfl base 71 i0 (.pointer none) 1 8 Tryd.underlying34 hi hz0 hz1 hz2 rfl (by decide) V.fv st.files.length (V.fb.map fun b => .pointer (some ⟨b, 0, none⟩)) rfl (World.ownsRow.alloc (World.ownsRow.alloc HROW.out _) _) ⟨w2.heap.size + 1, 0, none⟩ 1 1 [.pointer (some ⟨w2.heap.size, 0, none⟩)] rfl rfl HCN.out (fun u hu => by simp at hu; subst hu; rfl) (by unfold maxLen; omega) (by omega) (by simp; omega) ?_; intro fv' w5 hown5 hgrow5 hnil5 hloc5; clear hnil5; obtain ⟨x4', y4'⟩ := HB5 _ hgrow5; obtain ⟨ga, ca, rfl⟩ := row_form hown5 (by omega); have HLOC := Lib.hid hloc5; clear hloc5) | fail)
          have hmore := FsOK.more (V := { V with pv := pv }) H2.out (by rw [Fs.step_files]; exact hown5) hgrow5 HLOC.out hbase2
          rw [Fs.step_files] at hmore
          obtain ⟨own1, hok1, ho1, hk1⟩ := hmore
          have hsz6 : (w5.setCell ⟨B, 4, none⟩ (.slice (some ⟨ga, 0, none⟩) (st.files.length + 1) ca)).heap.size = w5.heap.size := by simp [World.setCell]
          have hnew := heap_new (w5.setCell ⟨B, 4, none⟩ (.slice (some ⟨ga, 0, none⟩) (st.files.length + 1) ca)) (.cells #[.string s, .int .i64 (st.files.length : Int)] 91)
          have hkA : Kept own1 (· = .other) (w5.setCell ⟨B, 4, none⟩ (.slice (some ⟨ga, 0, none⟩) (st.files.length + 1) ca)) ((w5.setCell ⟨B, 4, none⟩ (.slice (some ⟨ga, 0, none⟩) (st.files.length + 1) ca)).alloc (.cells #[.string s, .int .i64 (st.files.length : Int)] 91)) := (Kept.refl _ _ _).alloc _
          have hok2 := hok1.kept hkA
          have hfr1 := hok1.fresh w5.heap.size (by omega)
          have hsz2 := hk1.size
          rw [hsz6] at hnew hsz2
          have hk16 : Kept own (· ≠ .other) w2 ((w5.setCell ⟨B, 4, none⟩ (.slice (some ⟨ga, 0, none⟩) (st.files.length + 1) ca)).alloc (.cells #[.string s, .int .i64 (st.files.length : Int)] 91)) := hk1.alloc _
          have hsz7 : ((w5.setCell ⟨B, 4, none⟩ (.slice (some ⟨ga, 0, none⟩) (st.files.length + 1) ca)).alloc (.cells #[.string s, .int .i64 (st.files.length : Int)] 91)).heap.size = w5.heap.size + 1 := by simp [World.setCell]
          have HLAST := Lib.hid (turn_any base B _ _ own1 w5.heap.size 1 _ [(s.data.toList, (st.files.length : Int))] _ hok2 hnew (by simp [nameCells]) hfr1 (by omega) (by omega)
            (by
              intro p hp
              simp at hp
              subst hp
              simp only [List.length_append, List.length_singleton]
              refine ⟨hs, by omega, by omega⟩)
            (by simp; omega) (by simp [Fs.step_dir]; omega) (by simp [Fs.step_changes]; omega))
          clear hok1 hok2 hnew hkA hown5 hgrow5 hk1 HLOC
          refine HLAST.out.mono ?_
          rintro e w8 ⟨rfl, V', own', hok', ho', hk'⟩
          go_wp2
          go_ret
          rw [HE.out]
          simp only [Fs.step_dir, Fs.step_changes, doAll_new] at hok'
          refine ⟨rfl, V', own', hok', fun k hk => ?_, ?_⟩
          · have h02 := hk02.size
            rw [ho' k (by omega) (by omega), ho1 k (by omega)]
          · refine hk02.trans ?_
            refine ⟨hk'.os.trans hk16.os, hk'.tape.trans hk16.tape, hk'.output.trans hk16.output, Nat.le_trans hk16.size hk'.size, fun k hk ht => ?_⟩
            rw [hk'.block k (by omega) (by rw [ho1 k hk]; exact ht)]
            exact hk16.block k hk ht
        · have HE : Hid (Fs.create st s.data.toList = ((Fs.step st).1, (Fs.step st).2.2)) := by
            unfold Fs.create; rw [if_neg (by rw [hgd]; simp), if_neg (by rw [hhas]; simp), if_neg h64, if_pos hc]; exact Lib.hid rfl
          have hc2 : ((Fs.step st).2.2 != 0) = true := by rw [bne_iff_ne]; exact hc
          clear hgd hhas hc h64
          go_wp2_with (first | (at_lookup; refine wpList_lookup_own_ok_int _ rfl _ _ 35 rfl 9 3 .i64 strKeyed Tryd.underlying35 Tryd.underlying3 (zeroInt _) V.md _ _ rfl HM.out _ _ rfl hkey ?_; intro c hat hwc; clear hat hwc; rw [HHF.out]) | fail)
          refine HN.out.mono ?_
          rintro e w2 ⟨rfl, hw2⟩
          obtain rfl := hw2.symm
          go_wp2_with (first | (at_len; refine wpList_len_own _ rfl _ 35 rfl 9 3 Tryd.underlying35 _ V.md _ _ rfl HM1.out ?_; rw [HSZ.out]) | fail)
          refine (step_any base B st V own _ HOK1.out.at_).mono ?_
          rintro e w2 ⟨pv, rfl, h2, hk2⟩
          have hk02 : Kept own (· ≠ .other) w w2 := (kept_below hb1).trans (hk2.mono (fun t ht => by rw [ht]; simp))
          go_wp2
          go_ret
          rw [HE.out]
          exact ⟨rfl, _, own, ⟨h2, fun k hk => HOK1.out.fresh k (Nat.le_trans hk2.size hk), H.out.old⟩, fun _ _ => rfl, hk02⟩
    · have HHT : Hid (Maps.has (Fs.datum st.dir) (.string s.data.toList) = true) := by rw [HHAS.out]; exact Lib.hid hhas
      have HE : Hid (Fs.create st s.data.toList = (st, 4)) := by unfold Fs.create; rw [if_neg (by rw [hgd]; simp), if_pos hhas]; exact Lib.hid rfl
      clear hgd hhas
      go_wp2_with (first | (at_lookup; refine wpList_lookup_own_ok_int _ rfl _ _ 35 rfl 9 3 .i64 strKeyed Tryd.underlying35 Tryd.underlying3 (zeroInt _) V.md _ _ rfl HM.out _ _ rfl hkey ?_; intro c hat hwc; clear hat hwc; rw [HHT.out]) | fail)
      refine HN.out.mono ?_
      rintro e w2 ⟨rfl, hw2⟩
      obtain rfl := hw2.symm
      go_wp2
      go_ret
      rw [HE.out]
      exact ⟨rfl, V, own, HOK1.out, fun _ _ => rfl, kept_below hb1⟩
end Go.Proofs.YtcinagglbkbmkaaDoor
namespace Go.Proofs.YtcinagglbkbmkaaDoor
set_option linter.unusedSimpArgs false
set_option linter.unusedVariables false
open Go Go.RowKit
open Go.Maps Go.WideMaps

namespace Fs
def turned (st : St) (l : Names) : St := { st with dir := doAll st.dir l, changes := st.changes ++ [l] }
end Fs
end Go.Proofs.YtcinagglbkbmkaaDoor
namespace Go.Proofs.YtcinagglbkbmkaaDoor
set_option linter.unusedSimpArgs false
set_option linter.unusedVariables false
open Go Go.RowKit
open Go.Maps Go.WideMaps

namespace Fs
def lenAt (st : St) (i : Int) : Nat := match st.files[i.toNat]? with | some f => f.1.length | none => 0
def usedL (st : St) (l : Names) : Nat := (l.map fun p => lenAt st p.2).sum
def used (st : St) : Nat := usedL st st.dir
/-- What is still to come. -/
def leftL (left : Lit → Bool) (l : Names) : Names := l.filter fun p => left (.string p.1)
theorem left_all (l : Names) : leftL (Maps.has (datum l)) l = l := by
  unfold leftL
  rw [List.filter_eq_self]
  intro p hp
  rw [datum_has]
  unfold mhas
  rw [List.any_eq_true]
  exact ⟨p, hp, by simp⟩
theorem left_none (left : Lit → Bool) (h : ∀ kl, left kl = false) (l : Names) : leftL left l = [] := by
  unfold leftL
  rw [List.filter_eq_nil_iff]
  intro p _
  rw [h]
  simp
theorem left_step (st : St) (left : Lit → Bool) (x : List UInt8) (c : Int) : ∀ l : Names, l.Pairwise (fun p q => p.1 ≠ q.1) → (x, c) ∈ l → left (.string x) = true →
    usedL st (leftL left l) = lenAt st c + usedL st (leftL (fun z => left z && !z.sameKey (.string x)) l)
  | [], _, h, _ => by simp at h
  | p :: l, hnd, h, hl => by
    rw [List.pairwise_cons] at hnd
    have e : ∀ y : List UInt8, (fun z : Lit => left z && !z.sameKey (.string x)) (.string y) = (left (.string y) && !(y == x)) := fun y => rfl
    rcases List.mem_cons.1 h with h1 | h1
    · have hp1 : p.1 = x := by rw [← h1]
      have hp2 : p.2 = c := by rw [← h1]
      have hrest : leftL (fun z => left z && !z.sameKey (.string x)) l = leftL left l := by
        unfold leftL
        apply List.filter_congr
        intro q hq
        have hne : q.1 ≠ x := fun e2 => hnd.1 q hq (by rw [hp1, e2])
        show (left (.string q.1) && !(q.1 == x)) = left (.string q.1)
        simp [hne]
      have e1 : leftL left (p :: l) = p :: leftL left l := by
        unfold leftL
        rw [List.filter_cons, if_pos (by rw [hp1]; exact hl)]
      have e2 : leftL (fun z => left z && !z.sameKey (.string x)) (p :: l) = leftL (fun z => left z && !z.sameKey (.string x)) l := by
        unfold leftL
        rw [List.filter_cons, if_neg (by show ¬ (left (.string p.1) && !(p.1 == x)) = true; rw [hp1]; simp)]
      rw [e1, e2, hrest]
      unfold usedL
      rw [List.map_cons, List.sum_cons, hp2]
    · have hne : p.1 ≠ x := fun e2 => hnd.1 _ h1 e2
      have ih := left_step st left x c l hnd.2 h1 hl
      have hk : (fun z : Lit => left z && !z.sameKey (.string x)) (.string p.1) = left (.string p.1) := by
        show (left (.string p.1) && !(p.1 == x)) = left (.string p.1)
        simp [hne]
      cases hlp : left (.string p.1)
      · have e1 : leftL left (p :: l) = leftL left l := by unfold leftL; rw [List.filter_cons, if_neg (by rw [hlp]; simp)]
        have e2 : leftL (fun z => left z && !z.sameKey (.string x)) (p :: l) = leftL (fun z => left z && !z.sameKey (.string x)) l := by
          unfold leftL; rw [List.filter_cons, if_neg (by rw [hk, hlp]; simp)]
        rw [e1, e2]
        exact ih
      · have e1 : leftL left (p :: l) = p :: leftL left l := by unfold leftL; rw [List.filter_cons, if_pos hlp]
        have e2 : leftL (fun z => left z && !z.sameKey (.string x)) (p :: l) = p :: leftL (fun z => left z && !z.sameKey (.string x)) l := by
          unfold leftL; rw [List.filter_cons, if_pos (by rw [hk]; exact hlp)]
        rw [e1, e2]
        unfold usedL at ih ⊢
        rw [List.map_cons, List.sum_cons, List.map_cons, List.sum_cons, ih]
        omega
theorem at_mem {l : Names} {x : List UInt8} {c : Int} (h : ∀ zd, (datum l).atKey (.string x) zd = .lit (.int .i64 c)) : (x, c) ∈ l := by
  have h1 := h (.lit (.int .i64 c))
  unfold datum DataW.atKey at h h1
  simp only [List.find?_map] at h h1
  have e : ((fun p : Lit × DataW Unit => p.1.sameKey (.string x)) ∘ ent) = fun p => p.1 == x := rfl
  rw [e] at h
  cases hf : l.find? (fun p => p.1 == x) with
  | none =>
    have := h .nil
    rw [hf] at this
    cases this
  | some p =>
    have h2 := h .nil
    rw [hf] at h2
    simp only [Option.map_some, ent, DataW.lit.injEq, Lit.int.injEq, true_and] at h2
    have h3 := List.find?_some hf
    have h4 := List.mem_of_find?_eq_some hf
    have : p = (x, c) := by
      have : p.1 = x := by simpa using h3
      rw [← this, ← h2]
    rw [← this]
    exact h4
theorem sum_le (st : St) (M : Nat) (hM : ∀ f ∈ st.files, f.1.length ≤ M) : ∀ l : Names, usedL st l ≤ l.length * M
  | [] => Nat.zero_le _
  | p :: l => by
    have h1 := sum_le st M hM l
    have h2 : lenAt st p.2 ≤ M := by
      unfold lenAt
      cases hf : st.files[p.2.toNat]? with
      | none => exact Nat.zero_le _
      | some f => exact hM f (List.mem_of_getElem? hf)
    unfold usedL at h1 ⊢
    rw [List.map_cons, List.sum_cons, List.length_cons, Nat.succ_mul]
    omega
end Fs

set_option maxHeartbeats 1000000 in
set_option maxRecDepth 100000 in
theorem used_any (base B : Nat) (st : Fs.St) (V : FsV) (own : Nat → Tag) (w : World) (h : FsOK base B st V own w) (hlen : ∀ f ∈ st.files, f.1.length ≤ 1000000) (hdl : st.dir.length ≤ 900000) (hfl : st.files.length ≤ 900000) :
    Calls Tryd.prog 37 #[.pointer (some ⟨B, 0, none⟩)] w fun e w' => e = .returned (.int .i64 (Fs.used st)) ∧ Below w.heap.size w w' := by
  have x5 : w.cell? ⟨B, 5, none⟩ = some (.map (some V.md)) := root_cell h.at_.root 5 _ rfl
  have x4 : w.cell? ⟨B, 4, none⟩ = some V.fv := root_cell h.at_.root 4 _ rfl
  have HM := Lib.hid h.at_.dir
  have hlt := h.at_.dir.lt
  have hBlt := heap_lt h.at_.root
  have HND := Lib.hid h.at_.dir.nodup
  have H := Lib.hid h
  have hful : Fs.used st ≤ 900000 * 1000000 := by
    have h1 := Fs.sum_le st 1000000 hlen st.dir
    have h2 := Nat.mul_le_mul_right 1000000 hdl
    exact Nat.le_trans h1 h2
  have hful2 : Fs.used st ≤ 1000000000000 := Nat.le_trans hful (by decide)
  clear h hful
  go_enter Tryd.func37, Tryd.ntmps37
  go_wp2_with (first | (at_range; refine wpList_range_own _ rfl _ 35 rfl 9 3 strKeyed Tryd.underlying35 _ V.md _ _ rfl HM.out ?_; intro w0 hrg0 hg0 hs0) | fail)
  go_frame
  go_loopg [3] (Maps.size (Fs.datum st.dir)) (fun k s3 wr => ∃ (left : Lit → Bool) (n : Nat), wr.ranges Tryd.prog 9 (plainElem (H := Unit) Tryd.prog 3) V.md w.heap.size st.dir.length (Fs.datum st.dir) left k ∧ s3 = .int .i64 (n : Nat) ∧
    n + Fs.usedL st (Fs.leftL left st.dir) = Fs.used st ∧ Below w.heap.size w wr)
  case atStart =>
    refine ⟨_, 0, hrg0, rfl, ?_, ?_⟩
    · rw [Fs.left_all]; simp [Fs.used]
    · exact (Below.refl _ _).grown hg0 (Nat.le_refl _) (fun k hk => by cases hk)
  case round =>
    obtain ⟨left, n, hrg, rfl, hsum, hB⟩ := hrel
    have HSUM := Lib.hid hsum
    have hnle : n ≤ 1000000000000 := by omega
    clear hsum hs0 hg0 hrg0
    go_wp2_with (first | (at_next; refine wpList_next_ranges _ rfl _ rfl 9 strKeyed (plainElem (H := Unit) Tryd.prog 3) encStr (Value.int .i64) (fun key kl hk => by obtain ⟨x, hx, _⟩ := Maps.keyOf_str Tryd.underlying9 hk; exact ⟨x, hx⟩) (fun v y hv => by obtain ⟨c, rfl, _⟩ := plainElem_int_inv Tryd.underlying3 hv; exact ⟨c, rfl⟩) V.md w.heap.size _ _ _ _ rfl hrg ?_ ?_) | fail)
    · intro _ hl0
      have hn : n = Fs.used st := by
        rw [← HSUM.out, Fs.left_none left hl0]
        rfl
      clear hrg hl0
      subst hn
      go_wp2
      go_ret
      exact ⟨rfl, hB⟩
    · intro x c kl yd yp w2 cnt2 hkey hlk hv hat hrg2 hlt2 hg2 hs2 hen
      obtain ⟨x', ex, rfl, _⟩ := Maps.keyOf_str Tryd.underlying9 hkey
      obtain rfl : x = x' := encStr_inj ex
      obtain ⟨c', ec, hv2, _⟩ := plainElem_int_inv Tryd.underlying3 hv
      simp only [Value.int.injEq, true_and] at ec
      subst ec
      simp only [Prod.mk.injEq] at hv2
      obtain ⟨rfl, -⟩ := hv2
      have hmem := Fs.at_mem hat
      obtain ⟨hc0, hcn⟩ := H.out.at_.known _ hmem
      obtain ⟨i, rfl⟩ : ∃ i : Nat, c = (i : Int) := ⟨c.toNat, by simp at hc0; omega⟩
      have hin : i < st.files.length := by simp at hcn; exact hcn
      have HST := Lib.hid (Fs.left_step st left x (i : Int) st.dir HND.out hmem hlk)
      have hB2 : Below w.heap.size w w2 := hB.grown hg2 hB.size (fun k hk => by cases hk; exact Nat.le_refl _)
      obtain ⟨f, hf⟩ : ∃ f, st.files[i]? = some f := ⟨_, List.getElem?_eq_getElem hin⟩
      obtain ⟨b, hb⟩ : ∃ b, V.fb[i]? = some b := ⟨_, List.getElem?_eq_getElem (by rw [H.out.at_.nfb]; exact hin)⟩
      obtain ⟨d, hd⟩ : ∃ d, V.dv[i]? = some d := ⟨_, List.getElem?_eq_getElem (by rw [H.out.at_.ndv]; exact hin)⟩
      have HF := H.out.at_.file i f b d hf hb hd
      obtain ⟨g, cap, hfv, hgc⟩ : ∃ g cap, V.fv = .slice (some ⟨g, 0, none⟩) st.files.length cap ∧ w.cell? ⟨g, i, none⟩ = some (.pointer (some ⟨b, 0, none⟩)) := by
        rcases H.out.at_.files.2 with ⟨h1, h2⟩ | ⟨g, cap, cur, h1, _⟩
        · omega
        · exact ⟨g, cap, h1, by rw [← addr_add]; exact World.ownsRow.cells H.out.at_.files (by rw [h1]; rfl) _ _ (ptr_cells _ _ _ hb)⟩
      obtain ⟨da, dc, hdv⟩ : ∃ a c, d = .slice a f.1.length c := by
        rcases HF.row.2 with ⟨e1, e2⟩ | ⟨g, cap, cur, e1, _⟩
        · exact ⟨none, 0, by rw [e1, e2]⟩
        · exact ⟨_, _, e1⟩
      have y0 : w.cell? ⟨b, 0, none⟩ = some (.slice da f.1.length dc) := by rw [← hdv]; exact root_cell HF.blk 0 _ rfl
      have hfl1 := hlen f (List.mem_of_getElem? hf)
      rw [hfv] at x4
      have z4 : w2.cell? ⟨B, 4, none⟩ = some (.slice (some ⟨g, 0, none⟩) st.files.length cap) := by rw [hB2.cell hBlt]; exact x4
      have zg : w2.cell? ⟨g, i, none⟩ = some (.pointer (some ⟨b, 0, none⟩)) := by rw [hB2.cell (cellLt hgc)]; exact hgc
      have zb : w2.cell? ⟨b, 0, none⟩ = some (.slice da f.1.length dc) := by rw [hB2.cell (cellLt y0)]; exact y0
      have hla : Fs.lenAt st (i : Int) = f.1.length := by unfold Fs.lenAt; simp [hf]
      have hi0 : (0 : Int) ≤ (i : Int) := Int.natCast_nonneg _
      have hi1 : (i : Int) < (st.files.length : Int) := by omega
      have HLA := Lib.hid hla
      have HRG := Lib.hid hrg2
      clear hs2 hmem hkey hat hv hla hfv hdv hrg hrg2 HF hf hb hd hg2 y0 hgc x4 hc0 hcn hlk
      go_wp2
      go_roundg cnt2
      case measure => exact hlt2
      case rel =>
        refine ⟨_, n + f.1.length, HRG.out, ?_, ?_, hB2⟩
        · go_num
        · have h1 := HSUM.out
          rw [HST.out, HLA.out] at h1
          omega
end Go.Proofs.YtcinagglbkbmkaaDoor
