/-
  The file system: Create, walked.
-/
import Derived.Test.YtcimobbppmpmgaaDoorFs7
namespace Go.Proofs.YtcimobbppmpmgaaDoor
set_option linter.unusedSimpArgs false
set_option linter.unusedVariables false
open Go Go.RowKit
open Go.Maps Go.WideMaps

/-- A row that was appended to: its tags, what is kept. -/
theorem retag {base : Nat} {own : Nat → Tag} {τ : Tag} {w w' : World} {t : TypeId} {sz n n' : Nat} {v v' : Value} {cs cs' : List Value} (h : w.ownsRow base t sz v n cs) (h' : w'.ownsRow base t sz v' n' cs') (hg : w.grownBy w' v.ownBlock)
    (hloc : v'.ownBlock = v.ownBlock ∨ v'.ownBlock = some w.heap.size) (ht : ∀ k, v.ownBlock = some k → own k = τ) (hfr : ∀ k, w.heap.size ≤ k → own k = .other) (hold : ∀ k, k < base → own k = .other) (hbase : base ≤ w.heap.size) :
    ∃ own' : Nat → Tag, (∀ k, k < w.heap.size → own' k = own k) ∧ (∀ k, v'.ownBlock = some k → own' k = τ) ∧ (∀ k, w'.heap.size ≤ k → own' k = .other) ∧ (∀ k, k < base → own' k = .other) ∧ Kept own (· = τ) w w' := by
  have hk : Kept own (· = τ) w w' := (Kept.refl _ _ _).grown hg (fun k hk => .inl (ht k hk))
  rcases hloc with hl | hl
  · exact ⟨own, fun _ _ => rfl, fun k hk2 => ht k (hl ▸ hk2), fun k hk2 => hfr k (Nat.le_trans hg.size hk2), hold, hk⟩
  · have hlt := (row_block_lt h' _ hl).2
    refine ⟨tag1 own w.heap.size τ, fun k hk2 => tag1_old hk2, fun k hk2 => ?_, fun k hk2 => ?_, fun k hk2 => ?_, hk⟩
    · rw [hl] at hk2
      simp only [Option.some.injEq] at hk2
      rw [← hk2]
      exact tag1_new
    · unfold tag1
      rw [if_neg (by omega)]
      exact hfr k (by omega)
    · rw [tag1_old (by omega)]
      exact hold k hk2

theorem infoFP : (Tryd.prog.info? 78).map (fun i => (i.zero, i.size, i.bytes)) = some (some (.pointer none), 1, 8) := by kernel_rfl
theorem infoCH : (Tryd.prog.info? 89).map (fun i => (i.zero, i.size, i.bytes)) = some (some (.slice none 0 0), 1, 24) := by kernel_rfl

/-- One file more. -/
theorem FsOK.more {base B : Nat} {st : Fs.St} {V : FsV} {own : Nat → Tag} {w w5 : World} {fv' : Value} (h : FsOK base B st V own w)
    (hrow : w5.ownsRow base 78 1 fv' (st.files.length + 1) ((V.fb.map fun b => (.pointer (some ⟨b, 0, none⟩) : Value)) ++ [.pointer (some ⟨w.heap.size, 0, none⟩)]))
    (hg : ((w.alloc (.cells #[.slice none 0 0, .int .i64 0] 82)).alloc (.cells #[.pointer (some ⟨w.heap.size, 0, none⟩)] 78)).grownBy w5 V.fv.ownBlock)
    (hloc : fv'.ownBlock = V.fv.ownBlock ∨ fv'.ownBlock = some ((w.alloc (.cells #[.slice none 0 0, .int .i64 0] 82)).alloc (.cells #[.pointer (some ⟨w.heap.size, 0, none⟩)] 78)).heap.size) (hbase : base ≤ w.heap.size) :
    ∃ own', FsOK base B { st with files := st.files ++ [([], 0)] } { V with fv := fv', fb := V.fb ++ [w.heap.size], dv := V.dv ++ [.slice none 0 0] } own' (w5.setCell ⟨B, 4, none⟩ fv') ∧
      (∀ k, k < w.heap.size → own' k = own k) ∧ Kept own (· ≠ .other) w (w5.setCell ⟨B, 4, none⟩ fv') := by
  have hA := h.at_
  have hB := heap_lt hA.root
  have s1 : (w.alloc (.cells #[.slice none 0 0, .int .i64 0] 82)).heap.size = w.heap.size + 1 := by simp
  have s2 : ((w.alloc (.cells #[.slice none 0 0, .int .i64 0] 82)).alloc (.cells #[.pointer (some ⟨w.heap.size, 0, none⟩)] 78)).heap.size = w.heap.size + 2 := by simp
  have hF1 := heap_new w (.cells #[.slice none 0 0, .int .i64 0] 82)
  have hF2 : ((w.alloc (.cells #[.slice none 0 0, .int .i64 0] 82)).alloc (.cells #[.pointer (some ⟨w.heap.size, 0, none⟩)] 78)).heap[w.heap.size]? = some (.cells #[.slice none 0 0, .int .i64 0] 82 (0, 0)) := by
    rw [Lib.alloc_old _ _ _ (by omega)]; exact hF1
  have b4 : Below w.heap.size w ((w.alloc (.cells #[.slice none 0 0, .int .i64 0] 82)).alloc (.cells #[.pointer (some ⟨w.heap.size, 0, none⟩)] 78)) :=
    ((Below.refl _ _).alloc (Nat.le_refl _) _).alloc (by omega) _
  generalize hw4 : ((w.alloc (.cells #[.slice none 0 0, .int .i64 0] 82)).alloc (.cells #[.pointer (some ⟨w.heap.size, 0, none⟩)] 78)) = w4 at *
  have hfvlt : ∀ k, V.fv.ownBlock = some k → k < w.heap.size := fun k hk => (row_block_lt hA.files k hk).2
  have hrow4 : w4.ownsRow base 78 1 V.fv st.files.length (V.fb.map fun b => .pointer (some ⟨b, 0, none⟩)) := row_kept hA.files (fun g hg2 => b4.block g (hfvlt g hg2))
  have hfrA : ∀ k, w4.heap.size ≤ k → tag1 own w.heap.size (.file st.files.length) k = .other := fun k hk => by
    unfold tag1
    rw [if_neg (by omega)]
    exact h.fresh k (by omega)
  obtain ⟨own', o1, o2, o3, o4, hk⟩ := retag (own := tag1 own w.heap.size (.file st.files.length)) hrow4 hrow hg hloc (fun k hk => by rw [tag1_old (hfvlt k hk)]; exact hA.tfiles k hk) hfrA
    (fun k hk => by rw [tag1_old (by omega)]; exact h.old k hk) (by omega)
  have ho : ∀ k, k < w.heap.size → own' k = own k := fun k hk2 => (o1 k (by omega)).trans (tag1_old hk2)
  have hk45 : Kept own (· = .files) w w5 := by
    refine ⟨hk.os.trans b4.os, hk.tape.trans b4.tape, hk.output.trans b4.output, Nat.le_trans b4.size hk.size, fun k hk2 ht => ?_⟩
    rw [hk.block k (by omega) (by rw [tag1_old hk2]; exact ht)]
    exact b4.block k hk2
  have hkW : Kept own (fun t => t = .root ∨ t = .files) w (w5.setCell ⟨B, 4, none⟩ fv') := (hk45.mono (fun t ht => .inr ht)).setCell ⟨B, 4, none⟩ (.inl hA.tB) _
  have hkW' := hkW.tags ho
  have hr5 : w5.heap[B]? = some (.cells (FsCells st V) 57 (0, 0)) := by rw [hk45.block B hB (by rw [hA.tB]; simp)]; exact hA.root
  have hFn : (w5.setCell ⟨B, 4, none⟩ fv').heap[w.heap.size]? = some (.cells #[.slice none 0 0, .int .i64 0] 82 (0, 0)) := by
    rw [Below.heap_setCell _ _ _ _ (show w.heap.size ≠ (⟨B, 4, none⟩ : Addr).block by simp; omega), hk.block w.heap.size (by omega) (by rw [tag1_new]; simp)]
    exact hF2
  refine ⟨own', ⟨⟨heap_set hr5 _, (ho B hB).trans hA.tB, hA.lo, hA.left, (hA.plan.tags (fun k hk _ => ho k hk)).kept hkW' (by simp), ?_, o2, ?_, ?_, ?_, hA.dir.heap (hkW.block _ hA.dir.lt (by rw [hA.tdir]; simp)), (ho _ hA.dir.lt).trans hA.tdir,
    hA.sure.heap (hkW.block _ hA.sure.lt (by rw [hA.tsure]; simp)), (ho _ hA.sure.lt).trans hA.tsure, (hA.chg.tags (fun k hk _ => ho k hk)).kept hkW' (by simp) (by simp), ?_, hA.bl⟩, fun k hk2 => o3 k ?_, o4⟩, ho, hkW.mono (fun t ht => by rcases ht with rfl | rfl <;> simp)⟩
  · rw [List.length_append, List.length_singleton, List.map_append]
    refine row_kept hrow (fun g hg2 => Below.heap_setCell _ _ _ _ (fun e => ?_))
    have h1 := o2 g hg2
    rw [e] at h1
    rw [show (⟨B, 4, none⟩ : Addr).block = B from rfl, ho B hB, hA.tB] at h1
    cases h1
  · simp [hA.nfb]
  · simp [hA.ndv]
  · intro i f b d h1 h2 h3
    by_cases hi : i < st.files.length
    · rw [List.getElem?_append_left hi] at h1
      rw [List.getElem?_append_left (by rw [hA.nfb]; exact hi)] at h2
      rw [List.getElem?_append_left (by rw [hA.ndv]; exact hi)] at h3
      exact ((hA.file i f b d h1 h2 h3).tags (fun k hk _ => ho k hk)).kept hkW' (by simp) (by simp)
    · have hi2 : i = st.files.length := by
        have := (List.getElem?_eq_some_iff.1 h1).1
        simp at this
        omega
      subst hi2
      rw [List.getElem?_append_right (Nat.le_refl _), Nat.sub_self] at h1
      rw [← hA.nfb, List.getElem?_append_right (Nat.le_refl _), Nat.sub_self] at h2
      rw [← hA.ndv, List.getElem?_append_right (Nat.le_refl _), Nat.sub_self] at h3
      simp at h1 h2 h3
      subst h1 h2 h3
      exact ⟨hFn, (o1 _ (by omega)).trans tag1_new, World.ownsRow_nil _ _ _ _, fun k hk2 => by simp [Value.ownBlock] at hk2⟩
  · intro p hp
    rw [List.length_append, List.length_singleton]
    have := hA.known p hp
    omega
  · simpa [World.setCell] using hk2
end Go.Proofs.YtcimobbppmpmgaaDoor
