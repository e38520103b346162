/-
  The file system: SyncDir, Read, walked.
-/
import Derived.Test.YtcimobbppmpmgaaDoorFs5
namespace Go.Proofs.YtcimobbppmpmgaaDoor
set_option linter.unusedSimpArgs false
set_option linter.unusedVariables false
open Go Go.RowKit
open Go.Maps Go.WideMaps

def tag1 (own : Nat → Tag) (n : Nat) (t : Tag) : Nat → Tag := fun k => if k = n then t else own k
theorem tag1_old {own : Nat → Tag} {n : Nat} {t : Tag} {k : Nat} (h : k < n) : tag1 own n t k = own k := if_neg (by omega)
theorem tag1_new {own : Nat → Tag} {n : Nat} {t : Tag} : tag1 own n t n = t := if_pos rfl

/-- The directory is sure. -/
theorem FsAt.synced {base B : Nat} {st : Fs.St} {V : FsV} {own : Nat → Tag} {w w3 : World} (h : FsAt base B st V own w) (hb : Below w.heap.size w w3) (hm : MapOf w3 w.heap.size st.dir) (hbase : base ≤ w.heap.size) :
    FsAt base B { st with sure := st.dir, changes := [] } { V with ms := w.heap.size, cv := .slice none 0 0 } (tag1 own w.heap.size .sure)
      ((w3.setCell ⟨B, 6, none⟩ (.map (some w.heap.size))).setCell ⟨B, 7, none⟩ (.slice none 0 0)) := by
  have ho : ∀ k, k < w.heap.size → tag1 own w.heap.size .sure k = own k := fun k hk => tag1_old hk
  have hB := heap_lt h.root
  have hk : Kept own (· = .root) w ((w3.setCell ⟨B, 6, none⟩ (.map (some w.heap.size))).setCell ⟨B, 7, none⟩ (.slice none 0 0)) :=
    ((kept_below hb).setCell ⟨B, 6, none⟩ h.tB _).setCell ⟨B, 7, none⟩ h.tB _
  have hk2 := hk.tags ho
  have hr3 : w3.heap[B]? = some (.cells (FsCells st V) 57 (0, 0)) := by rw [hb.block B hB]; exact h.root
  refine ⟨heap_set (heap_set hr3 _) _, (ho B hB).trans h.tB, h.lo, h.left, (h.plan.tags (fun k hk _ => ho k hk)).kept hk2 (by simp), row_kept h.files (fun g hg => hk.block g (row_block_lt h.files g hg).2 (by rw [h.tfiles g hg]; simp)), fun k hk3 => (ho k (row_block_lt h.files k hk3).2).trans (h.tfiles k hk3), h.nfb, h.ndv,
    fun i f b d h1 h2 h3 => ((h.file i f b d h1 h2 h3).tags (fun k hk _ => ho k hk)).kept hk2 (by simp) (by simp), h.dir.heap (hk.block _ h.dir.lt (by rw [h.tdir]; simp)), (ho _ h.dir.lt).trans h.tdir, ?_, tag1_new, ?_, h.known, ⟨h.bl.1, hbase⟩⟩
  · refine hm.heap ?_
    have hne : w.heap.size ≠ B := by omega
    rw [Below.heap_setCell _ _ _ _ hne, Below.heap_setCell _ _ _ _ hne]
  · exact ⟨[], World.ownsRow_nil _ _ _ _, fun k h => by simp [Value.ownBlock] at h, fun i x y h => by simp at h⟩

set_option maxHeartbeats 1000000 in
set_option maxRecDepth 100000 in
theorem syncDir_any (base B : Nat) (st : Fs.St) (V : FsV) (own : Nat → Tag) (w : World) (h : FsOK base B st V own w) :
    Calls Tryd.prog 24 #[.pointer (some ⟨B, 0, none⟩)] w fun e w' => e = .returned (.int .i64 (Fs.syncDir st).2) ∧ OpPost base B (Fs.syncDir st).1 own w w' := by
  have H := Lib.hid h
  clear h
  go_enter Tryd.func24, Tryd.ntmps24
  go_wp2_with fail
  refine (step_any base B st V own w H.out.at_).mono ?_
  rintro e w2 ⟨pv, rfl, h2, hk2⟩
  have hk02 : Kept own (· ≠ .other) w w2 := hk2.mono (fun t ht => by rw [ht]; simp)
  have hfr2 : ∀ k, w2.heap.size ≤ k → own k = .other := fun k hk => H.out.fresh k (Nat.le_trans hk2.size hk)
  by_cases hc : (Fs.step st).2.2 = 0
  · have HE : Hid (Fs.syncDir st = ({ (Fs.step st).1 with sure := st.dir, changes := [] }, 0)) := by unfold Fs.syncDir; rw [if_neg (by simp [hc])]; exact Lib.hid rfl
    have hc2 : ((Fs.step st).2.2 == 0) = true := by rw [hc]; rfl
    have HC := Lib.hid hc
    have hdir := h2.dir
    have hds : (Fs.step st).1.dir = st.dir := Fs.step_dir st
    have hlt2 := heap_lt h2.root
    have hlo := h2.lo
    have x5 : w2.cell? ⟨B, 5, none⟩ = some (.map (some V.md)) := root_cell h2.root 5 _ rfl
    have HD := Lib.hid hdir
    have HDS := Lib.hid hds
    have H2 := Lib.hid h2
    clear hc hdir hds h2
    go_wp2_with fail
    refine (cloneM V.md _ w2 HD.out).mono ?_
    rintro e w3 ⟨rfl, hm3, hb3⟩
    have hr3 : w3.heap[B]? = w2.heap[B]? := hb3.block B hlt2
    have hr3' := hr3.trans H2.out.root
    have y6 : w3.cell? ⟨B, 6, none⟩ = some (.map (some V.ms)) := root_cell hr3' 6 _ rfl
    have y7 : w3.cell? ⟨B, 7, none⟩ = some V.cv := root_cell hr3' 7 _ rfl
    have z6 := root_frozen hr3' 6
    have z7 := root_frozen hr3' 7
    have HN := Lib.hid (H2.out.synced hb3 hm3 (by omega))
    have hkk : Kept own (· ≠ .other) w2 ((w3.setCell ⟨B, 6, none⟩ (.map (some w2.heap.size))).setCell ⟨B, 7, none⟩ (.slice none 0 0)) :=
      ((kept_below hb3).setCell ⟨B, 6, none⟩ (by rw [H2.out.tB]; simp) _).setCell ⟨B, 7, none⟩ (by rw [H2.out.tB]; simp) _
    have hsz : w2.heap.size < w3.heap.size := hm3.lt
    clear hr3 hr3' hm3
    go_wp2
    go_ret
    rw [HE.out, ← HDS.out]
    refine ⟨congrArg (fun x => Ending.returned (.int .i64 x)) HC.out, _, _, ⟨HN.out, fun k hk => ?_, fun k hk => ?_⟩, fun k hk => tag1_old (Nat.lt_of_lt_of_le hk hk02.size), hk02.trans hkk⟩
    · simp [World.setCell] at hk
      unfold tag1
      rw [if_neg (by omega)]
      exact hfr2 k (by omega)
    · rw [tag1_old (by omega)]
      exact H.out.old k hk
  · have HE : Hid (Fs.syncDir st = ((Fs.step st).1, (Fs.step st).2.2)) := by unfold Fs.syncDir; rw [if_pos hc]; exact Lib.hid rfl
    have hc2 : ((Fs.step st).2.2 == 0) = false := by rw [beq_eq_false_iff_ne]; exact hc
    go_wp2
    go_ret
    rw [HE.out]
    exact ⟨rfl, _, own, ⟨h2, hfr2, H.out.old⟩, fun _ _ => rfl, hk02⟩

/-- What 'Read' leaves: the file's bytes, in memory of the call's own. -/
def ReadPost (st : Fs.St) (n : List UInt8) (w : World) (e : Ending) (w' : World) : Prop :=
  Below w.heap.size w w' ∧
  ((Fs.openE st n = 0 ∧ ∃ f v, st.files[Fs.idx st n]? = some f ∧ e = .returned (.tuple #[v, .int .i64 0]) ∧ OwnB w' w.heap.size v f.1) ∨
   (Fs.openE st n ≠ 0 ∧ e = .returned (.tuple #[.slice none 0 0, .int .i64 (Fs.openE st n)])))

theorem OwnB.mono {w : World} {base base' : Nat} {v : Value} {l : List UInt8} (h : OwnB w base v l) (hb : base' ≤ base) : OwnB w base' v l := by
  refine ⟨h.1, ?_⟩
  rcases h.2 with h2 | ⟨g, cap, cur, hv, hg, r⟩
  · exact .inl h2
  · exact .inr ⟨g, cap, cur, hv, Nat.le_trans hb hg, r⟩

set_option maxHeartbeats 1000000 in
set_option maxRecDepth 100000 in
theorem read_any (base B : Nat) (st : Fs.St) (V : FsV) (own : Nat → Tag) (s : ByteArray) (w : World) (h : FsOK base B st V own w) (hs : s.size ≤ 1000000) (hlen : ∀ f ∈ st.files, f.1.length ≤ 1000000000) :
    Calls Tryd.prog 27 #[.pointer (some ⟨B, 0, none⟩), .string s] w (ReadPost st s.data.toList w) := by
  have H := Lib.hid h
  clear h
  go_enter Tryd.func27, Tryd.ntmps27
  go_wp2_with fail
  refine (open_any base B st V own s w H.out.at_ hs).mono ?_
  rintro e w1 ⟨hb1, hres⟩
  have H1 := Lib.hid (H.out.kept (kept_below hb1))
  rcases hres with ⟨h0, f, b, d, hf, hb, hd, rfl⟩ | ⟨h0, rfl⟩
  · have HF := Lib.hid (H1.out.at_.file (Fs.idx st s.data.toList) f b d hf hb hd)
    have x0 : w1.cell? ⟨b, 0, none⟩ = some d := root_cell HF.out.blk 0 _ rfl
    have hfl := hlen f (List.mem_of_getElem? hf)
    go_wp2_with fail
    refine (cloneB base d f.1 w1 HF.out.row hfl).mono ?_
    rintro e w2 ⟨v', rfl, ho, hb2⟩
    go_wp2
    refine bodyPost_ret (v := .tuple #[v', .int .i64 0]) (by simp [results, Tryd.results27, go_sem]) rfl ?_
    exact ⟨hb1.trans (hb2.mono hb1.size), .inl ⟨h0, f, v', hf, rfl, ho.mono hb1.size⟩⟩
  · have hc2 : (Fs.openE st s.data.toList != 0) = true := by rw [bne_iff_ne]; exact h0
    go_wp2
    refine bodyPost_ret (v := .tuple #[.slice none 0 0, .int .i64 (Fs.openE st s.data.toList)]) (by simp [results, Tryd.results27, go_sem]) rfl ?_
    exact ⟨hb1, .inr ⟨h0, rfl⟩⟩
end Go.Proofs.YtcimobbppmpmgaaDoor
