/-
  The file system: New, Sync, SyncDir, Read, walked.
-/
import Derived.Test.YtcimobbppmpmgaaDoorFs4
namespace Go.Proofs.YtcimobbppmpmgaaDoor
set_option linter.unusedSimpArgs false
set_option linter.unusedVariables false
open Go Go.RowKit
open Go.Maps Go.WideMaps

namespace Fs
def new (room : Int) : St := ⟨0, -1, [], room, [], [], [], []⟩
/-- All of a file's bytes are sure. -/
def flush (l : List (List UInt8 × Nat)) (i : Nat) : List (List UInt8 × Nat) := match l[i]? with | some f => l.set i (f.1, f.1.length) | none => l
def sync (st : St) (n : List UInt8) : St × Int :=
  if openE st n ≠ 0 then (st, openE st n)
  else if (step st).2.2 ≠ 0 then ((step st).1, (step st).2.2)
  else ({ (step st).1 with files := flush st.files (idx st n) }, 0)
def syncDir (st : St) : St × Int :=
  if (step st).2.2 ≠ 0 then ((step st).1, (step st).2.2) else ({ (step st).1 with sure := st.dir, changes := [] }, 0)
theorem step_files (st : St) : (step st).1.files = st.files := by unfold step; split <;> rfl
theorem step_dir (st : St) : (step st).1.dir = st.dir := by unfold step; split <;> rfl
theorem step_room (st : St) : (step st).1.room = st.room := by unfold step; split <;> rfl
end Fs

/-- The first tags. -/
def tags0 (n : Nat) : Nat → Tag := fun k => if k = n then .dir else if k = n + 1 then .sure else if k = n + 2 then .root else .other

/-- The file system, with what its tags say of other blocks. -/
structure FsOK (base B : Nat) (st : Fs.St) (V : FsV) (own : Nat → Tag) (w : World) : Prop where
  at_ : FsAt base B st V own w
  fresh : ∀ k, w.heap.size ≤ k → own k = .other
  old : ∀ k, k < base → own k = .other
theorem heap_new (w : World) (o : Obj) : (w.alloc o).heap[w.heap.size]? = some o := by
  show (w.heap.push _)[w.heap.size]? = _
  simp
theorem fs_start (room : Int) (w : World) : FsOK w.heap.size (w.heap.size + 2) (Fs.new room) ⟨.slice none 0 0, .slice none 0 0, .slice none 0 0, w.heap.size, w.heap.size + 1, [], []⟩ (tags0 w.heap.size)
    (((w.alloc (.map #[] 0)).alloc (.map #[] 0)).alloc (.cells #[.int .i64 0, .int .i64 (-1), .slice none 0 0, .int .i64 room, .slice none 0 0, .map (some w.heap.size), .map (some (w.heap.size + 1)), .slice none 0 0] 57)) := by
  have e1 : (w.alloc (.map #[] 0)).heap.size = w.heap.size + 1 := by simp
  have e2 : ((w.alloc (.map #[] 0)).alloc (.map #[] 0)).heap.size = w.heap.size + 2 := by simp
  have m1 : MapOf (((w.alloc (.map #[] 0)).alloc (.map #[] 0)).alloc (.cells #[.int .i64 0, .int .i64 (-1), .slice none 0 0, .int .i64 room, .slice none 0 0, .map (some w.heap.size), .map (some (w.heap.size + 1)), .slice none 0 0] 57)) w.heap.size [] :=
    ((World.ownsMap_made w _ _ _).alloc _).alloc _
  have m2 : MapOf (((w.alloc (.map #[] 0)).alloc (.map #[] 0)).alloc (.cells #[.int .i64 0, .int .i64 (-1), .slice none 0 0, .int .i64 room, .slice none 0 0, .map (some w.heap.size), .map (some (w.heap.size + 1)), .slice none 0 0] 57)) (w.heap.size + 1) [] := by
    have := (World.ownsMap_made (w.alloc (.map #[] 0)) Tryd.prog 9 (plainElem (H := Unit) Tryd.prog 3)).alloc (.cells #[.int .i64 0, .int .i64 (-1), .slice none 0 0, .int .i64 room, .slice none 0 0, .map (some w.heap.size), .map (some (w.heap.size + 1)), .slice none 0 0] 57)
    rw [e1] at this
    exact this
  refine ⟨⟨?_, by simp [tags0], by omega, ⟨by simp [Fs.new], by simp [Fs.new]⟩, ⟨none, 0, rfl, Nat.le_refl _, fun i z h => by simp [Fs.new] at h⟩, World.ownsRow_nil _ _ _ _, fun k h => by simp [Value.ownBlock] at h, rfl, rfl, fun i f b d h => by simp [Fs.new] at h,
    m1, by simp [tags0], m2, by simp [tags0], ⟨[], World.ownsRow_nil _ _ _ _, fun k h => by simp [Value.ownBlock] at h, fun i x y h => by simp at h⟩, fun p h => by simp [Fs.new] at h, ⟨by simp, by simp⟩⟩, fun k hk => ?_, fun k hk => ?_⟩
  · have := heap_new ((w.alloc (.map #[] 0)).alloc (.map #[] 0)) (.cells #[.int .i64 0, .int .i64 (-1), .slice none 0 0, .int .i64 room, .slice none 0 0, .map (some w.heap.size), .map (some (w.heap.size + 1)), .slice none 0 0] 57)
    rw [e2] at this
    exact this
  · simp at hk
    unfold tags0
    rw [if_neg (by omega), if_neg (by omega), if_neg (by omega)]
  · unfold tags0
    rw [if_neg (by omega), if_neg (by omega), if_neg (by omega)]

set_option maxHeartbeats 1000000 in
set_option maxRecDepth 100000 in
theorem new_any (room : Int) (w : World) :
    Calls Tryd.prog 11 #[.int .i64 room] w fun e w' => Below w.heap.size w w' ∧
      (((room < 1 ∨ 1048576 < room) ∧ e = .returned (.tuple #[.pointer none, .int .i64 1])) ∨
       (¬ (room < 1 ∨ 1048576 < room) ∧ e = .returned (.tuple #[.pointer (some ⟨w.heap.size + 2, 0, none⟩), .int .i64 0]) ∧
        ∃ V, FsOK w.heap.size (w.heap.size + 2) (Fs.new room) V (tags0 w.heap.size) w')) := by
  have hmm := @run_makeMap Tryd.prog
  by_cases hr : room < 1 ∨ 1048576 < room
  · rcases hr with h | h
    · go_enter Tryd.func11, Tryd.ntmps11
      go_wp2
      refine bodyPost_ret (v := .tuple #[.pointer none, .int .i64 1]) (by simp [results, Tryd.results11, go_sem]) rfl ?_
      exact ⟨Below.refl _ _, .inl ⟨.inl h, rfl⟩⟩
    · have h1 : 1 ≤ room := by omega
      go_enter Tryd.func11, Tryd.ntmps11
      go_wp2
      refine bodyPost_ret (v := .tuple #[.pointer none, .int .i64 1]) (by simp [results, Tryd.results11, go_sem]) rfl ?_
      exact ⟨Below.refl _ _, .inl ⟨.inr h, rfl⟩⟩
  · have h1 : 1 ≤ room := by omega
    have h2 : room ≤ 1048576 := by omega
    go_enter Tryd.func11, Tryd.ntmps11
    go_wp2
    refine bodyPost_ret (v := .tuple #[.pointer (some ⟨w.heap.size + 2, 0, none⟩), .int .i64 0]) (by simp [results, Tryd.results11, go_sem]) rfl ?_
    exact ⟨((((Below.refl _ _).alloc (Nat.le_refl _) _).alloc (by simp) _).alloc (by simp; omega) _), .inr ⟨hr, rfl, _, fs_start room w⟩⟩

/-- One file turns. -/
theorem FsAt.file1 {base B : Nat} {st : Fs.St} {V : FsV} {own : Nat → Tag} {w w' : World} (h : FsAt base B st V own w) {i b : Nat} {f f' : List UInt8 × Nat} {d d' : Value} (hf : st.files[i]? = some f) (hb : V.fb[i]? = some b)
    (hd : V.dv[i]? = some d) (hk : Kept own (fun t => t = .file i ∨ t = .data i) w w') (hF : FileAt w' base own i f' b d') :
    FsAt base B { st with files := st.files.set i f' } { V with dv := V.dv.set i d' } own w' where
  root := by rw [hk.block B (heap_lt h.root) (by rw [h.tB]; simp)]; exact h.root
  tB := h.tB
  lo := h.lo
  left := h.left
  plan := h.plan.kept hk (by simp)
  files := by
    rw [List.length_set]
    exact row_kept h.files (fun g hg => hk.block g (row_block_lt h.files g hg).2 (by rw [h.tfiles g hg]; simp))
  tfiles := h.tfiles
  nfb := by rw [List.length_set]; exact h.nfb
  ndv := by rw [List.length_set, List.length_set]; exact h.ndv
  file := fun j g c x h1 h2 h3 => by
    by_cases hij : i = j
    · subst hij
      have hi1 : i < st.files.length := (List.getElem?_eq_some_iff.1 hf).1
      have hi2 : i < V.dv.length := (List.getElem?_eq_some_iff.1 hd).1
      simp only [List.getElem?_set_self hi1, List.getElem?_set_self hi2, Option.some.injEq] at h1 h3
      subst h1 h3
      rw [hb] at h2
      simp only [Option.some.injEq] at h2
      subst h2
      exact hF
    · simp only [List.getElem?_set_ne hij] at h1 h3
      exact (h.file j g c x h1 h2 h3).kept hk (by simp; omega) (by simp; omega)
  dir := h.dir.heap (hk.block _ h.dir.lt (by rw [h.tdir]; simp))
  tdir := h.tdir
  sure := h.sure.heap (hk.block _ h.sure.lt (by rw [h.tsure]; simp))
  tsure := h.tsure
  chg := h.chg.kept hk (by simp) (by simp)
  known := fun p hp => by rw [List.length_set]; exact h.known p hp
  bl := h.bl

/-- What an operation leaves: the state behind it; all other blocks as they were. -/
def OpPost (base B : Nat) (st' : Fs.St) (own : Nat → Tag) (w w' : World) : Prop :=
  ∃ V' own', FsOK base B st' V' own' w' ∧ (∀ k, k < w.heap.size → own' k = own k) ∧ Kept own (· ≠ .other) w w'

theorem FsOK.kept {base B : Nat} {st : Fs.St} {V : FsV} {own : Nat → Tag} {w w' : World} (h : FsOK base B st V own w) (hk : Kept own (· = .other) w w') : FsOK base B st V own w' :=
  ⟨h.at_.kept hk, fun k hk2 => h.fresh k (Nat.le_trans hk.size hk2), h.old⟩
theorem kept_below {own : Nat → Tag} {T : Tag → Prop} {w w' : World} (hb : Below w.heap.size w w') : Kept own T w w' := (Kept.refl own T w).below hb

set_option maxHeartbeats 1000000 in
set_option maxRecDepth 100000 in
theorem sync_any (base B : Nat) (st : Fs.St) (V : FsV) (own : Nat → Tag) (s : ByteArray) (w : World) (h : FsOK base B st V own w) (hs : s.size ≤ 1000000) :
    Calls Tryd.prog 26 #[.pointer (some ⟨B, 0, none⟩), .string s] w fun e w' => e = .returned (.int .i64 (Fs.sync st s.data.toList).2) ∧ OpPost base B (Fs.sync st s.data.toList).1 own w w' := by
  have H := Lib.hid h
  clear h
  go_enter Tryd.func26, Tryd.ntmps26
  go_wp2_with fail
  refine (open_any base B st V own s w H.out.at_ hs).mono ?_
  rintro e w1 ⟨hb1, hres⟩
  have H1 := Lib.hid (H.out.kept (kept_below hb1))
  rcases hres with ⟨h0, f, b, d, hf, hb, hd, rfl⟩ | ⟨h0, rfl⟩
  · go_wp2_with fail
    refine (step_any base B st V own w1 H1.out.at_).mono ?_
    rintro e w2 ⟨pv, rfl, h2, hk2⟩
    have hk02 : Kept own (· ≠ .other) w w2 := (kept_below hb1).trans (hk2.mono (fun t ht => by rw [ht]; simp))
    have hfr2 : ∀ k, w2.heap.size ≤ k → own k = .other := fun k hk => H1.out.fresh k (Nat.le_trans hk2.size hk)
    by_cases hc : (Fs.step st).2.2 = 0
    · have HE : Hid (Fs.sync st s.data.toList = ({ (Fs.step st).1 with files := Fs.flush st.files (Fs.idx st s.data.toList) }, 0)) := by
        unfold Fs.sync; rw [if_neg (by simp [h0]), if_neg (by simp [hc])]; exact Lib.hid rfl
      have hc2 : ((Fs.step st).2.2 == 0) = true := by rw [hc]; rfl
      have HF := Lib.hid (h2.file (Fs.idx st s.data.toList) f b d (by rw [Fs.step_files]; exact hf) hb hd)
      have x0 : w2.cell? ⟨b, 0, none⟩ = some d := root_cell HF.out.blk 0 _ rfl
      have y1 := root_frozen HF.out.blk 1
      obtain ⟨da, dc, hdv⟩ : ∃ a c, d = .slice a f.1.length c := by
        rcases HF.out.row.2 with ⟨e1, e2⟩ | ⟨g, cap, cur, e1, _⟩
        · exact ⟨none, 0, by rw [e1, e2]⟩
        · exact ⟨_, _, e1⟩
      rw [hdv] at x0
      have x1 : w2.cell? ⟨b, 1, none⟩ = some (.int .i64 f.2) := root_cell HF.out.blk 1 _ rfl
      have HC := Lib.hid hc
      have HFL : Hid (Fs.flush st.files (Fs.idx st s.data.toList) = (Fs.step st).1.files.set (Fs.idx st s.data.toList) (f.1, f.1.length)) := by
        unfold Fs.flush; rw [hf, Fs.step_files]; exact Lib.hid rfl
      have hkb : ∀ v, Kept own (fun t => t = .file (Fs.idx st s.data.toList) ∨ t = .data (Fs.idx st s.data.toList)) w2 (w2.setCell ⟨b, 1, none⟩ v) := fun v => (Kept.refl _ _ _).setCell ⟨b, 1, none⟩ (.inl HF.out.tag) v
      have HNEW := Lib.hid (h2.file1 (f' := (f.1, f.1.length)) (d' := d) (by rw [Fs.step_files]; exact hf) hb hd (hkb (.int .i64 (f.1.length : Nat)))
        ⟨heap_set HF.out.blk _, HF.out.tag, row_kept HF.out.row (fun g hg => Below.heap_setCell _ _ _ _ (fun e => by
          have h1 := HF.out.tagD g hg
          rw [e] at h1
          rw [HF.out.tag] at h1
          cases h1)), HF.out.tagD⟩)
      clear hc
      go_wp2
      go_ret
      rw [HE.out, HFL.out]
      exact ⟨congrArg (fun x => Ending.returned (.int .i64 x)) HC.out, _, own, ⟨HNEW.out, fun k hk => hfr2 k (Nat.le_trans (hkb (.int .i64 (f.1.length : Nat))).size hk), H1.out.old⟩, fun _ _ => rfl, hk02.trans ((hkb _).mono (fun t ht => by rcases ht with rfl | rfl <;> simp))⟩
    · have HE : Hid (Fs.sync st s.data.toList = ((Fs.step st).1, (Fs.step st).2.2)) := by
        unfold Fs.sync; rw [if_neg (by simp [h0]), if_pos hc]; exact Lib.hid rfl
      have hc2 : ((Fs.step st).2.2 == 0) = false := by rw [beq_eq_false_iff_ne]; exact hc
      go_wp2
      go_ret
      rw [HE.out]
      exact ⟨rfl, _, own, ⟨h2, hfr2, H1.out.old⟩, fun _ _ => rfl, hk02⟩
  · have HE : Hid (Fs.sync st s.data.toList = (st, Fs.openE st s.data.toList)) := by unfold Fs.sync; rw [if_pos h0]; exact Lib.hid rfl
    have hc2 : (Fs.openE st s.data.toList != 0) = true := by rw [bne_iff_ne]; exact h0
    go_wp2
    go_ret
    rw [HE.out]
    exact ⟨rfl, V, own, H1.out, fun _ _ => rfl, kept_below hb1⟩
end Go.Proofs.YtcimobbppmpmgaaDoor
