/-
  'SeglogKeeps': what holds from round to round, and behind the crash (plain). Numbers and parts in memory: rows of the call's own. The file system: Plan, walked. The file system: a file more, with its bytes and its name (for a crash). Segments: the fixed fact (awake), walked. The file system: List, by the library's contracts on sorted keys.
-/
import Derived.Test.YtcinagglbkbmkaaDoorZk9
import Derived.Test.YtcinagglbkbmkaaDoorZk6
import Derived.Test.YtcinagglbkbmkaaDoorZk8
import Derived.Laws.IdiomStrings
import Derived.Test.YtcinagglbkbmkaaDoorZk5
import Derived.Shelf.SlIter.Nil
import Derived.Shelf.SortM.Plain
import Derived.Shelf.SortM.SortNone
import Derived.Sort.KeysCollected
namespace Go.Proofs.YtcinagglbkbmkaaDoor
set_option linter.unusedSimpArgs false
set_option linter.unusedVariables false
open Go Go.RowKit
namespace Fr
/-- A part of a frame is none. -/
theorem stop_part {k : Int} {p y r : List UInt8} (hp : p.length ≤ 8192) (h : bytes k p = y ++ r) (hr : r ≠ []) : stop y = true := by
  have hl := congrArg List.length h
  rw [bytes_len, List.length_append] at hl
  have hr1 : 0 < r.length := List.length_pos_iff.2 hr
  unfold stop
  by_cases h9 : y.length < 9
  · rw [decide_eq_true h9]; rfl
  · have hn : num y = p.length := by
      have h1 := num_bytes (k := k) hp []
      rw [List.append_nil, h] at h1
      rw [← h1]
      unfold num
      simp only [List.getD_eq_getElem?_getD]
      rw [List.getElem?_append_left (by omega), List.getElem?_append_left (by omega), List.getElem?_append_left (by omega), List.getElem?_append_left (by omega)]
    rw [hn, decide_eq_true (show y.length - 9 < p.length by omega)]
    simp
end Fr
namespace Sg
/-- A file of frames of kind 1, perhaps more bytes behind, that are not sure. -/
structure Kp (st : Fs.St) (fs : List (List UInt8)) (x : List UInt8) : Prop where
  dir : st.dir = [(nameB 7, 0)]
  sure : st.sure = [(nameB 7, 0)]
  chg : st.changes = []
  files : st.files = [(Fr.flat (fs.map fun p => (1, p)) ++ x, (Fr.flat (fs.map fun p => (1, p))).length)]
  room : st.room = 20000
  pays : ∀ p ∈ fs, p.length ≤ 500
theorem Kp.alike {st st' : Fs.St} {fs : List (List UInt8)} {x : List UInt8} (h : Kp st fs x) (h1 : st'.dir = st.dir) (h2 : st'.sure = st.sure) (h3 : st'.changes = st.changes) (h4 : st'.files = st.files) (h5 : st'.room = st.room) : Kp st' fs x :=
  ⟨h1.trans h.dir, h2.trans h.sure, h3.trans h.chg, h4.trans h.files, h5.trans h.room, h.pays⟩
theorem name7 : nameE 7 = 0 := by decide
theorem Kp.new : (Sg.create (Fs.new 20000) 7).2 = 0 ∧ Kp (Sg.create (Fs.new 20000) 7).1 [] [] ∧ (Sg.create (Fs.new 20000) 7).1.left = -1 := by
  have hg := good_name name7
  have e : Fs.create (Fs.new 20000) (nameB 7) = (⟨wrap64 (0 + 1), -1, [], 20000, [([], 0)], [(nameB 7, 0)], [], [[(nameB 7, 0)]]⟩, 0) := by
    generalize nameB 7 = n at hg
    unfold Fs.create
    rw [if_neg (by rw [hg]; simp), if_neg (by simp [Fs.new, Fs.mhas]), if_neg (by simp [Fs.new]), Fs.step_calm ⟨rfl, rfl⟩, if_neg (by simp)]
    rfl
  have e2 : Sg.create (Fs.new 20000) 7 = (⟨wrap64 (wrap64 (0 + 1) + 1), -1, [], 20000, [([], 0)], [(nameB 7, 0)], [(nameB 7, 0)], []⟩, 0) := by
    unfold Sg.create
    rw [if_neg (by rw [name7]; simp), e, if_neg (by simp)]
    unfold Fs.syncDir
    rw [Fs.step_calm ⟨rfl, rfl⟩, if_neg (by simp)]
  rw [e2]
  exact ⟨rfl, ⟨rfl, rfl, rfl, rfl, rfl, fun p hp => by cases hp⟩, rfl⟩
theorem Kp.mid {st : Fs.St} {fs : List (List UInt8)} {x : List UInt8} (h : Kp st fs x) : Fs.openE st (nameB 7) = 0 ∧ Fs.idx st (nameB 7) = 0 ∧ Fs.fileAt st (nameB 7) = Fr.flat (fs.map fun p => (1, p)) ++ x := by
  have e0 : Fs.idx st (nameB 7) = 0 := by unfold Fs.idx; rw [h.dir]; unfold Fs.mget; simp
  refine ⟨Fs.openE_of (good_name name7) (by rw [h.dir]; unfold Fs.mhas; simp), e0, ?_⟩
  unfold Fs.fileAt
  rw [e0, h.files]
  rfl
theorem Kp.step {st : Fs.St} {fs : List (List UInt8)} {x : List UInt8} (h : Kp st fs x) : Kp (Fs.step st).1 fs x := by
  obtain ⟨s, l, p, e⟩ := Fs.step_eq st
  exact h.alike (by rw [e]) (by rw [e]) (by rw [e]) (by rw [e]) (by rw [e])
theorem enc1 {p : List UInt8} (hp : p.length ≤ 500) : Fr.encE 1 p = 0 := by
  unfold Fr.encE
  rw [if_neg (by omega), if_neg (by omega)]
/-- One frame more, or not. -/
theorem Kp.append {st : Fs.St} {fs : List (List UInt8)} (h : Kp st fs []) {p : List UInt8} (hp : p.length ≤ 500) :
    ((Sg.append st 7 1 p).2 = 0 ∧ Kp (Sg.append st 7 1 p).1 (fs ++ [p]) []) ∨ ((Sg.append st 7 1 p).2 ≠ 0 ∧ ∃ x r, Fr.bytes 1 p = x ++ r ∧ Kp (Sg.append st 7 1 p).1 fs x) := by
  obtain ⟨h1, h2, h3⟩ := h.mid
  rw [List.append_nil] at h3
  have hnone : ∀ st', Kp st' fs [] → ∃ x r, Fr.bytes 1 p = x ++ r ∧ Kp st' fs x := fun st' hk => ⟨[], _, rfl, hk⟩
  have hgrow : ∀ b, Fs.grow st.files 0 b = [(Fr.flat (fs.map fun p => (1, p)) ++ b, (Fr.flat (fs.map fun p => (1, p))).length)] := by
    intro b
    unfold Fs.grow
    rw [h.files]
    simp
  have hA : ∀ b, Kp { (Fs.step st).1 with files := Fs.grow st.files 0 b } fs b := fun b =>
    ⟨h.step.dir, h.step.sure, h.step.chg, hgrow b, h.step.room, h.pays⟩
  unfold Sg.append
  rw [if_neg (by rw [name7]; simp), if_neg (by rw [enc1 hp]; simp)]
  have key : ((Fs.append st (nameB 7) (Fr.bytes 1 p)).2 ≠ 0 ∧ ∃ x r, Fr.bytes 1 p = x ++ r ∧ Kp (Fs.append st (nameB 7) (Fr.bytes 1 p)).1 fs x) ∨ ((Fs.append st (nameB 7) (Fr.bytes 1 p)).2 = 0 ∧ Kp (Fs.append st (nameB 7) (Fr.bytes 1 p)).1 fs (Fr.bytes 1 p)) := by
    unfold Fs.append
    rw [if_neg (by rw [h1]; simp), h2]
    split
    · exact .inl ⟨by simp, hnone _ h⟩
    split
    · rename_i hs
      split
      · exact .inl ⟨hs, _, _, (List.take_append_drop _ _).symm, hA _⟩
      · exact .inl ⟨hs, hnone _ h.step⟩
    split
    · exact .inl ⟨by simp, hnone _ h.step⟩
    · exact .inr ⟨rfl, hA _⟩
  rcases key with ⟨k1, k2⟩ | ⟨k1, k2⟩
  · rw [if_pos k1]
    exact .inr ⟨k1, k2⟩
  · rw [if_neg (by rw [k1]; simp)]
    obtain ⟨m1, m2, m3⟩ := k2.mid
    generalize (Fs.append st (nameB 7) (Fr.bytes 1 p)).1 = s1 at *
    unfold Fs.sync
    rw [if_neg (by rw [m1]; simp), m2]
    split
    · rename_i hs
      exact .inr ⟨hs, _, [], (List.append_nil _).symm, k2.step⟩
    · refine .inl ⟨rfl, k2.step.dir, k2.step.sure, k2.step.chg, ?_, k2.step.room, fun q hq => ?_⟩
      · show Fs.flush s1.files 0 = _
        unfold Fs.flush
        rw [k2.files]
        have e : Fr.flat (List.map (fun p => ((1 : Int), p)) (fs ++ [p])) = Fr.flat (List.map (fun p => ((1 : Int), p)) fs) ++ Fr.bytes 1 p := by
          rw [List.map_append, Fr.flat_app]
          congr 1
          exact Fr.flat_one (1, p)
        rw [e]
        simp
      · rcases List.mem_append.1 hq with hq | hq
        · exact h.pays q hq
        · simp at hq; subst hq; exact hp
/-- Behind the crash. -/
theorem Kp.crash {st : Fs.St} {fs : List (List UInt8)} {x : List UInt8} (h : Kp st fs x) (dirs : Int) (tails : List Int) :
    (Fs.crash st dirs tails).dir = [(nameB 7, 0)] ∧ ∃ m, (Fs.crash st dirs tails).files = [(Fr.flat (fs.map fun p => (1, p)) ++ x.take m, (Fr.flat (fs.map fun p => (1, p)) ++ x.take m).length)] := by
  have e : Fs.crashDir st (Fs.dirsOf st dirs) = [(nameB 7, 0)] := by
    unfold Fs.crashDir
    rw [h.chg, h.sure]
    simp
  have ek : Fs.keys [(nameB 7, (0 : Int))] = [nameB 7] := by
    unfold Fs.keys
    simp
  unfold Fs.crash
  simp only [e, ek, Fs.crashGo]
  refine ⟨by simp [Fs.mput, Fs.mdel, Fs.mins], ?_⟩
  have eg : Fs.mget [(nameB 7, (0 : Int))] (nameB 7) = 0 := by unfold Fs.mget; simp
  unfold Fs.cutOf Fs.cut
  rw [eg, h.files]
  simp only [List.nil_append, Int.toNat_zero, List.getElem?_cons_zero, Option.getD_some]
  refine ⟨_, by rw [List.take_append, List.take_of_length_le (Nat.le_add_right _ _), Nat.add_sub_cancel_left]⟩
theorem read7 {st : Fs.St} (hd : st.dir = [(nameB 7, 0)]) {b : List UInt8} {n : Nat} (hf : st.files = [(b, n)]) : ∃ wh, Sg.read st [7] = ((Fr.scan b).1.map (fun f => ((7 : Int), f)), wh, 0) := by
  have e0 : Fs.idx st (nameB 7) = 0 := by unfold Fs.idx; rw [hd]; unfold Fs.mget; simp
  have e1 : Fs.openE st (nameB 7) = 0 := Fs.openE_of (good_name name7) (by rw [hd]; unfold Fs.mhas; simp)
  have e2 : Fs.fileAt st (nameB 7) = b := by unfold Fs.fileAt; rw [e0, hf]; rfl
  refine ⟨decide ((Fr.scan b).2 = b.length), ?_⟩
  unfold Sg.read
  rw [if_neg (by rw [badE_cons, name7]; decide), readGo_cons, if_neg (by rw [e1]; simp), e2]
  rfl
/-- What is read behind the crash. -/
theorem Kp.read {st : Fs.St} {fs : List (List UInt8)} {x p r : List UInt8} (h : Kp st fs x) (hx : x = [] ∨ (p.length ≤ 500 ∧ Fr.bytes 1 p = x ++ r)) (dirs : Int) (tails : List Int) :
    ∃ l wh, Sg.read (Fs.crash st dirs tails) [7] = (l.map (fun q => ((7 : Int), (1, q))), wh, 0) ∧ (l = fs ∨ (x ≠ [] ∧ l = fs ++ [p])) := by
  obtain ⟨h1, m, h2⟩ := h.crash dirs tails
  obtain ⟨wh, h3⟩ := read7 h1 h2
  have hE : ∀ f ∈ fs.map (fun p => ((1 : Int), p)), Fr.encE f.1 f.2 = 0 := fun f hf => by
    obtain ⟨q, hq, rfl⟩ := List.mem_map.1 hf
    exact enc1 (h.pays q hq)
  have hmap : ∀ l : List (List UInt8), List.map (fun f => ((7 : Int), f)) (l.map fun p => ((1 : Int), p)) = l.map (fun q => ((7 : Int), (1, q))) := fun l => by rw [List.map_map]; rfl
  have hno : Fr.stop (x.take m) = true → ∃ l wh, Sg.read (Fs.crash st dirs tails) [7] = (l.map (fun q => ((7 : Int), (1, q))), wh, 0) ∧ (l = fs ∨ (x ≠ [] ∧ l = fs ++ [p])) := fun hs => by
    refine ⟨fs, wh, ?_, .inl rfl⟩
    rw [h3, Fr.scan_flat _ hs _ hE, hmap]
  rcases hx with rfl | ⟨hp, hx⟩
  · exact hno (by rw [List.take_nil]; exact Fr.stop_nil)
  · by_cases hfull : x.take m = Fr.bytes 1 p
    · refine ⟨fs ++ [p], wh, ?_, .inr ⟨fun e => ?_, rfl⟩⟩
      · rw [h3]
        have e : Fr.flat (fs.map fun p => ((1 : Int), p)) ++ x.take m = Fr.flat ((fs ++ [p]).map fun p => ((1 : Int), p)) ++ [] := by
          rw [List.map_append, Fr.flat_app, hfull, List.append_nil]
          congr 1
          exact (Fr.flat_one (1, p)).symm
        rw [e, Fr.scan_flat [] Fr.stop_nil, hmap]
        intro f hf
        obtain ⟨q, hq, rfl⟩ := List.mem_map.1 hf
        rcases List.mem_append.1 hq with hq | hq
        · exact enc1 (h.pays q hq)
        · simp at hq; subst hq; exact enc1 hp
      · rw [e, List.take_nil] at hfull
        have := congrArg List.length hfull
        rw [Fr.bytes_len] at this
        simp at this
    · refine hno (Fr.stop_part (k := 1) (p := p) (r := x.drop m ++ r) (by omega) ?_ (fun e => hfull ?_))
      · rw [← List.append_assoc, List.take_append_drop]; exact hx
      · obtain ⟨e1, e2⟩ := List.append_eq_nil_iff.1 e
        have := List.take_append_drop m x
        rw [e1, List.append_nil] at this
        rw [hx, e2, List.append_nil]
        exact this
end Sg
end Go.Proofs.YtcinagglbkbmkaaDoor
namespace Go.Proofs.YtcinagglbkbmkaaDoor
set_option linter.unusedSimpArgs false
set_option linter.unusedVariables false
open Go Go.RowKit
open Go.Maps Go.WideMaps

/-- A slice of numbers, wherever it lies. -/
abbrev Nums (w : World) (v : Value) (l : List Int) : Prop := Ints w v l
theorem Byts.keep1 {w w' : World} {a : Option Addr} {n c : Nat} {l : List UInt8} (h : Byts w (.slice a n c) l) (hs : w.heap.size ≤ w'.heap.size) (hk : ∀ b, a = some b → b.block < w.heap.size → w'.heap[b.block]? = w.heap[b.block]?) : Byts w' (.slice a n c) l := by
  obtain ⟨a', cap, h1, h2, hn, h3⟩ := h
  simp only [Value.slice.injEq] at h1
  obtain ⟨rfl, h1b, rfl⟩ := h1
  refine ⟨a, c, by rw [h1b], h2, hn, fun i x hi => ?_⟩
  obtain ⟨b, off, e, h4, h5⟩ := h3 i x hi
  have hb : w'.heap[b]? = w.heap[b]? := hk ⟨b, off, none⟩ e h4
  exact ⟨b, off, e, Nat.lt_of_lt_of_le h4 hs, by rw [World.cell?_of_block hb]; exact h5⟩
/-- Parts in memory of the call's own. -/
structure PO (w : World) (base : Nat) (v : Value) (ps : List (List UInt8 × Value)) : Prop where
  row : w.ownsRow base 42 1 v ps.length (ps.map (·.2))
  pay : ∀ p ∈ ps, Byts w p.2 p.1 ∧ ∃ g n c, p.2 = .slice (some ⟨g, 0, none⟩) n c ∧ g < w.heap.size ∧ v.ownBlock ≠ some g
theorem PO.nil (w : World) (base : Nat) : PO w base (.slice none 0 0) [] := ⟨World.ownsRow_nil _ _ _ _, fun p h => by simp at h⟩
theorem PO.keep {w w' : World} {base : Nat} {v : Value} {ps : List (List UInt8 × Value)} (h : PO w base v ps) (hb : Below w.heap.size w w') : PO w' base v ps :=
  ⟨row_kept h.row (fun g hg => hb.block g (h.row.lt g hg).2), fun p hp => by
    obtain ⟨h1, g, n, c, h2, h3, h4⟩ := h.pay p hp
    exact ⟨h1.below hb, g, n, c, h2, Nat.lt_of_lt_of_le h3 hb.size, h4⟩⟩
theorem PO.more {w w5 : World} {base : Nat} {v v' : Value} {ps : List (List UInt8 × Value)} {l : List UInt8} {g n c : Nat} (h : PO w base v ps) (hx : Byts w (.slice (some ⟨g, 0, none⟩) n c) l) (hg : g < w.heap.size) (hne : v.ownBlock ≠ some g)
    (hrow : w5.ownsRow base 42 1 v' (ps.length + 1) (ps.map (·.2) ++ [.slice (some ⟨g, 0, none⟩) n c])) (hgr : w.grownBy w5 v.ownBlock) (hloc : v'.ownBlock = v.ownBlock ∨ v'.ownBlock = some w.heap.size) :
    PO w5 base v' (ps ++ [(l, .slice (some ⟨g, 0, none⟩) n c)]) := by
  have hk : ∀ (y : Value) (l : List UInt8), Byts w y l → (∃ g n c, y = .slice (some ⟨g, 0, none⟩) n c ∧ g < w.heap.size ∧ v.ownBlock ≠ some g) → Byts w5 y l ∧ ∃ g n c, y = .slice (some ⟨g, 0, none⟩) n c ∧ g < w5.heap.size ∧ v'.ownBlock ≠ some g := by
    rintro y l hy ⟨g, n, c, rfl, h3, h4⟩
    refine ⟨hy.keep1 hgr.size (fun b e hb => ?_), g, n, c, rfl, Nat.lt_of_lt_of_le h3 hgr.size, ?_⟩
    · simp at e; subst e
      exact hgr.block g h3 (fun e => h4 e.symm)
    · rcases hloc with e | e
      · rw [e]; exact h4
      · rw [e]; intro e2; simp at e2; omega
  refine ⟨?_, fun p hp => ?_⟩
  · rw [List.length_append, List.map_append]
    exact hrow
  · rcases List.mem_append.1 hp with hp | hp
    · exact hk p.2 p.1 (h.pay p hp).1 (h.pay p hp).2
    · simp at hp; subst hp; exact hk _ l hx ⟨g, n, c, rfl, hg, hne⟩
/-- Numbers of the call's own. -/
def i64Cells (l : List Int) : List Value := l.map fun x => .int .i64 x
def OwnI (w : World) (base : Nat) (v : Value) (l : List Int) : Prop := w.ownsRow base 3 1 v l.length (i64Cells l)
theorem OwnI.nums {w : World} {base : Nat} {v : Value} {l : List Int} (h : OwnI w base v l) : Nums w v l := by
  have hcs := fun g hg => World.ownsRow.cells (g := g) h hg
  rcases h.2 with ⟨h1, h2⟩ | ⟨g, cap, cur, h1, hg, hb, hc, hm, _, _⟩
  · exact ⟨none, 0, by rw [h1, h2], fun i x hx => by
      have := (List.getElem?_eq_some_iff.1 hx).1
      omega⟩
  · refine ⟨some ⟨g, 0, none⟩, cap, h1, fun i x hx => ⟨g, 0, rfl, heap_lt hb, ?_⟩⟩
    have := hcs g (by rw [h1]; rfl) i (.int .i64 x) (by simp [i64Cells, hx])
    rw [addr_add] at this
    rw [Nat.zero_add]
    exact this
theorem OwnI.keep {w w' : World} {base : Nat} {v : Value} {l : List Int} (h : OwnI w base v l) (hb : Below w.heap.size w w') : OwnI w' base v l :=
  row_kept h (fun g hg => hb.block g (h.lt g hg).2)
theorem OwnI.one (w : World) (x : Int) (base : Nat) (hb : base ≤ w.heap.size) : OwnI (w.alloc (.cells #[.int .i64 x] 3)) base (.slice (some ⟨w.heap.size, 0, none⟩) 1 1) [x] :=
  World.ownsRow_lit (base := base) (e := 3) (size := 1) w #[.int .i64 x] 1 hb (by unfold maxLen; omega) rfl
theorem OwnI.form3 {w : World} {base : Nat} {v : Value} {l : List Int} (h : OwnI w base v l) : ∃ a n c, v = .slice a n c ∧ Hid (n = l.length) := by
  obtain ⟨a, c, e⟩ := row_any h
  exact ⟨a, _, c, e, Lib.hid rfl⟩
end Go.Proofs.YtcinagglbkbmkaaDoor
namespace Go.Proofs.YtcinagglbkbmkaaDoor
set_option linter.unusedSimpArgs false
set_option linter.unusedVariables false
open Go Go.RowKit
open Go.Maps Go.WideMaps

/-- Numbers, copied. -/
theorem cloneI (v : Value) (l : List Int) (w : World) (h : Ints w v l) (hl : l.length ≤ 1000000) :
    Calls Tryd.prog 16 #[v] w fun e w' => ∃ v', e = .returned v' ∧ OwnI w' w.heap.size v' l ∧ Below w.heap.size w w' := by
  obtain ⟨a, c, h1, h2⟩ := h
  subst h1
  cases a with
  | none =>
    have hl0 : l = [] := by
      cases l with
      | nil => rfl
      | cons x r => obtain ⟨b, off, e, _⟩ := h2 0 x rfl; cases e
    subst hl0
    refine (Tryd.slices_Clone_int_nil 0 c w).mono ?_
    rintro e w' ⟨rfl, rfl⟩
    exact ⟨_, rfl, World.ownsRow_nil _ _ _ _, Below.refl _ _⟩
  | some p =>
    cases l with
    | nil =>
      refine (Tryd.slices_Clone_int_zero p c w).mono ?_
      rintro e w' ⟨v', rfl, h3, _, h4⟩
      exact ⟨v', rfl, h3, h4⟩
    | cons x r =>
      obtain ⟨b, off, e, _⟩ := h2 0 x rfl
      cases e
      refine (Tryd.slices_Clone_int b off (x :: r).length c (x :: r) w (Nat.le_refl _) (by omega) ?_).mono ?_
      · intro j hj
        obtain ⟨b', off', e1, _, e3⟩ := h2 j (x :: r)[j] (List.getElem?_eq_getElem hj)
        simp only [Option.some.injEq, Addr.mk.injEq, and_true] at e1
        obtain ⟨rfl, rfl⟩ := e1
        rw [e3, List.getD_eq_getElem?_getD, List.getElem?_eq_getElem hj]
        rfl
      · rintro e w' ⟨v', rfl, h3, _, h4⟩
        rw [List.take_of_length_le (Nat.le_refl _)] at h3
        exact ⟨v', rfl, h3, h4⟩
namespace Fs
def planned (st : St) (l : List Int) : St := { st with plan := l }
end Fs
/-- A plan of one's own. -/
theorem OwnI.plan {w : World} {base : Nat} {v : Value} {l : List Int} {own : Nat → Tag} (h : OwnI w base v l) (ht : ∀ g, v.ownBlock = some g → own g = .plan) : PlanAt w own v l := by
  obtain ⟨a, c, h1, h2⟩ := h.nums
  have hc : l.length ≤ c := by
    rcases h.2 with ⟨h3, h4⟩ | ⟨g, cap, cur, h3, hg, hb, hc, hm, _, _⟩
    · rw [h4]; exact Nat.zero_le _
    · rw [h3] at h1; simp only [Value.slice.injEq] at h1; omega
  refine ⟨a, c, h1, hc, fun i x hi => ?_⟩
  obtain ⟨b, off, e, h3, h4⟩ := h2 i x hi
  exact ⟨b, off, e, ht b (by rw [h1, e]; rfl), h3, h4⟩
set_option maxHeartbeats 1000000 in
set_option maxRecDepth 100000 in
theorem plan_any (base B : Nat) (st : Fs.St) (V : FsV) (own : Nat → Tag) (sv : Value) (l : List Int) (w : World) (h : FsOK base B st V own w) (hN : Ints w sv l) (hl : l.length ≤ 1000000) :
    Calls Tryd.prog 7 #[.pointer (some ⟨B, 0, none⟩), sv] w fun e w' => e = .returned (.tuple #[]) ∧ OpPost base B (Fs.planned st l) own w w' := by
  have H := Lib.hid h
  have HN := Lib.hid hN
  obtain ⟨sa, sc, rfl⟩ := hN.form
  clear h
  go_enter Tryd.func7, Tryd.ntmps7
  go_wp2_with fail
  refine (cloneI _ l w HN.out hl).mono ?_
  rintro e w1 ⟨v', rfl, ho, hb1⟩
  have f2 := root_frozen (H.out.kept (kept_below hb1)).at_.root 2
  have c2 : w1.cell? ⟨B, 2, none⟩ = some V.pv := root_cell (H.out.kept (kept_below hb1)).at_.root 2 _ rfl
  obtain ⟨va, vn, vc, hv, _⟩ := OwnI.form3 ho
  subst hv
  have HO := Lib.hid ho
  have HB := Lib.hid hb1
  clear ho hb1
  go_wp2_with fail
  go_end0
  obtain ⟨own', ho1, ho2, ho3⟩ : ∃ own' : Nat → Tag, (∀ k, k < w.heap.size → own' k = own k) ∧ (∀ g, (Value.slice va vn vc).ownBlock = some g → own' g = .plan) ∧ (∀ k, w1.heap.size ≤ k → own' k = .other) := by
    cases hg : (Value.slice va vn vc).ownBlock with
    | none => exact ⟨own, fun _ _ => rfl, fun g e => (by cases e), fun k hk => H.out.fresh k (Nat.le_trans HB.out.size hk)⟩
    | some g =>
      have hgl := HO.out.lt g hg
      refine ⟨tag1 own g .plan, fun k hk => if_neg (by omega), fun g' e => ?_, fun k hk => ?_⟩
      · cases e; exact if_pos rfl
      · unfold tag1; rw [if_neg (by omega)]; exact H.out.fresh k (Nat.le_trans HB.out.size hk)
  have hat := (H.out.kept (kept_below HB.out)).at_
  have hat2 : FsAt base B st V own' w1 := hat.tags fun k hk hne => by
    by_cases hkw : k < w.heap.size
    · exact ho1 k hkw
    · exact absurd (H.out.fresh k (by omega)) hne
  have hk : Kept own' (· = .root) w1 (w1.setCell ⟨B, 2, none⟩ (.slice va vn vc)) := (Kept.refl _ _ _).setCell ⟨B, 2, none⟩ hat2.tB _
  have hat3 := hat2.power (s := st.steps) (l := st.left) (p := l) (pv := .slice va vn vc) hk H.out.at_.left (HO.out.plan ho2) (heap_set hat2.root _)
  refine ⟨rfl, _, own', ⟨hat3, fun k hk2 => ho3 k (Nat.le_trans hk.size hk2), fun k hk2 => ?_⟩, ho1, ?_⟩
  · by_cases hkw : k < w.heap.size
    · rw [ho1 k hkw]; exact H.out.old k hk2
    · by_cases hk1 : k < w1.heap.size
      · have hb := H.out.at_.bl
        have := H.out.at_.dir.lt
        omega
      · exact ho3 k (by omega)
  · have hB := heap_lt H.out.at_.root
    exact ⟨HB.out.os, HB.out.tape, HB.out.output, Nat.le_trans HB.out.size hk.size, fun k hk2 ht => by
      rw [hk.block k (Nat.lt_of_lt_of_le hk2 HB.out.size) (by rw [ho1 k hk2]; intro e; rw [e] at ht; exact ht (by simp)), HB.out.block k hk2]⟩
end Go.Proofs.YtcinagglbkbmkaaDoor
namespace Go.Proofs.YtcinagglbkbmkaaDoor
set_option linter.unusedSimpArgs false
set_option linter.unusedVariables false
open Go Go.RowKit
open Go.Maps Go.WideMaps

/-- One file more, with bytes; its name stands already. -/
theorem FsOK.plant {base B : Nat} {st : Fs.St} {V : FsV} {own : Nat → Tag} {w w1 w5 : World} {fv' d : Value} {l n : List UInt8} (h : FsOK base B st V own w)
    (hk1 : Kept own (· = .dir) w w1) (hm : MapOf w1 V.md (Fs.mput st.dir n st.files.length)) (hd : w.ownsRow base 5 1 d l.length (u8Cells l)) (hdo : ∀ k, d.ownBlock = some k → own k = .other)
    (hrow : w5.ownsRow base 71 1 fv' (st.files.length + 1) ((V.fb.map fun b => (.pointer (some ⟨b, 0, none⟩) : Value)) ++ [.pointer (some ⟨w1.heap.size, 0, none⟩)]))
    (hg : ((w1.alloc (.cells #[d, .int .i64 l.length] 73)).alloc (.cells #[.pointer (some ⟨w1.heap.size, 0, none⟩)] 71)).grownBy w5 V.fv.ownBlock)
    (hloc : fv'.ownBlock = V.fv.ownBlock ∨ fv'.ownBlock = some ((w1.alloc (.cells #[d, .int .i64 l.length] 73)).alloc (.cells #[.pointer (some ⟨w1.heap.size, 0, none⟩)] 71)).heap.size) (hbase : base ≤ w.heap.size) :
    ∃ own', FsOK base B { st with files := st.files ++ [(l, l.length)], dir := Fs.mput st.dir n st.files.length } { V with fv := fv', fb := V.fb ++ [w1.heap.size], dv := V.dv ++ [d] } own' (w5.setCell ⟨B, 4, none⟩ fv') ∧
      (∀ k, k < w.heap.size → d.ownBlock ≠ some k → own' k = own k) ∧ Kept own (fun t => t = .root ∨ t = .files ∨ t = .dir) w (w5.setCell ⟨B, 4, none⟩ fv') := by
  have hA := h.at_
  have hB := heap_lt hA.root
  have hz1 := hk1.size
  have s1 : (w1.alloc (.cells #[d, .int .i64 l.length] 73)).heap.size = w1.heap.size + 1 := by simp
  have s2 : ((w1.alloc (.cells #[d, .int .i64 l.length] 73)).alloc (.cells #[.pointer (some ⟨w1.heap.size, 0, none⟩)] 71)).heap.size = w1.heap.size + 2 := by simp
  have hF1 := heap_new w1 (.cells #[d, .int .i64 l.length] 73)
  have hF2 : ((w1.alloc (.cells #[d, .int .i64 l.length] 73)).alloc (.cells #[.pointer (some ⟨w1.heap.size, 0, none⟩)] 71)).heap[w1.heap.size]? = some (.cells #[d, .int .i64 l.length] 73 (0, 0)) := by
    rw [Lib.alloc_old _ _ _ (by omega)]; exact hF1
  have b4 : Below w1.heap.size w1 ((w1.alloc (.cells #[d, .int .i64 l.length] 73)).alloc (.cells #[.pointer (some ⟨w1.heap.size, 0, none⟩)] 71)) :=
    ((Below.refl _ _).alloc (Nat.le_refl _) _).alloc (by omega) _
  generalize hw4 : ((w1.alloc (.cells #[d, .int .i64 l.length] 73)).alloc (.cells #[.pointer (some ⟨w1.heap.size, 0, none⟩)] 71)) = w4 at *
  have hk4 : Kept own (· = .dir) w w4 := hk1.below b4
  have hfvlt : ∀ k, V.fv.ownBlock = some k → k < w.heap.size := fun k hk => (row_block_lt hA.files k hk).2
  have hdlt : ∀ k, d.ownBlock = some k → k < w.heap.size := fun k hk => (row_block_lt hd k hk).2
  have hrow4 : w4.ownsRow base 71 1 V.fv st.files.length (V.fb.map fun b => .pointer (some ⟨b, 0, none⟩)) := row_kept hA.files (fun g hg2 => hk4.block g (hfvlt g hg2) (by rw [hA.tfiles g hg2]; simp))
  -- the data's block and the file's get their tags
  obtain ⟨ownD, hD1, hD2, hD3⟩ : ∃ ownD : Nat → Tag, (∀ k, k < w.heap.size → own k ≠ .other → ownD k = own k) ∧ (∀ k, d.ownBlock = some k → ownD k = .data st.files.length) ∧ (∀ k, d.ownBlock ≠ some k → ownD k = own k) := by
    cases hdb : d.ownBlock with
    | none => exact ⟨own, fun _ _ _ => rfl, fun k e => (by cases e), fun _ _ => rfl⟩
    | some g =>
      refine ⟨tag1 own g (.data st.files.length), fun k _ hne => if_neg (fun e => hne (by rw [e]; exact hdo g hdb)), fun k e => ?_, fun k e => if_neg (fun x => e (by rw [x]))⟩
      cases e; exact if_pos rfl
  have hDfr : ∀ k, w.heap.size ≤ k → ownD k = .other := fun k hk => by
    rw [hD3 k (fun e => by have := hdlt k e; omega)]; exact h.fresh k hk
  have hDold : ∀ k, k < base → ownD k = .other := fun k hk => by
    rw [hD3 k (fun e => by have := (row_block_lt hd k e).1; omega)]; exact h.old k hk
  have hfrA : ∀ k, w4.heap.size ≤ k → tag1 ownD w1.heap.size (.file st.files.length) k = .other := fun k hk => by
    unfold tag1
    rw [if_neg (by omega)]
    exact hDfr k (by omega)
  obtain ⟨own', o1, o2, o3, o4, hk⟩ := retag (own := tag1 ownD w1.heap.size (.file st.files.length)) hrow4 hrow hg hloc (fun k hk => by
      have := hfvlt k hk
      have h1 := hA.tfiles k hk
      rw [tag1_old (by omega), hD1 k this (by rw [h1]; simp)]; exact h1) hfrA
    (fun k hk => by rw [tag1_old (by omega)]; exact hDold k hk) (by omega)
  have ho : ∀ k, k < w.heap.size → own k ≠ .other → own' k = own k := fun k hk2 hne => (o1 k (by omega)).trans ((tag1_old (by omega)).trans (hD1 k hk2 hne))
  have hoD : ∀ k, d.ownBlock = some k → own' k = .data st.files.length := fun k hk2 => by
    have := hdlt k hk2
    exact (o1 k (by omega)).trans ((tag1_old (by omega)).trans (hD2 k hk2))
  have hk45 : Kept own (fun t => t = .files ∨ t = .dir) w w5 := by
    refine ⟨hk.os.trans hk4.os, hk.tape.trans hk4.tape, hk.output.trans hk4.output, Nat.le_trans hk4.size hk.size, fun k hk2 ht => ?_⟩
    rw [hk.block k (by omega) (by
      rw [tag1_old (by omega)]
      by_cases e : d.ownBlock = some k
      · rw [hD2 k e]; simp
      · rw [hD3 k e]; exact fun x => ht (.inl x))]
    exact hk4.block k hk2 (fun x => ht (.inr x))
  have hkW : Kept own (fun t => t = .root ∨ t = .files ∨ t = .dir) w (w5.setCell ⟨B, 4, none⟩ fv') := (hk45.mono (fun t ht => .inr ht)).setCell ⟨B, 4, none⟩ (.inl hA.tB) _
  have hkW' : Kept own' (fun t => t = .root ∨ t = .files ∨ t = .dir) w (w5.setCell ⟨B, 4, none⟩ fv') := hkW.tagsO ho (by simp)
  have hBne : own B ≠ .other := by rw [hA.tB]; simp
  have hr5 : w5.heap[B]? = some (.cells (FsCells st V) 38 (0, 0)) := by rw [hk45.block B hB (by rw [hA.tB]; simp)]; exact hA.root
  have hFn : (w5.setCell ⟨B, 4, none⟩ fv').heap[w1.heap.size]? = some (.cells #[d, .int .i64 l.length] 73 (0, 0)) := by
    rw [Below.heap_setCell _ _ _ _ (show w1.heap.size ≠ (⟨B, 4, none⟩ : Addr).block by simp; omega), hk.block w1.heap.size (by omega) (by rw [tag1_new]; simp)]
    exact hF2
  have hmd5 : (w5.setCell ⟨B, 4, none⟩ fv').heap[V.md]? = w1.heap[V.md]? := by
    have hmd := hA.dir.lt
    rw [Below.heap_setCell _ _ _ _ (show V.md ≠ (⟨B, 4, none⟩ : Addr).block from fun e => by have h1 := hA.tdir; rw [e, hA.tB] at h1; cases h1),
      hk.block V.md (by omega) (by rw [tag1_old (by omega), hD1 V.md hmd (by rw [hA.tdir]; simp), hA.tdir]; simp)]
    exact b4.block V.md (by omega)
  refine ⟨own', ⟨⟨heap_set hr5 _, (ho B hB hBne).trans hA.tB, hA.lo, hA.left, (hA.plan.tags ho).kept hkW' (by simp), ?_, o2, ?_, ?_, ?_, hm.heap hmd5, (ho _ hA.dir.lt (by rw [hA.tdir]; simp)).trans hA.tdir,
    hA.sure.heap (hkW.block _ hA.sure.lt (by rw [hA.tsure]; simp)), (ho _ hA.sure.lt (by rw [hA.tsure]; simp)).trans hA.tsure, (hA.chg.tags ho).kept hkW' (by simp) (by simp), ?_, hA.bl⟩, fun k hk2 => o3 k ?_, o4⟩, fun k hk2 hne => (o1 k (by omega)).trans ((tag1_old (by omega)).trans (hD3 k hne)), hkW⟩
  · rw [List.length_append, List.length_singleton, List.map_append]
    refine row_kept hrow (fun g hg2 => Below.heap_setCell _ _ _ _ (fun e => ?_))
    have h1 := o2 g hg2
    rw [e] at h1
    rw [show (⟨B, 4, none⟩ : Addr).block = B from rfl, ho B hB hBne, hA.tB] at h1
    cases h1
  · simp [hA.nfb]
  · simp [hA.ndv]
  · intro i f b d' h1 h2 h3
    by_cases hi : i < st.files.length
    · rw [List.getElem?_append_left hi] at h1
      rw [List.getElem?_append_left (by rw [hA.nfb]; exact hi)] at h2
      rw [List.getElem?_append_left (by rw [hA.ndv]; exact hi)] at h3
      exact ((hA.file i f b d' h1 h2 h3).tags ho).kept hkW' (by simp) (by simp)
    · have hi2 : i = st.files.length := by
        have := (List.getElem?_eq_some_iff.1 h1).1
        simp at this
        omega
      subst hi2
      rw [List.getElem?_append_right (Nat.le_refl _), Nat.sub_self] at h1
      rw [← hA.nfb, List.getElem?_append_right (Nat.le_refl _), Nat.sub_self] at h2
      rw [← hA.ndv, List.getElem?_append_right (Nat.le_refl _), Nat.sub_self] at h3
      simp at h1 h2 h3
      subst h1 h2 h3
      exact ⟨hFn, (o1 _ (by omega)).trans tag1_new, row_kept hd (fun g hg2 => hkW.block g (hdlt g hg2) (by rw [hdo g hg2]; simp)), hoD⟩
  · intro p hp
    rw [List.length_append, List.length_singleton]
    rcases Fs.mput_mem.1 hp with rfl | ⟨hp, _⟩
    · simp; omega
    · have := hA.known p hp
      omega
  · simpa [World.setCell] using hk2
end Go.Proofs.YtcinagglbkbmkaaDoor
namespace Go.Proofs.YtcinagglbkbmkaaDoor
set_option linter.unusedSimpArgs false
set_option linter.unusedVariables false
open Go Go.RowKit
open Go.Maps Go.WideMaps

namespace Sg
theorem name12 : nameB 12 = [115, 101, 103, 45, 49, 50] ∧ nameE 12 = 0 := by
  refine ⟨?_, by decide⟩
  have h := Lib.itoa_nonneg 12
  rw [Lib.decDigits_two (by omega) (by omega)] at h
  unfold nameB
  rw [if_neg (by decide), show ((12 : Int)) = ((12 : Nat) : Int) from rfl, h]
  rfl
theorem id012 : idOf [115, 101, 103, 45, 48, 49, 50] = 0 := by
  rw [id_ref]
  unfold refId
  have h1 : dval (([115, 101, 103, 45, 48, 49, 50] : List UInt8).drop 4) = 12 := rfl
  rw [if_neg (by decide), if_neg (by decide), h1]
  rw [if_pos (.inr (by
    show nameB 12 ≠ _
    rw [name12.1]
    decide))]
end Sg
theorem enCells_get : ∀ (ps : List (Sg.En × Value)) (i : Nat) (p : Sg.En × Value), ps[i]? = some p → (enCells ps)[i * 3]? = some (.int .i64 p.1.1) ∧ (enCells ps)[i * 3 + 1]? = some (.int .i64 p.1.2.1) ∧ (enCells ps)[i * 3 + 2]? = some p.2
  | [], i, p, h => by simp at h
  | q :: ps, 0, p, h => by
    simp at h; subst h
    exact ⟨rfl, rfl, rfl⟩
  | q :: ps, i + 1, p, h => by
    have := enCells_get ps i p (by simpa using h)
    rw [show (i + 1) * 3 = i * 3 + 1 + 1 + 1 by omega]
    exact this
theorem EnAt.at {w : World} {base g n cap : Nat} {ps : List (Sg.En × Value)} (h : EnAt w base (.slice (some ⟨g, 0, none⟩) n cap) ps) {i : Nat} {p : Sg.En × Value} (hi : ps[i]? = some p) :
    w.cell? ⟨g, i * 3, none⟩ = some (.int .i64 p.1.1) ∧ w.cell? ⟨g, i * 3 + 1, none⟩ = some (.int .i64 p.1.2.1) ∧ w.cell? ⟨g, i * 3 + 2, none⟩ = some p.2 := by
  obtain ⟨h1, h2, h3⟩ := enCells_get ps i p hi
  have c1 := World.ownsRow.cells h.row (g := g) rfl _ _ h1
  have c2 := World.ownsRow.cells h.row (g := g) rfl _ _ h2
  have c3 := World.ownsRow.cells h.row (g := g) rfl _ _ h3
  rw [addr_add] at c1 c2 c3
  exact ⟨c1, c2, c3⟩
theorem byts_lit {w : World} (l : List UInt8) (cs : Array Value) (fz : Nat × Nat) (hc : cs = (u8Cells l).toArray) : Byts (w.alloc (.cells cs 5 fz)) (.slice (some ⟨w.heap.size, 0, none⟩) l.length l.length) l := by
  subst hc
  refine ⟨_, _, rfl, Nat.le_refl _, (fun e => by cases e), fun i x hi => ⟨w.heap.size, 0, rfl, by simp, ?_⟩⟩
  rw [Nat.zero_add, cell_of_row _ _ _ _ _ _ (heap_new w _)]
  simp [u8Cells, hi]
theorem ints_lit {w : World} (l : List Int) (cs : Array Value) (hc : cs = (l.map fun x => Value.int .i64 x).toArray) : Ints (w.alloc (.cells cs 3)) (.slice (some ⟨w.heap.size, 0, none⟩) l.length l.length) l := by
  subst hc
  refine ⟨_, _, rfl, fun i x hi => ⟨w.heap.size, 0, rfl, by simp, ?_⟩⟩
  rw [Nat.zero_add]
  exact cell_new w _ _ i _ (by simp [hi])

set_option maxHeartbeats 1000000 in
set_option maxRecDepth 100000 in
theorem awake_any (w : World) (B : Nat) (hE : SgEnv B w) (hB : B ≤ w.heap.size) :
    Calls Tryd.prog 4 #[] w fun e w' => e = .returned (.bool true) ∧ Below w.heap.size w w' := by
  have HE := Lib.hid hE
  clear hE
  go_enter Tryd.func4, Tryd.ntmps4
  go_wp2_with fail
  refine (name_any 12 w B HE.out).mono ?_
  rintro e w1 ⟨rfl, hb1⟩
  rw [Sg.name12.1, Sg.name12.2]
  have HB1 := Lib.hid hb1
  clear hb1
  go_wp2_with fail
  refine (id_any ⟨#[115, 101, 103, 45, 48, 49, 50]⟩ w1 B (HE.out.below (HB1.out.mono hB)) (Nat.le_trans hB HB1.out.size) (by show (7 : Nat) ≤ _; omega)).mono ?_
  rintro e w2 ⟨rfl, hb2⟩
  have h012 : Sg.idOf (⟨#[115, 101, 103, 45, 48, 49, 50]⟩ : ByteArray).data.toList = 0 := Sg.id012
  rw [h012]
  have HB2 := Lib.hid (HB1.out.trans (hb2.mono HB1.out.size))
  clear hb2 h012
  go_wp2_with fail
  refine (new_any 1000 w2).mono ?_
  rintro e w3 ⟨hb3, hres⟩
  have HB3 := Lib.hid (HB2.out.trans (hb3.mono HB2.out.size))
  have hs23 := hb3.size
  clear hb3
  rcases hres with ⟨h, rfl⟩ | ⟨_, rfl, V, hok⟩
  · omega
  · obtain ⟨base, hbase⟩ : ∃ b, b = w2.heap.size := ⟨_, rfl⟩
    obtain ⟨BB, hBB⟩ : ∃ b, b = w2.heap.size + 2 := ⟨_, rfl⟩
    rw [← hBB, ← hbase] at hok
    rw [← hBB]
    have HOK := Lib.hid hok
    have hw2 : w.heap.size ≤ base := by rw [hbase]; exact HB2.out.size
    have hbb : base ≤ w3.heap.size := by rw [hbase]; exact hs23
    have HE3 := Lib.hid ((HE.out.below (HB3.out.mono hB)).mono (Nat.le_trans hB hw2))
    clear hok hbase hBB
    obtain ⟨st0, hst0⟩ : ∃ s, s = Fs.new 1000 := ⟨_, rfl⟩
    rw [← hst0] at HOK
    have HR0 : Hid (Sg.RepS st0 [] ∧ st0.room = 1000 ∧ st0.changes.length = 0) := by rw [hst0]; exact Lib.hid ⟨⟨Fs.Rep.new 1000, fun s h => by simp at h, fun s h => by simp at h⟩, rfl, rfl⟩
    clear hst0
    have HS0 := Lib.hid (HR0.out.1.rep.small (by decide) (by rw [HR0.out.2.2]; omega) (fun s h => by simp [Sg.segs] at h) (by rw [HR0.out.2.1]; omega))
    have HC1 := Lib.hid (HR0.out.1.create (id := 1) (by decide) (fun s h => by simp at h) (by decide))
    go_wp2_with fail
    refine (segCreate_any base BB st0 V _ 1 w3 HOK.out HE3.out hbb HS0.out).mono ?_
    rintro e w4 ⟨rfl, hp4⟩
    rw [HC1.out.1]
    have hb4 := hp4.below0 HOK.out hbb
    obtain ⟨V4, own4, h4, _, _⟩ := hp4
    have H4 := Lib.hid h4
    have HB4 := Lib.hid (HB3.out.trans (hb4.mono hw2))
    have HE4 := Lib.hid (HE3.out.below hb4)
    have hs4 := hb4.size
    clear h4 hb4
    obtain ⟨st1, hst1⟩ : ∃ s, s = (Sg.create st0 1).1 := ⟨_, rfl⟩
    rw [← hst1] at H4 HC1
    clear hst1
    have HS1 := Lib.hid (HC1.out.2.1.rep.small (by decide) (by rw [HC1.out.2.2.2]; simp) (fun s h => by simp [Sg.segs, Fr.flat] at h; subst h; simp) (by rw [HC1.out.2.2.1, HR0.out.2.1]; omega))
    have hcv := Joins.run_convert_bytes_const_at (P := Tryd.prog) w4 42 5 #[.int .u8 120] 1 1 w4.heap.size rfl Tryd.underlying42 Tryd.underlying5
    have hbA : Below w4.heap.size w4 (w4.alloc (.cells #[.int .u8 120] 5 (1, 2))) := (Below.refl _ _).alloc (Nat.le_refl _) _
    have hpa := prts_lit1 42 (byts_lit (w := w4) [120] #[.int .u8 120] (1, 2) rfl)
    rw [show (w4.alloc (.cells #[.int .u8 120] 5 (1, 2))).heap.size = w4.heap.size + 1 by simp] at hpa
    have HPA := Lib.hid hpa
    clear hpa
    have hbA2 : Below w4.heap.size w4 ((w4.alloc (.cells #[.int .u8 120] 5 (1, 2))).alloc (.cells #[.slice (some ⟨w4.heap.size, 0, none⟩) 1 1] 42)) := hbA.alloc (by simp) _
    have HBA := Lib.hid hbA2
    clear hbA hbA2
    go_wp2_with fail
    refine (segAppend_any base BB st1 V4 own4 1 2 _ [[120]] _ (H4.out.kept (kept_below HBA.out)) (HE4.out.below (HBA.out.mono (by omega))) (by have := HBA.out.size; omega) HS1.out HPA.out (by simp) (by simp) HC1.out.2.1.rep.how).mono ?_
    rintro e w5 ⟨rfl, hp5⟩
    have HC2 := Lib.hid (HC1.out.2.1.append (i := 0) (s := (1, [])) rfl (k := 2) (p := [120]) (by decide) (by simp [Fr.flat]) (by rw [HC1.out.2.2.1, HR0.out.2.1]; simp [Sg.size, Fr.flat]))
    have hfl : ([[120]] : List (List UInt8)).flatten = [120] := rfl
    rw [hfl] at hp5 ⊢
    rw [show (Sg.append st1 1 2 [120]).2 = 0 from HC2.out.1]
    have hbw4 : base ≤ w4.heap.size := by omega
    have hb5 := hp5.below0 (H4.out.kept (kept_below HBA.out)) (Nat.le_trans hbw4 HBA.out.size)
    obtain ⟨V5, own5, h5, _, _⟩ := hp5
    have H5 := Lib.hid h5
    have HB5 := Lib.hid (HB4.out.trans ((HBA.out.mono HB4.out.size).trans (hb5.mono hw2)))
    have HE5 := Lib.hid ((HE4.out.below (HBA.out.mono hbw4)).below hb5)
    have hs5 : base ≤ w5.heap.size := Nat.le_trans (Nat.le_trans hbw4 HBA.out.size) hb5.size
    clear h5 hb5 hfl hcv
    obtain ⟨st2, hst2⟩ : ∃ s, s = (Sg.append st1 1 2 [120]).1 := ⟨_, rfl⟩
    have HC3 : Hid (Sg.RepS st2 [(1, [(2, [120])])] ∧ st2.room = st1.room ∧ st2.changes = st1.changes) := by rw [hst2]; exact Lib.hid HC2.out.2
    rw [← hst2] at H5
    clear hst2 HC2
    have HS2 := Lib.hid (HC3.out.1.rep.small (by decide) (by rw [HC3.out.2.2, HC1.out.2.2.2]; simp) (fun s h => by simp [Sg.segs, Fr.flat] at h; subst h; rw [Fr.bytes_len]; simp) (by rw [HC3.out.2.1, HC1.out.2.2.1, HR0.out.2.1]; omega))
    have HRD : Hid (Sg.read st2 [1] = ([(1, (2, [120]))], true, 0)) := Lib.hid HC3.out.1.read
    have hb5A : Below w5.heap.size w5 (w5.alloc (.cells #[.int .i64 1] 3)) := (Below.refl _ _).alloc (Nat.le_refl _) _
    have HB5A := Lib.hid hb5A
    have HIN := Lib.hid (ints_lit (w := w5) [1] #[.int .i64 1] rfl)
    clear hb5A
    go_wp2_with fail
    refine (segRead_any base BB st2 V5 own5 _ [1] _ (H5.out.kept (kept_below HB5A.out)) (HE5.out.below (HB5A.out.mono hs5)) (Nat.le_trans hs5 HB5A.out.size) HS2.out HIN.out (by simp)).mono ?_
    rintro e w6 ⟨hb6, lv, ps, rfl, hEN, hps⟩
    rw [HRD.out] at hps ⊢
    have HB6 := Lib.hid ((HB5.out.trans (HB5A.out.mono HB5.out.size)).trans (hb6.mono (Nat.le_trans HB5.out.size HB5A.out.size)))
    clear hb6
    match ps, hps with
    | [((sg, kd, pl), pv)], hps =>
      simp only [List.map_cons, List.map_nil, List.cons.injEq, and_true, Prod.mk.injEq] at hps
      obtain ⟨rfl, rfl, rfl⟩ := hps
      obtain ⟨g, c, hlv⟩ := row_form hEN.row (by simp)
      simp only [List.length_singleton] at hlv
      subst hlv
      obtain ⟨c0, c1, c2⟩ := hEN.at (i := 0) (p := ((1, 2, [120]), pv)) rfl
      have hpay := hEN.pay _ List.mem_cons_self
      obtain ⟨pa, pn, pc, hpv, HPN⟩ := OwnB.form3 hpay
      simp only at hpv c0 c1 c2 hpay
      subst hpv
      have hcv := convB hpay.byts
      simp only [Nat.zero_mul, Nat.zero_add] at c0 c1 c2
      have HH := Lib.hid hpay
      clear hEN hpay
      go_wp2_with fail
      go_ret
      exact ⟨rfl, HB6.out⟩
end Go.Proofs.YtcinagglbkbmkaaDoor
namespace Go.Proofs.YtcinagglbkbmkaaDoor
set_option linter.unusedSimpArgs false
set_option linter.unusedVariables false
open Go Go.RowKit
open Go.Maps Go.Sort Go.Shelf

def keysM_ren : Go.Shelf.Ren := ⟨fun | 7 => 23 | 10 => 41 | n => n, fun | 23 => 35 | 26 => 9 | 3 => 3 | 28 => 69 | 0 => 0 | 27 => 68 | 33 => 101 | 4 => 4 | n => n, fun n => n⟩
theorem keysM_lays : Go.Proofs.SlLaysZ.n7 Tryd.prog keysM_ren := {
  mixed := by kernel_rfl
  f7 := ⟨Tryd.f23.name, by decide, Tryd.func23.trans (congrArg some (by kernel_rfl))⟩
  f10 := ⟨Tryd.f41.name, by decide, Tryd.func41.trans (congrArg some (by kernel_rfl))⟩
  t0 := Tryd.underlying0
  a0 := Tryd.isAgg0
  z0 := Tryd.sizeOf0
  v0 := Tryd.zeroValue0
  t4 := Tryd.underlying4
  a4 := Tryd.isAgg4
  z4 := Tryd.sizeOf4
  v4 := Tryd.zeroValue4
  t23 := Tryd.underlying35
  a23 := Tryd.isAgg35
  z23 := Tryd.sizeOf35
  v23 := Tryd.zeroValue35
  t26 := Tryd.underlying9
  a26 := Tryd.isAgg9
  z26 := Tryd.sizeOf9
  v26 := Tryd.zeroValue9
  t27 := Tryd.underlying68
  a27 := Tryd.isAgg68
  z27 := Tryd.sizeOf68
  v27 := Tryd.zeroValue68
  t28 := Tryd.underlying69
  a28 := Tryd.isAgg69
  z28 := Tryd.sizeOf69
  v28 := Tryd.zeroValue69
  t33 := Tryd.underlying101
  a33 := Tryd.isAgg101
  z33 := Tryd.sizeOf101
  v33 := Tryd.zeroValue101 }
def sortedS_ren : Go.Shelf.Ren := ⟨fun | 6 => 22 | 8 => 39 | 9 => 40 | 11 => 50 | 13 => 52 | 12 => 51 | 23 => 69 | 24 => 70 | 14 => 60 | 15 => 61 | 16 => 62 | 17 => 63 | 18 => 64 | 19 => 65 | 20 => 66 | 21 => 67 | 22 => 68 | 25 => 78 | 26 => 79 | 27 => 80 | 28 => 81 | 29 => 82 | 30 => 83 | 31 => 90 | n => n, fun | 26 => 9 | 28 => 69 | 24 => 41 | 0 => 0 | 3 => 3 | 37 => 40 | 48 => 94 | 50 => 129 | 4 => 4 | 40 => 122 | 39 => 121 | 45 => 55 | 5 => 5 | 9 => 9 | 51 => 140 | 55 => 144 | 57 => 156 | 58 => 157 | 33 => 101 | n => n, fun n => n⟩
theorem sortedS_lays : Go.Proofs.SlLaysZ.n6 Tryd.prog sortedS_ren := {
  mixed := by kernel_rfl
  f6 := ⟨Tryd.f22.name, by decide, Tryd.func22.trans (congrArg some (by kernel_rfl))⟩
  f8 := ⟨Tryd.f39.name, by decide, Tryd.func39.trans (congrArg some (by kernel_rfl))⟩
  f11 := ⟨Tryd.f50.name, by decide, Tryd.func50.trans (congrArg some (by kernel_rfl))⟩
  t0 := Tryd.underlying0
  a0 := Tryd.isAgg0
  z0 := Tryd.sizeOf0
  v0 := Tryd.zeroValue0
  t24 := Tryd.underlying41
  a24 := Tryd.isAgg41
  z24 := Tryd.sizeOf41
  v24 := Tryd.zeroValue41
  t26 := Tryd.underlying9
  a26 := Tryd.isAgg9
  z26 := Tryd.sizeOf9
  v26 := Tryd.zeroValue9
  t28 := Tryd.underlying69
  a28 := Tryd.isAgg69
  z28 := Tryd.sizeOf69
  v28 := Tryd.zeroValue69
  i26 := by kernel_rfl }
def sortS_ren : Go.Shelf.Ren := ⟨fun | 6 => 40 | 8 => 52 | 9 => 51 | 19 => 69 | 20 => 70 | 21 => 60 | 22 => 61 | 23 => 62 | 24 => 63 | 25 => 64 | 26 => 65 | 27 => 66 | 28 => 67 | 29 => 68 | 36 => 78 | 31 => 79 | 32 => 80 | 37 => 81 | 38 => 82 | 39 => 83 | 41 => 90 | n => n, fun | 27 => 41 | 29 => 9 | 3 => 3 | 32 => 40 | 26 => 41 | 0 => 0 | 44 => 94 | 46 => 129 | 4 => 4 | 36 => 122 | 35 => 121 | 41 => 55 | 5 => 5 | 9 => 9 | 53 => 140 | 57 => 144 | 63 => 156 | 64 => 157 | n => n, fun n => n⟩
theorem sortS_lays : Go.Proofs.SlLaysM.n6 Tryd.prog sortS_ren := {
  mixed := by kernel_rfl
  f6 := ⟨Tryd.f40.name, by decide, Tryd.func40.trans (congrArg some (by kernel_rfl))⟩
  f8 := Tryd.func52.trans (congrArg some (by kernel_rfl))
  f9 := ⟨Tryd.f51.name, by decide, Tryd.func51.trans (congrArg some (by kernel_rfl))⟩
  f19 := Tryd.func69.trans (congrArg some (by kernel_rfl))
  f20 := Tryd.func70.trans (congrArg some (by kernel_rfl))
  f21 := ⟨Tryd.f60.name, by decide, Tryd.func60.trans (congrArg some (by kernel_rfl))⟩
  f22 := ⟨Tryd.f61.name, by decide, Tryd.func61.trans (congrArg some (by kernel_rfl))⟩
  f23 := ⟨Tryd.f62.name, by decide, Tryd.func62.trans (congrArg some (by kernel_rfl))⟩
  f24 := ⟨Tryd.f63.name, by decide, Tryd.func63.trans (congrArg some (by kernel_rfl))⟩
  f25 := ⟨Tryd.f64.name, by decide, Tryd.func64.trans (congrArg some (by kernel_rfl))⟩
  f26 := ⟨Tryd.f65.name, by decide, Tryd.func65.trans (congrArg some (by kernel_rfl))⟩
  f27 := ⟨Tryd.f66.name, by decide, Tryd.func66.trans (congrArg some (by kernel_rfl))⟩
  f28 := ⟨Tryd.f67.name, by decide, Tryd.func67.trans (congrArg some (by kernel_rfl))⟩
  f29 := ⟨Tryd.f68.name, by decide, Tryd.func68.trans (congrArg some (by kernel_rfl))⟩
  f31 := Tryd.func79.trans (congrArg some (by kernel_rfl))
  f32 := Tryd.func80.trans (congrArg some (by kernel_rfl))
  f36 := ⟨Tryd.f78.name, by decide, Tryd.func78.trans (congrArg some (by kernel_rfl))⟩
  f37 := ⟨Tryd.f81.name, by decide, Tryd.func81.trans (congrArg some (by kernel_rfl))⟩
  f38 := ⟨Tryd.f82.name, by decide, Tryd.func82.trans (congrArg some (by kernel_rfl))⟩
  f39 := ⟨Tryd.f83.name, by decide, Tryd.func83.trans (congrArg some (by kernel_rfl))⟩
  f41 := ⟨Tryd.f90.name, by decide, Tryd.func90.trans (congrArg some (by kernel_rfl))⟩
  t0 := Tryd.underlying0
  a0 := Tryd.isAgg0
  z0 := Tryd.sizeOf0
  v0 := Tryd.zeroValue0
  t3 := Tryd.underlying3
  a3 := Tryd.isAgg3
  z3 := Tryd.sizeOf3
  v3 := Tryd.zeroValue3
  t4 := Tryd.underlying4
  a4 := Tryd.isAgg4
  z4 := Tryd.sizeOf4
  v4 := Tryd.zeroValue4
  t5 := Tryd.underlying5
  a5 := Tryd.isAgg5
  z5 := Tryd.sizeOf5
  v5 := Tryd.zeroValue5
  t9 := Tryd.underlying9
  a9 := Tryd.isAgg9
  z9 := Tryd.sizeOf9
  v9 := Tryd.zeroValue9
  t26 := Tryd.underlying41
  a26 := Tryd.isAgg41
  z26 := Tryd.sizeOf41
  v26 := Tryd.zeroValue41
  t27 := Tryd.underlying41
  a27 := Tryd.isAgg41
  z27 := Tryd.sizeOf41
  v27 := Tryd.zeroValue41
  t29 := Tryd.underlying9
  a29 := Tryd.isAgg9
  z29 := Tryd.sizeOf9
  v29 := Tryd.zeroValue9
  t32 := Tryd.underlying40
  a32 := Tryd.isAgg40
  z32 := Tryd.sizeOf40
  v32 := Tryd.zeroValue40
  t35 := Tryd.underlying121
  a35 := Tryd.isAgg121
  z35 := Tryd.sizeOf121
  v35 := Tryd.zeroValue121
  t36 := Tryd.underlying122
  a36 := Tryd.isAgg122
  z36 := Tryd.sizeOf122
  v36 := Tryd.zeroValue122
  t41 := Tryd.underlying55
  a41 := Tryd.isAgg55
  z41 := Tryd.sizeOf55
  v41 := Tryd.zeroValue55
  t44 := Tryd.underlying94
  a44 := Tryd.isAgg94
  z44 := Tryd.sizeOf94
  v44 := Tryd.zeroValue94
  t46 := Tryd.underlying129
  a46 := Tryd.isAgg129
  z46 := Tryd.sizeOf129
  v46 := Tryd.zeroValue129
  t53 := Tryd.underlying140
  a53 := Tryd.isAgg140
  z53 := Tryd.sizeOf140
  v53 := Tryd.zeroValue140
  t57 := Tryd.underlying144
  a57 := Tryd.isAgg144
  z57 := Tryd.sizeOf144
  v57 := Tryd.zeroValue144
  t63 := Tryd.underlying156
  a63 := Tryd.isAgg156
  z63 := Tryd.sizeOf156
  v63 := Tryd.zeroValue156
  t64 := Tryd.underlying157
  a64 := Tryd.isAgg157
  z64 := Tryd.sizeOf157
  v64 := Tryd.zeroValue157 }
theorem sortsIn_any (m : Nat) : AnyZ.SortsIn Tryd.prog sortedS_ren Fence.wide m :=
  ⟨fun blk off cap ss W hH hblk hsz => callsIn_wide.2 (AnyM.slices_Sort_string sortS_lays blk off cap ss W hH hblk hsz),
   fun p cap W => callsIn_wide.2 (AnyM.slices_Sort_string_none sortS_lays p cap W)⟩
theorem mapsKeys_any (mb : Option Nat) (W : World) : CallsIn Fence.wide 5 Tryd.prog 23 #[.map mb] W fun e w' => e = .returned (.func (.func 41) #[] #[.pointer (some ⟨W.heap.size, 0, none⟩)]) ∧ w' = W.alloc (.cells #[.map mb] 35) :=
  AnyZ.keys_in keysM_lays Fence.wide 5 trivial rfl mb W
set_option maxHeartbeats 1000000 in
theorem sortedKeys_any (b nn : Nat) (D0 : DataW Unit) (R : Value → Option (DataW Unit × List MemPlace)) (w : World) (hown : w.ownsMap Tryd.prog 9 R b nn D0) (hmax : Maps.size D0 ≤ maxLen) (hbytes : Maps.size D0 * 16 ≤ 140737488355328) :
    CallsIn Fence.wide 5 Tryd.prog 22 #[.func (.func 41) #[] #[.pointer (some ⟨w.heap.size, 0, none⟩)]] (w.alloc (.cells #[.map (some b)] 35)) fun e w' => ∃ (v : Value) (ss : List (List UInt8)), e = .returned v ∧ ss.Perm (strKeys D0) ∧
      w'.ownsRow (w.alloc (.cells #[.map (some b)] 35)).heap.size 9 1 v ss.length ((ss.mergeSort (fun x y => decide (x ≤ y))).map encStr) ∧ (v = .slice none 0 0 ↔ ss = []) ∧ Below (w.alloc (.cells #[.map (some b)] 35)).heap.size (w.alloc (.cells #[.map (some b)] 35)) w' := by
  have hbl := hown.lt
  have hseq : SeqGives Fence.wide 2 Tryd.prog 41 #[.pointer (some ⟨w.heap.size, 0, none⟩)] encStr (fun ss => ss.Perm (strKeys D0)) (Maps.size D0) (w.alloc (.cells #[.map (some b)] 35)) :=
    AnyZ.keys_gives (ρ := keysM_ren) { keysM_lays with } Fence.wide _ trivial rfl (by omega) w.heap.size b nn D0 _ (by simp) (by simp) (by
      obtain ⟨es, clock, hb, Ft, hs, hD⟩ := hown
      exact ⟨es, clock, (Below.heap_alloc _ _ b hbl).trans hb, Ft, hs, hD⟩)
  exact AnyZ.sorted_in sortedS_lays Fence.wide 5 trivial trivial trivial trivial rfl (by omega) (sortsIn_any _) (enters_of Tryd.func40 (by kernel_rfl) rfl) 41 #[.pointer (some ⟨w.heap.size, 0, none⟩)] trivial (enters_of Tryd.func41 (by kernel_rfl) rfl) _ _ hmax hbytes _ hseq
theorem keys_strKeys (d : Fs.Names) : strKeys (Fs.datum d) = d.map (·.1) := by
  show ((d.map Fs.ent).map fun p => strOf p.1) = _
  rw [List.map_map]
  rfl
/-- The names of a directory, as texts. -/
def strsOf (l : List (List UInt8)) : List ByteArray := l.map fun x => ⟨x.toArray⟩
theorem sortedKeys_strs {w : World} {base : Nat} {v : Value} {ss : List (List UInt8)} {d : Fs.Names} (hp : ss.Perm (strKeys (Fs.datum d))) (hrow : w.ownsRow base 9 1 v ss.length ((ss.mergeSort (fun x y => decide (x ≤ y))).map encStr)) :
    Strs w v (strsOf (Fs.keys d)) ∧ (∀ k, v.ownBlock = some k → base ≤ k ∧ k < w.heap.size) := by
  have he : ss.mergeSort (fun x y => decide (x ≤ y)) = Fs.keys d := by
    rw [keys_strKeys] at hp
    exact mergeSort_of_perm hp
  rw [he] at hrow
  have hl : (strsOf (Fs.keys d)).length = ss.length := by
    unfold strsOf
    rw [← he, List.length_map, List.length_mergeSort]
  refine ⟨?_, fun k hk => hrow.lt k hk⟩
  rcases hrow.2 with ⟨h1, h2⟩ | ⟨g, cap, cur, h1, hg, hb, hc, hm⟩
  · exact ⟨none, 0, by rw [h1, hl, h2], fun i s hi => by
      have := (List.getElem?_eq_some_iff.1 hi).1
      omega⟩
  · refine ⟨some ⟨g, 0, none⟩, cap, by rw [hl]; exact h1, fun i s hi => ⟨g, 0, rfl, heap_lt hb, ?_⟩⟩
    unfold strsOf at hi
    rw [List.getElem?_map] at hi
    cases hx : (Fs.keys d)[i]? with
    | none => rw [hx] at hi; cases hi
    | some x =>
      rw [hx] at hi
      simp at hi; subst hi
      have := World.ownsRow.cells hrow (g := g) (by rw [h1]; rfl) i (encStr x) (by rw [List.getElem?_map, hx]; rfl)
      rw [addr_add] at this
      rw [Nat.zero_add]
      exact this
end Go.Proofs.YtcinagglbkbmkaaDoor
