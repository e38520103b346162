/-
  The file system in memory; a step, walked. The file system: open, Sync, SyncDir, walked.
-/
import Derived.Test.YtcinagglbkbmkaaDoorZk2
namespace Go.Proofs.YtcinagglbkbmkaaDoor
set_option linter.unusedSimpArgs false
set_option linter.unusedVariables false
open Go Go.RowKit
open Go.Maps

namespace Fs
structure St where
  steps : Int
  left : Int
  plan : List Int
  room : Int
  files : List (List UInt8 × Nat)
  dir : Names
  sure : Names
  changes : List Names

/-- How a step goes: what was planned, the error. -/
def code (how : Int) : Int := if how = 0 then 0 else if how = 2 then 21 else 20
def step (st : St) : St × Int × Int :=
  if st.left = 0 then (st, 0, 22)
  else ({ st with steps := wrap64 (st.steps + 1), left := if 0 < st.left then st.left - 1 else st.left, plan := st.plan.tail }, st.plan.headD 0, code (st.plan.headD 0))
end Fs

/-- The values in the cells. -/
structure FsV where
  pv : Value
  fv : Value
  cv : Value
  md : Nat
  ms : Nat
  fb : List Nat
  dv : List Value

def u8Cells (l : List UInt8) : List Value := l.map fun c => .int .u8 c.toNat
def nameCells (l : Fs.Names) : List Value := l.flatMap fun p => [.string ⟨p.1.toArray⟩, .int .i64 p.2]

def PlanAt (w : World) (own : Nat → Tag) (v : Value) (l : List Int) : Prop :=
  ∃ a cap, v = .slice a l.length cap ∧ l.length ≤ cap ∧ ∀ (i : Nat) z, l[i]? = some z → ∃ b off, a = some ⟨b, off, none⟩ ∧ own b = .plan ∧ b < w.heap.size ∧ w.cell? ⟨b, off + i, none⟩ = some (.int .i64 z)
/-- A list of changes, done at once. -/
def ChgOne (w : World) (own : Nat → Tag) (v : Value) (l : Fs.Names) : Prop :=
  ∃ b cap cur, v = .slice (some ⟨b, 0, none⟩) l.length cap ∧ own b = .chgs ∧ w.heap[b]? = some (.cells cur 91 (0, 0)) ∧ cur.toList.take (l.length * 2) = nameCells l
def ChgAt (w : World) (base : Nat) (own : Nat → Tag) (v : Value) (l : List Fs.Names) : Prop :=
  ∃ vs, w.ownsRow base 65 1 v l.length vs ∧ (∀ k, v.ownBlock = some k → own k = .chg) ∧ ∀ (i : Nat) x y, vs[i]? = some x → l[i]? = some y → ChgOne w own x y
structure FileAt (w : World) (base : Nat) (own : Nat → Tag) (i : Nat) (f : List UInt8 × Nat) (b : Nat) (d : Value) : Prop where
  blk : w.heap[b]? = some (.cells #[d, .int .i64 f.2] 73 (0, 0))
  tag : own b = .file i
  row : w.ownsRow base 5 1 d f.1.length (u8Cells f.1)
  tagD : ∀ k, d.ownBlock = some k → own k = .data i

def FsCells (st : Fs.St) (V : FsV) : Array Value := #[.int .i64 st.steps, .int .i64 st.left, V.pv, .int .i64 st.room, V.fv, .map (some V.md), .map (some V.ms), V.cv]
structure FsAt (base B : Nat) (st : Fs.St) (V : FsV) (own : Nat → Tag) (w : World) : Prop where
  root : w.heap[B]? = some (.cells (FsCells st V) 38 (0, 0))
  tB : own B = .root
  lo : base ≤ B
  left : -1 ≤ st.left ∧ st.left ≤ 9223372036854775807
  plan : PlanAt w own V.pv st.plan
  files : w.ownsRow base 71 1 V.fv st.files.length (V.fb.map fun b => .pointer (some ⟨b, 0, none⟩))
  tfiles : ∀ k, V.fv.ownBlock = some k → own k = .files
  nfb : V.fb.length = st.files.length
  ndv : V.dv.length = st.files.length
  file : ∀ (i : Nat) f b d, st.files[i]? = some f → V.fb[i]? = some b → V.dv[i]? = some d → FileAt w base own i f b d
  dir : MapOf w V.md st.dir
  tdir : own V.md = .dir
  sure : MapOf w V.ms st.sure
  tsure : own V.ms = .sure
  chg : ChgAt w base own V.cv st.changes
  known : ∀ p ∈ st.dir, 0 ≤ p.2 ∧ p.2 < st.files.length
  bl : base ≤ V.md ∧ base ≤ V.ms

section
variable {base B : Nat} {st : Fs.St} {V : FsV} {own own' : Nat → Tag} {w w' : World} {T : Tag → Prop}

theorem PlanAt.kept {v : Value} {l : List Int} (h : PlanAt w own v l) (hk : Kept own T w w') (hT : ¬ T .plan) : PlanAt w' own v l := by
  obtain ⟨a, cap, h1, h2, h3⟩ := h
  refine ⟨a, cap, h1, h2, fun i z hi => ?_⟩
  obtain ⟨b, off, e, ht, hb, hc⟩ := h3 i z hi
  exact ⟨b, off, e, ht, Nat.lt_of_lt_of_le hb hk.size, by rw [World.cell?_of_block (hk.block b hb (by rw [ht]; exact hT))]; exact hc⟩
theorem PlanAt.tags {v : Value} {l : List Int} (h : PlanAt w own v l) (ho : ∀ k, k < w.heap.size → own k ≠ .other → own' k = own k) : PlanAt w own' v l := by
  obtain ⟨a, cap, h1, h2, h3⟩ := h
  refine ⟨a, cap, h1, h2, fun i z hi => ?_⟩
  obtain ⟨b, off, e, ht, hb, hc⟩ := h3 i z hi
  exact ⟨b, off, e, (ho b hb (by rw [ht]; simp)).trans ht, hb, hc⟩
theorem ChgOne.kept {v : Value} {l : Fs.Names} (h : ChgOne w own v l) (hk : Kept own T w w') (hT : ¬ T .chgs) : ChgOne w' own v l := by
  obtain ⟨b, cap, cur, h1, h2, h3, h4⟩ := h
  exact ⟨b, cap, cur, h1, h2, by rw [hk.block b (heap_lt h3) (by rw [h2]; exact hT)]; exact h3, h4⟩
theorem ChgOne.tags {v : Value} {l : Fs.Names} (h : ChgOne w own v l) (ho : ∀ k, k < w.heap.size → own k ≠ .other → own' k = own k) : ChgOne w own' v l := by
  obtain ⟨b, cap, cur, h1, h2, h3, h4⟩ := h
  exact ⟨b, cap, cur, h1, (ho b (heap_lt h3) (by rw [h2]; simp)).trans h2, h3, h4⟩
theorem ChgAt.kept {v : Value} {l : List Fs.Names} (h : ChgAt w base own v l) (hk : Kept own T w w') (hT : ¬ T .chg) (hT2 : ¬ T .chgs) : ChgAt w' base own v l := by
  obtain ⟨vs, h1, h2, h3⟩ := h
  exact ⟨vs, row_kept h1 (fun g hg => hk.block g (row_block_lt h1 g hg).2 (by rw [h2 g hg]; exact hT)), h2, fun i x y hx hy => (h3 i x y hx hy).kept hk hT2⟩
theorem ChgAt.tags {v : Value} {l : List Fs.Names} (h : ChgAt w base own v l) (ho : ∀ k, k < w.heap.size → own k ≠ .other → own' k = own k) : ChgAt w base own' v l := by
  obtain ⟨vs, h1, h2, h3⟩ := h
  exact ⟨vs, h1, fun k hk => (ho k (row_block_lt h1 k hk).2 (by rw [h2 k hk]; simp)).trans (h2 k hk), fun i x y hx hy => (h3 i x y hx hy).tags ho⟩
theorem FileAt.kept {i b : Nat} {f : List UInt8 × Nat} {d : Value} (h : FileAt w base own i f b d) (hk : Kept own T w w') (h1 : ¬ T (.file i)) (h2 : ¬ T (.data i)) : FileAt w' base own i f b d :=
  ⟨by rw [hk.block b (heap_lt h.blk) (by rw [h.tag]; exact h1)]; exact h.blk, h.tag, row_kept h.row (fun g hg => hk.block g (row_block_lt h.row g hg).2 (by rw [h.tagD g hg]; exact h2)), h.tagD⟩
theorem FileAt.tags {i b : Nat} {f : List UInt8 × Nat} {d : Value} (h : FileAt w base own i f b d) (ho : ∀ k, k < w.heap.size → own k ≠ .other → own' k = own k) : FileAt w base own' i f b d :=
  ⟨h.blk, (ho b (heap_lt h.blk) (by rw [h.tag]; simp)).trans h.tag, h.row, fun k hk => (ho k (row_block_lt h.row k hk).2 (by rw [h.tagD k hk]; simp)).trans (h.tagD k hk)⟩

/-- What touches none of its blocks keeps it. -/
theorem FsAt.kept (h : FsAt base B st V own w) (hk : Kept own (· = .other) w w') : FsAt base B st V own w' where
  root := by rw [hk.block B (heap_lt h.root) (by rw [h.tB]; simp)]; exact h.root
  tB := h.tB
  lo := h.lo
  left := h.left
  plan := h.plan.kept hk (by simp)
  files := row_kept h.files (fun g hg => hk.block g (row_block_lt h.files g hg).2 (by rw [h.tfiles g hg]; simp))
  tfiles := h.tfiles
  nfb := h.nfb
  ndv := h.ndv
  file := fun i f b d h1 h2 h3 => (h.file i f b d h1 h2 h3).kept hk (by simp) (by simp)
  dir := h.dir.heap (hk.block _ h.dir.lt (by rw [h.tdir]; simp))
  tdir := h.tdir
  sure := h.sure.heap (hk.block _ h.sure.lt (by rw [h.tsure]; simp))
  tsure := h.tsure
  chg := h.chg.kept hk (by simp) (by simp)
  known := h.known
  bl := h.bl
theorem FsAt.tags (h : FsAt base B st V own w) (ho : ∀ k, k < w.heap.size → own k ≠ .other → own' k = own k) : FsAt base B st V own' w where
  root := h.root
  tB := (ho B (heap_lt h.root) (by rw [h.tB]; simp)).trans h.tB
  lo := h.lo
  left := h.left
  plan := h.plan.tags ho
  files := h.files
  tfiles := fun k hk => (ho k (row_block_lt h.files k hk).2 (by rw [h.tfiles k hk]; simp)).trans (h.tfiles k hk)
  nfb := h.nfb
  ndv := h.ndv
  file := fun i f b d h1 h2 h3 => (h.file i f b d h1 h2 h3).tags ho
  dir := h.dir
  tdir := (ho _ h.dir.lt (by rw [h.tdir]; simp)).trans h.tdir
  sure := h.sure
  tsure := (ho _ h.sure.lt (by rw [h.tsure]; simp)).trans h.tsure
  chg := h.chg.tags ho
  known := h.known
  bl := h.bl
/-- The struct's own cells turn: numbers, the plan. -/
theorem FsAt.power (h : FsAt base B st V own w) (hk : Kept own (· = .root) w w') {s l : Int} {p : List Int} {pv : Value} (hl : -1 ≤ l ∧ l ≤ 9223372036854775807) (hp : PlanAt w own pv p)
    (hr : w'.heap[B]? = some (.cells (FsCells { st with steps := s, left := l, plan := p } { V with pv := pv }) 38 (0, 0))) :
    FsAt base B { st with steps := s, left := l, plan := p } { V with pv := pv } own w' where
  root := hr
  tB := h.tB
  lo := h.lo
  left := hl
  plan := hp.kept hk (by simp)
  files := row_kept h.files (fun g hg => hk.block g (row_block_lt h.files g hg).2 (by rw [h.tfiles g hg]; simp))
  tfiles := h.tfiles
  nfb := h.nfb
  ndv := h.ndv
  file := fun i f b d h1 h2 h3 => (h.file i f b d h1 h2 h3).kept hk (by simp) (by simp)
  dir := h.dir.heap (hk.block _ h.dir.lt (by rw [h.tdir]; simp))
  tdir := h.tdir
  sure := h.sure.heap (hk.block _ h.sure.lt (by rw [h.tsure]; simp))
  tsure := h.tsure
  chg := h.chg.kept hk (by simp) (by simp)
  known := h.known
  bl := h.bl
end

/-- The struct's cells. -/
theorem root_cell {w : World} {B : Nat} {cs : Array Value} {t : TypeId} (h : w.heap[B]? = some (.cells cs t (0, 0))) (k : Nat) (v : Value) (hk : cs[k]? = some v) : w.cell? ⟨B, k, none⟩ = some v := by
  rw [Lib.cell_of_heap h]; exact hk
theorem root_frozen {w : World} {B : Nat} {cs : Array Value} {t : TypeId} (h : w.heap[B]? = some (.cells cs t (0, 0))) (k : Nat) : w.frozen? ⟨B, k, none⟩ = false := Lib.frozen_of_heap h k

/-- What a step leaves. -/
def StepPost (base B : Nat) (st : Fs.St) (V : FsV) (own : Nat → Tag) (w : World) (e : Ending) (w' : World) : Prop :=
  ∃ pv, e = .returned (.tuple #[.int .i64 (Fs.step st).2.1, .int .i64 (Fs.step st).2.2]) ∧ FsAt base B (Fs.step st).1 { V with pv := pv } own w' ∧ Kept own (· = .root) w w'

/-- Two cells of the struct. -/
theorem root2 {w : World} {B : Nat} {st : Fs.St} {V : FsV} {t : TypeId} (h : w.heap[B]? = some (.cells (FsCells st V) t (0, 0))) (s l : Int) :
    ((w.setCell ⟨B, 1, none⟩ (.int .i64 l)).setCell ⟨B, 0, none⟩ (.int .i64 s)).heap[B]? = some (.cells (FsCells { st with steps := s, left := l } V) t (0, 0)) :=
  heap_set (heap_set h _) _
theorem root3 {w : World} {B : Nat} {st : Fs.St} {V : FsV} {t : TypeId} (h : w.heap[B]? = some (.cells (FsCells st V) t (0, 0))) (s l : Int) (pv : Value) :
    (((w.setCell ⟨B, 1, none⟩ (.int .i64 l)).setCell ⟨B, 0, none⟩ (.int .i64 s)).setCell ⟨B, 2, none⟩ pv).heap[B]? = some (.cells (FsCells { st with steps := s, left := l } { V with pv := pv }) t (0, 0)) :=
  heap_set (heap_set (heap_set h _) _) _
theorem kept2 {own : Nat → Tag} {w : World} {B : Nat} (tB : own B = .root) (s l : Value) : Kept own (· = .root) w ((w.setCell ⟨B, 1, none⟩ l).setCell ⟨B, 0, none⟩ s) :=
  ((Kept.refl _ _ _).setCell ⟨B, 1, none⟩ tB _).setCell ⟨B, 0, none⟩ tB _
theorem kept3 {own : Nat → Tag} {w : World} {B : Nat} (tB : own B = .root) (s l pv : Value) : Kept own (· = .root) w (((w.setCell ⟨B, 1, none⟩ l).setCell ⟨B, 0, none⟩ s).setCell ⟨B, 2, none⟩ pv) :=
  (kept2 tB s l).setCell ⟨B, 2, none⟩ tB _
theorem plan_tail {w : World} {own : Nat → Tag} {gb go cap : Nat} {z : Int} {r : List Int} (h : PlanAt w own (.slice (some ⟨gb, go, none⟩) (r.length + 1) cap) (z :: r)) (hc : r.length + 1 ≤ cap) (a : Option Addr)
    (ha : 0 < r.length → a = some ⟨gb, go + 1, none⟩) : PlanAt w own (.slice a r.length (cap - 1)) r := by
  obtain ⟨a', cap', h1, h2, h3⟩ := h
  refine ⟨a, cap - 1, rfl, by omega, fun i x hi => ?_⟩
  have hi2 : (z :: r)[i + 1]? = some x := by simpa using hi
  obtain ⟨b, off, e, ht, hb, hcl⟩ := h3 (i + 1) x hi2
  simp only [Value.slice.injEq] at h1
  rw [← h1.1] at e
  simp only [Option.some.injEq, Addr.mk.injEq, and_true] at e
  obtain ⟨rfl, rfl⟩ := e
  have hr : 0 < r.length := by
    have := (List.getElem?_eq_some_iff.1 hi).1
    omega
  exact ⟨gb, go + 1, ha hr, ht, hb, by rw [show go + 1 + i = go + (i + 1) by omega]; exact hcl⟩
set_option maxHeartbeats 1000000 in
set_option maxRecDepth 100000 in
theorem step_any (base B : Nat) (st : Fs.St) (V : FsV) (own : Nat → Tag) (w : World) (h : FsAt base B st V own w) :
    Calls Tryd.prog 31 #[.pointer (some ⟨B, 0, none⟩)] w (StepPost base B st V own w) := by
  have c0 : w.cell? ⟨B, 0, none⟩ = some (.int .i64 st.steps) := root_cell h.root 0 _ rfl
  have c1 : w.cell? ⟨B, 1, none⟩ = some (.int .i64 st.left) := root_cell h.root 1 _ rfl
  have c2 : w.cell? ⟨B, 2, none⟩ = some V.pv := root_cell h.root 2 _ rfl
  have f0 := root_frozen h.root 0
  have f1 := root_frozen h.root 1
  have f2 := root_frozen h.root 2
  obtain ⟨hl1, hl2⟩ := h.left
  obtain ⟨pa, pc, hpv, hpc, hpl⟩ := h.plan
  rw [hpv] at c2
  have HPV := Lib.hid hpv
  have H := Lib.hid h
  clear h hpv
  go_enter Tryd.func31, Tryd.ntmps31
  by_cases h0 : st.left = 0
  · have HE : Hid (Fs.step st = (st, 0, 22)) := by unfold Fs.step; rw [if_pos h0]; exact Lib.hid rfl
    go_wp2
    refine bodyPost_ret (v := .tuple #[.int .i64 0, .int .i64 22]) (by simp [results, Tryd.results31, go_sem]) rfl ?_
    unfold StepPost
    rw [HE.out]
    exact ⟨V.pv, rfl, H.out, Kept.refl _ _ _⟩
  · have hlw : wrap64 (st.left - 1) = st.left - 1 := by unfold wrap64; omega
    by_cases h1 : 0 < st.left
    · have hq : -1 ≤ st.left - 1 := by omega
      have hnew : -1 ≤ st.left - 1 ∧ st.left - 1 ≤ 9223372036854775807 := by omega
      have HE : Hid (Fs.step st = ({ st with steps := wrap64 (st.steps + 1), left := st.left - 1, plan := st.plan.tail }, st.plan.headD 0, Fs.code (st.plan.headD 0))) := by
        unfold Fs.step; rw [if_neg h0, if_pos h1]; exact Lib.hid rfl
      cases hp : st.plan with
      | nil =>
        have HP := Lib.hid hp
        rw [hp] at c2
        simp only [List.length_nil] at c2
        clear hp hpl hpc
        go_wp2
        refine bodyPost_ret (v := .tuple #[.int .i64 0, .int .i64 0]) (by simp [results, Tryd.results31, go_sem]) rfl ?_
        unfold StepPost
        rw [HE.out, HP.out]
        exact ⟨V.pv, rfl, H.out.power (kept2 H.out.tB _ _) hnew (by have := H.out.plan; rw [HP.out] at this; exact this) (root2 H.out.root _ _), kept2 H.out.tB _ _⟩
      | cons z r =>
        have HP := Lib.hid hp
        rw [hp] at c2 hpc
        simp only [List.length_cons] at c2 hpc
        obtain ⟨gb, go, rfl, htag, hlt, hcell⟩ := hpl 0 z (by rw [hp]; rfl)
        have hne : gb ≠ B := fun e => by rw [e, H.out.tB] at htag; cases htag
        have hcw : ∀ x y, ((w.setCell ⟨B, 1, none⟩ x).setCell ⟨B, 0, none⟩ y).cell? ⟨gb, go, none⟩ = some (.int .i64 z) := fun x y => by
          have h9 : ((w.setCell ⟨B, 1, none⟩ x).setCell ⟨B, 0, none⟩ y).heap[gb]? = w.heap[gb]? := by rw [Below.heap_setCell _ _ _ _ hne, Below.heap_setCell _ _ _ _ hne]
          have h8 : w.cell? ⟨gb, go, none⟩ = some (.int .i64 z) := hcell
          rw [← h8]
          exact World.cell?_of_block h9
        have hpc1 : (1 : Int) ≤ (pc : Int) := by omega
        have HPL := Lib.hid (show PlanAt w own (.slice (some ⟨gb, go, none⟩) (r.length + 1) pc) (z :: r) by have := H.out.plan; rw [HPV.out, HP.out] at this; exact this)
        clear hp hpl hcell hlt htag
        by_cases z0 : z = 0
        · subst z0
          go_wp2
          all_goals (refine bodyPost_ret (v := .tuple #[.int .i64 0, .int .i64 0]) (by simp [results, Tryd.results31, go_sem]) rfl ?_; unfold StepPost; rw [HE.out, HP.out]; exact ⟨_, rfl, H.out.power (kept3 H.out.tB _ _ _) hnew (by first | exact plan_tail HPL.out hpc _ (fun _ => rfl) | (subst_vars; exact plan_tail HPL.out hpc _ (fun h => by omega))) (root3 H.out.root _ _ _), kept3 H.out.tB _ _ _⟩)
        · by_cases z2 : z = 2
          · subst z2
            clear z0
            go_wp2
            all_goals (refine bodyPost_ret (v := .tuple #[.int .i64 2, .int .i64 21]) (by simp [results, Tryd.results31, go_sem]) rfl ?_; unfold StepPost; rw [HE.out, HP.out]; exact ⟨_, rfl, H.out.power (kept3 H.out.tB _ _ _) hnew (by first | exact plan_tail HPL.out hpc _ (fun _ => rfl) | (subst_vars; exact plan_tail HPL.out hpc _ (fun h => by omega))) (root3 H.out.root _ _ _), kept3 H.out.tB _ _ _⟩)
          · have q0 : (z == 0) = false := by rw [beq_eq_false_iff_ne]; exact z0
            have q2 : (z == 2) = false := by rw [beq_eq_false_iff_ne]; exact z2
            have HC : Hid (Fs.code z = 20) := by unfold Fs.code; rw [if_neg z0, if_neg z2]; exact Lib.hid rfl
            clear z0 z2
            go_wp2
            all_goals
              refine bodyPost_ret (v := .tuple #[.int .i64 z, .int .i64 20]) (by simp [results, Tryd.results31, go_sem]) rfl ?_
              unfold StepPost
              rw [HE.out, HP.out, show ((z :: r).headD 0) = z from rfl, HC.out]
              exact ⟨_, rfl, H.out.power (kept3 H.out.tB _ _ _) hnew (by first | exact plan_tail HPL.out hpc _ (fun _ => rfl) | (subst_vars; exact plan_tail HPL.out hpc _ (fun h => by omega))) (root3 H.out.root _ _ _), kept3 H.out.tB _ _ _⟩
    · have hq : st.left - 1 < -1 := by omega
      have hnew : -1 ≤ (-1 : Int) ∧ (-1 : Int) ≤ 9223372036854775807 := by omega
      have hm1 : st.left = -1 := by omega
      have HE : Hid (Fs.step st = ({ st with steps := wrap64 (st.steps + 1), left := -1, plan := st.plan.tail }, st.plan.headD 0, Fs.code (st.plan.headD 0))) := by
        unfold Fs.step; rw [if_neg h0, if_neg h1, hm1]; exact Lib.hid rfl
      clear hm1
      cases hp : st.plan with
      | nil =>
        have HP := Lib.hid hp
        rw [hp] at c2
        simp only [List.length_nil] at c2
        clear hp hpl hpc
        go_wp2
        refine bodyPost_ret (v := .tuple #[.int .i64 0, .int .i64 0]) (by simp [results, Tryd.results31, go_sem]) rfl ?_
        unfold StepPost
        rw [HE.out, HP.out]
        exact ⟨V.pv, rfl, H.out.power (kept2 H.out.tB _ _) hnew (by have := H.out.plan; rw [HP.out] at this; exact this) (root2 H.out.root _ _), kept2 H.out.tB _ _⟩
      | cons z r =>
        have HP := Lib.hid hp
        rw [hp] at c2 hpc
        simp only [List.length_cons] at c2 hpc
        obtain ⟨gb, go, rfl, htag, hlt, hcell⟩ := hpl 0 z (by rw [hp]; rfl)
        have hne : gb ≠ B := fun e => by rw [e, H.out.tB] at htag; cases htag
        have hcw : ∀ x y, ((w.setCell ⟨B, 1, none⟩ x).setCell ⟨B, 0, none⟩ y).cell? ⟨gb, go, none⟩ = some (.int .i64 z) := fun x y => by
          have h9 : ((w.setCell ⟨B, 1, none⟩ x).setCell ⟨B, 0, none⟩ y).heap[gb]? = w.heap[gb]? := by rw [Below.heap_setCell _ _ _ _ hne, Below.heap_setCell _ _ _ _ hne]
          have h8 : w.cell? ⟨gb, go, none⟩ = some (.int .i64 z) := hcell
          rw [← h8]
          exact World.cell?_of_block h9
        have hpc1 : (1 : Int) ≤ (pc : Int) := by omega
        have HPL := Lib.hid (show PlanAt w own (.slice (some ⟨gb, go, none⟩) (r.length + 1) pc) (z :: r) by have := H.out.plan; rw [HPV.out, HP.out] at this; exact this)
        clear hp hpl hcell hlt htag
        by_cases z0 : z = 0
        · subst z0
          go_wp2
          all_goals (refine bodyPost_ret (v := .tuple #[.int .i64 0, .int .i64 0]) (by simp [results, Tryd.results31, go_sem]) rfl ?_; unfold StepPost; rw [HE.out, HP.out]; exact ⟨_, rfl, H.out.power (kept3 H.out.tB _ _ _) hnew (by first | exact plan_tail HPL.out hpc _ (fun _ => rfl) | (subst_vars; exact plan_tail HPL.out hpc _ (fun h => by omega))) (root3 H.out.root _ _ _), kept3 H.out.tB _ _ _⟩)
        · by_cases z2 : z = 2
          · subst z2
            clear z0
            go_wp2
            all_goals (refine bodyPost_ret (v := .tuple #[.int .i64 2, .int .i64 21]) (by simp [results, Tryd.results31, go_sem]) rfl ?_; unfold StepPost; rw [HE.out, HP.out]; exact ⟨_, rfl, H.out.power (kept3 H.out.tB _ _ _) hnew (by first | exact plan_tail HPL.out hpc _ (fun _ => rfl) | (subst_vars; exact plan_tail HPL.out hpc _ (fun h => by omega))) (root3 H.out.root _ _ _), kept3 H.out.tB _ _ _⟩)
          · have q0 : (z == 0) = false := by rw [beq_eq_false_iff_ne]; exact z0
            have q2 : (z == 2) = false := by rw [beq_eq_false_iff_ne]; exact z2
            have HC : Hid (Fs.code z = 20) := by unfold Fs.code; rw [if_neg z0, if_neg z2]; exact Lib.hid rfl
            clear z0 z2
            go_wp2
            all_goals
              refine bodyPost_ret (v := .tuple #[.int .i64 z, .int .i64 20]) (by simp [results, Tryd.results31, go_sem]) rfl ?_
              unfold StepPost
              rw [HE.out, HP.out, show ((z :: r).headD 0) = z from rfl, HC.out]
              exact ⟨_, rfl, H.out.power (kept3 H.out.tB _ _ _) hnew (by first | exact plan_tail HPL.out hpc _ (fun _ => rfl) | (subst_vars; exact plan_tail HPL.out hpc _ (fun h => by omega))) (root3 H.out.root _ _ _), kept3 H.out.tB _ _ _⟩
end Go.Proofs.YtcinagglbkbmkaaDoor
namespace Go.Proofs.YtcinagglbkbmkaaDoor
set_option linter.unusedSimpArgs false
set_option linter.unusedVariables false
open Go Go.RowKit
open Go.Maps Go.WideMaps

namespace Fs
def openE (st : St) (n : List UInt8) : Int := if good n = false then 7 else if mhas st.dir n = false then 3 else 0
def idx (st : St) (n : List UInt8) : Nat := (mget st.dir n).toNat
theorem mget_mem {l : Names} {k : List UInt8} (h : mhas l k = true) : ∃ p ∈ l, p.1 = k ∧ p.2 = mget l k := by
  unfold mhas at h
  rw [List.any_eq_true] at h
  obtain ⟨q, hq, he⟩ := h
  unfold mget
  cases hf : l.find? (fun p => p.1 == k) with
  | none =>
    rw [List.find?_eq_none] at hf
    exact absurd he (hf q hq)
  | some p =>
    have h1 := List.find?_some hf
    exact ⟨p, List.mem_of_find?_eq_some hf, by simpa using h1, rfl⟩
end Fs

theorem strs_one {w : World} {g : Nat} {s : ByteArray} (hg : g < w.heap.size) (h : w.cell? ⟨g, 0, none⟩ = some (.string s)) : Strs w (.slice (some ⟨g, 0, none⟩) 1 1) [s] :=
  ⟨some ⟨g, 0, none⟩, 1, rfl, fun i x hi => by
    match i, hi with
    | 0, hi =>
      simp at hi
      subst hi
      exact ⟨g, 0, rfl, hg, h⟩
    | i + 1, hi => simp at hi⟩
theorem addr_add (g k : Nat) : (⟨g, 0, none⟩ : Addr).add k = ⟨g, k, none⟩ := by
  by_cases h : k = 0
  · subst h; simp [Addr.add]
  · simp [Addr.add, h]
theorem cellLt {w : World} {b k : Nat} {v : Value} (h : w.cell? ⟨b, k, none⟩ = some v) : b < w.heap.size := by
  rcases Nat.lt_or_ge b w.heap.size with h' | h'
  · exact h'
  · simp [World.cell?, Array.getElem?_eq_none h'] at h
theorem cell_new (w : World) (cs : Array Value) (t : TypeId) (k : Nat) (v : Value) (h : cs[k]? = some v) : (w.alloc (.cells cs t)).cell? ⟨w.heap.size, k, none⟩ = some v := by
  have hh : (w.alloc (.cells cs t)).heap[w.heap.size]? = some (.cells cs t (0, 0)) := by
    show (w.heap.push _)[w.heap.size]? = _
    simp
  rw [Lib.cell_of_heap hh]
  exact h

/-- What 'open' leaves. -/
def OpenPost (st : Fs.St) (V : FsV) (s : ByteArray) (w : World) (e : Ending) (w' : World) : Prop :=
  Below w.heap.size w w' ∧
  ((Fs.openE st s.data.toList = 0 ∧ ∃ f b d, st.files[Fs.idx st s.data.toList]? = some f ∧ V.fb[Fs.idx st s.data.toList]? = some b ∧ V.dv[Fs.idx st s.data.toList]? = some d ∧ e = .returned (.tuple #[.pointer (some ⟨b, 0, none⟩), .int .i64 0])) ∨
   (Fs.openE st s.data.toList ≠ 0 ∧ e = .returned (.tuple #[.pointer none, .int .i64 (Fs.openE st s.data.toList)])))

theorem ptr_cells (fb : List Nat) (i b : Nat) (h : fb[i]? = some b) : (fb.map fun b => (Value.pointer (some ⟨b, 0, none⟩) : Value))[i]? = some (.pointer (some ⟨b, 0, none⟩)) := by
  rw [List.getElem?_map, h]; rfl

set_option maxHeartbeats 1000000 in
set_option maxRecDepth 100000 in
theorem open_any (base B : Nat) (st : Fs.St) (V : FsV) (own : Nat → Tag) (s : ByteArray) (w : World) (h : FsAt base B st V own w) (hs : s.size ≤ 1000000) :
    Calls Tryd.prog 36 #[.pointer (some ⟨B, 0, none⟩), .string s] w (OpenPost st V s w) := by
  have c4 : w.cell? ⟨B, 4, none⟩ = some V.fv := root_cell h.root 4 _ rfl
  have c5 : w.cell? ⟨B, 5, none⟩ = some (.map (some V.md)) := root_cell h.root 5 _ rfl
  have hb1 : Below w.heap.size w (w.alloc (.cells #[.string s] 9)) := (Below.refl _ _).alloc (Nat.le_refl _) _
  have c5' : (w.alloc (.cells #[.string s] 9)).cell? ⟨B, 5, none⟩ = some (.map (some V.md)) := by rw [hb1.cell (cellLt c5)]; exact c5
  have HN := Lib.hid (named_any _ [s] (w.alloc (.cells #[.string s] 9)) (strs_one (by simp) (cell_new w _ _ 0 _ rfl)) (by simp) (by intro x hx; simp at hx; subst hx; omega))
  have hga : goodAll [s] = Fs.good s.data.toList := by simp [goodAll]
  rw [hga] at HN
  have hkey := keyOf_string_mk Tryd.underlying9 (s := s) (show s.size ≤ maxLen by unfold maxLen; omega)
  have HD := Lib.hid h.dir
  have HD1 := Lib.hid (h.dir.heap (hb1.block _ h.dir.lt))
  have H := Lib.hid h
  clear h
  go_enter Tryd.func36, Tryd.ntmps36
  cases hgd : Fs.good s.data.toList
  · have HE : Hid (Fs.openE st s.data.toList = 7) := by unfold Fs.openE; rw [if_pos hgd]; exact Lib.hid rfl
    rw [hgd] at HN
    go_wp2_with fail
    refine HN.out.mono ?_
    rintro e w2 ⟨rfl, hw2⟩
    obtain rfl := hw2.symm
    go_wp2
    refine bodyPost_ret (v := .tuple #[.pointer none, .int .i64 7]) (by simp [results, Tryd.results36, go_sem]) rfl ?_
    unfold OpenPost
    rw [HE.out]
    exact ⟨hb1, .inr ⟨by decide, rfl⟩⟩
  · rw [hgd] at HN
    cases hhas : Fs.mhas st.dir s.data.toList
    · have HE : Hid (Fs.openE st s.data.toList = 3) := by unfold Fs.openE; rw [if_neg (by rw [hgd]; simp), if_pos hhas]; exact Lib.hid rfl
      have HH : Hid (Maps.has (Fs.datum st.dir) (.string s.data.toList) = false) := by rw [Fs.datum_has]; exact Lib.hid hhas
      clear hgd hhas
      go_wp2_with fail
      refine HN.out.mono ?_
      rintro e w2 ⟨rfl, hw2⟩
      obtain rfl := hw2.symm
      go_wp2_with (first | (at_lookup; refine wpList_lookup_own_ok_int _ rfl _ _ 35 rfl 9 3 .i64 strKeyed Tryd.underlying35 Tryd.underlying3 (zeroInt _) V.md _ _ rfl HD1.out _ _ rfl hkey ?_; intro c hat hwc; rw [HH.out]) | fail)
      refine bodyPost_ret (v := .tuple #[.pointer none, .int .i64 3]) (by simp [results, Tryd.results36, go_sem]) rfl ?_
      unfold OpenPost
      rw [HE.out]
      exact ⟨hb1, .inr ⟨by decide, rfl⟩⟩
    · have HE : Hid (Fs.openE st s.data.toList = 0) := by unfold Fs.openE; rw [if_neg (by rw [hgd]; simp), if_neg (by rw [hhas]; simp)]; exact Lib.hid rfl
      have HH : Hid (Maps.has (Fs.datum st.dir) (.string s.data.toList) = true) := by rw [Fs.datum_has]; exact Lib.hid hhas
      obtain ⟨p, hp, hp1, hp2⟩ := Fs.mget_mem hhas
      obtain ⟨hp0, hpn⟩ := H.out.known p hp
      rw [hp2] at hp0 hpn
      have hidx : ((Fs.idx st s.data.toList : Nat) : Int) = Fs.mget st.dir s.data.toList := by unfold Fs.idx; omega
      have hil : Fs.idx st s.data.toList < st.files.length := by omega
      obtain ⟨f, hf⟩ : ∃ f, st.files[Fs.idx st s.data.toList]? = some f := ⟨_, List.getElem?_eq_getElem hil⟩
      obtain ⟨b, hb⟩ : ∃ b, V.fb[Fs.idx st s.data.toList]? = some b := ⟨_, List.getElem?_eq_getElem (by rw [H.out.nfb]; exact hil)⟩
      obtain ⟨d, hd⟩ : ∃ d, V.dv[Fs.idx st s.data.toList]? = some d := ⟨_, List.getElem?_eq_getElem (by rw [H.out.ndv]; exact hil)⟩
      have HGET := Lib.hid (Fs.datum_get st.dir s.data.toList)
      have HI := Lib.hid hidx
      generalize hix : Fs.idx st s.data.toList = i at *
      have HIX := Lib.hid hix
      clear hix
      obtain ⟨g, cap, hfv, hgc⟩ : ∃ g cap, V.fv = .slice (some ⟨g, 0, none⟩) st.files.length cap ∧ w.cell? ⟨g, i, none⟩ = some (.pointer (some ⟨b, 0, none⟩)) := by
        rcases H.out.files.2 with ⟨h1, h2⟩ | ⟨g, cap, cur, h1, _⟩
        · omega
        · exact ⟨g, cap, h1, by rw [← addr_add]; exact World.ownsRow.cells H.out.files (by rw [h1]; rfl) _ _ (ptr_cells _ _ _ hb)⟩
      rw [hfv] at c4
      have c4' : (w.alloc (.cells #[.string s] 9)).cell? ⟨B, 4, none⟩ = some (.slice (some ⟨g, 0, none⟩) st.files.length cap) := by rw [hb1.cell (cellLt c4)]; exact c4
      have hgc2 := hgc
      have hg1 : (w.alloc (.cells #[.string s] 9)).cell? ⟨g, i, none⟩ = some (.pointer (some ⟨b, 0, none⟩)) := by rw [hb1.cell (cellLt hgc)]; exact hgc
      have hi0 : (0 : Int) ≤ (i : Int) := Int.natCast_nonneg _
      have hi1 : (i : Int) < (st.files.length : Int) := by omega
      clear hgd hhas hp hp1 hp2 hp0 hpn hidx hfv hgc hgc2
      go_wp2_with fail
      refine HN.out.mono ?_
      rintro e w2 ⟨rfl, hw2⟩
      obtain rfl := hw2.symm
      go_wp2_with (first | (at_lookup; refine wpList_lookup_own_ok_int _ rfl _ _ 35 rfl 9 3 .i64 strKeyed Tryd.underlying35 Tryd.underlying3 (zeroInt _) V.md _ _ rfl HD1.out _ _ rfl hkey ?_; intro c hat hwc; rw [HH.out]; obtain rfl : c = (i : Int) := (by have := hat.symm.trans HGET.out; simp only [DataW.lit.injEq, Lit.int.injEq, true_and] at this; rw [this, HI.out]); clear hat hwc) | fail)
      refine bodyPost_ret (v := .tuple #[.pointer (some ⟨b, 0, none⟩), .int .i64 0]) (by simp [results, Tryd.results36, go_sem]) rfl ?_
      unfold OpenPost
      rw [HIX.out]
      exact ⟨hb1, .inl ⟨HE.out, f, b, d, hf, hb, hd, rfl⟩⟩
end Go.Proofs.YtcinagglbkbmkaaDoor
