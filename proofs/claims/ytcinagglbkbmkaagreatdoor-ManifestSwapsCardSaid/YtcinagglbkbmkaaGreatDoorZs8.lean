/-
  Segments: Read, walked. The file system in calm weather: what its files hold (no program in sight). The file system as names and their bytes, in calm weather (plain). Frames and segments: what is read of what was written (no program in sight). The file system: Arm and Plan, walked.
-/
import Derived.Test.YtcinagglbkbmkaaGreatDoorZs7
import Derived.Test.YtcinagglbkbmkaaGreatDoorZs6
namespace Go.Proofs.YtcinagglbkbmkaaGreatDoor
set_option linter.unusedSimpArgs false
set_option linter.unusedVariables false
open Go Go.RowKit
open Go.Maps Go.WideMaps

namespace Sg
abbrev En := Int × Fr.F
def badE : List Int → Int
  | [] => 0
  | id :: r => if nameE id ≠ 0 then nameE id else badE r
theorem badE_cons (id : Int) (r : List Int) : badE (id :: r) = if nameE id ≠ 0 then nameE id else badE r := rfl
def readGo (st : Fs.St) : List Int → List En → Bool → List En × Bool × Int
  | [], out, wh => (out, wh, 0)
  | id :: r, out, wh =>
    if Fs.openE st (nameB id) ≠ 0 then ([], false, Fs.openE st (nameB id))
    else readGo st r (out ++ (Fr.scan (Fs.fileAt st (nameB id))).1.map (fun f => (id, f))) (decide ((Fr.scan (Fs.fileAt st (nameB id))).2 = (Fs.fileAt st (nameB id)).length))
def read (st : Fs.St) (ids : List Int) : List En × Bool × Int := if badE ids ≠ 0 then ([], false, badE ids) else readGo st ids [] true
theorem readGo_cons (st : Fs.St) (id : Int) (r : List Int) (out : List En) (wh : Bool) : readGo st (id :: r) out wh =
    if Fs.openE st (nameB id) ≠ 0 then ([], false, Fs.openE st (nameB id))
    else readGo st r (out ++ (Fr.scan (Fs.fileAt st (nameB id))).1.map (fun f => (id, f))) (decide ((Fr.scan (Fs.fileAt st (nameB id))).2 = (Fs.fileAt st (nameB id)).length)) := rfl
end Sg
theorem frCells_get : ∀ (ps : List (Fr.F × Value)) (i : Nat) (p : Fr.F × Value), ps[i]? = some p → (frCells ps)[i * 2]? = some (.int .i64 p.1.1) ∧ (frCells ps)[i * 2 + 1]? = some p.2
  | [], i, p, h => by simp at h
  | q :: ps, 0, p, h => by
    simp at h; subst h
    exact ⟨rfl, rfl⟩
  | q :: ps, i + 1, p, h => by
    have := frCells_get ps i p (by simpa using h)
    rw [show (i + 1) * 2 = i * 2 + 1 + 1 by omega]
    exact this
theorem FrAt.at {w : World} {base g n cap : Nat} {ps : List (Fr.F × Value)} (h : FrAt w base (.slice (some ⟨g, 0, none⟩) n cap) ps) {i : Nat} {p : Fr.F × Value} (hi : ps[i]? = some p) :
    w.cell? ⟨g, i * 2, none⟩ = some (.int .i64 p.1.1) ∧ w.cell? ⟨g, i * 2 + 1, none⟩ = some p.2 := by
  obtain ⟨h1, h2⟩ := frCells_get ps i p hi
  have c1 := World.ownsRow.cells h.row (g := g) rfl _ _ h1
  have c2 := World.ownsRow.cells h.row (g := g) rfl _ _ h2
  rw [addr_add] at c1 c2
  exact ⟨c1, c2⟩
/-- A slice of ints. -/
def Ints (w : World) (v : Value) (l : List Int) : Prop :=
  ∃ a cap, v = .slice a l.length cap ∧ ∀ (i : Nat) x, l[i]? = some x → ∃ b off, a = some ⟨b, off, none⟩ ∧ b < w.heap.size ∧ w.cell? ⟨b, off + i, none⟩ = some (.int .i64 x)
theorem Ints.form {w : World} {v : Value} {l : List Int} (h : Ints w v l) : ∃ a cap, v = .slice a l.length cap := by
  obtain ⟨a, cap, h1, _⟩ := h
  exact ⟨a, cap, h1⟩
theorem Ints.at {w : World} {a : Option Addr} {n cap : Nat} {l : List Int} (h : Ints w (.slice a n cap) l) {i : Nat} {x : Int} (hi : l[i]? = some x) :
    ∃ b off, a = some ⟨b, off, none⟩ ∧ b < w.heap.size ∧ w.cell? ⟨b, off + i, none⟩ = some (.int .i64 x) := by
  obtain ⟨a', cap', h1, h2⟩ := h
  obtain ⟨b, off, e, h3, h4⟩ := h2 i x hi
  simp only [Value.slice.injEq] at h1
  exact ⟨b, off, by rw [h1.1, e], h3, h4⟩
theorem Ints.below {w w' : World} {v : Value} {l : List Int} (h : Ints w v l) (hb : Below w.heap.size w w') : Ints w' v l := by
  obtain ⟨a, cap, h1, h3⟩ := h
  refine ⟨a, cap, h1, fun i x hi => ?_⟩
  obtain ⟨b, off, e, h4, h5⟩ := h3 i x hi
  exact ⟨b, off, e, Nat.lt_of_lt_of_le h4 hb.size, by rw [World.cell?_of_block (hb.block b h4)]; exact h5⟩

def enCells (ps : List (Sg.En × Value)) : List Value := ps.flatMap fun p => [.int .i64 p.1.1, .int .i64 p.1.2.1, p.2]
/-- Entries in memory of the call's own. -/
structure EnAt (w : World) (base : Nat) (v : Value) (ps : List (Sg.En × Value)) : Prop where
  row : w.ownsRow base 209 3 v ps.length (enCells ps)
  pay : ∀ p ∈ ps, OwnB w base p.2 p.1.2.2
  apart : ∀ p ∈ ps, ∀ g, p.2.ownBlock = some g → v.ownBlock ≠ some g
theorem EnAt.keep {w w' : World} {base : Nat} {v : Value} {ps : List (Sg.En × Value)} (h : EnAt w base v ps) (hb : Below w.heap.size w w') : EnAt w' base v ps :=
  ⟨row_kept h.row (fun g hg => hb.block g (h.row.lt g hg).2), fun p hp => (h.pay p hp).keep hb, h.apart⟩
theorem EnAt.nil (w : World) (base : Nat) : EnAt w base (.slice none 0 0) [] := ⟨World.ownsRow_nil _ _ _ _, fun p h => by simp at h, fun p h => by simp at h⟩
/-- One entry more. -/
theorem EnAt.more {w w5 : World} {base : Nat} {v v' x : Value} {ps : List (Sg.En × Value)} {f : Sg.En} (h : EnAt w base v ps) (hx : OwnB w base x f.2.2) (hne : ∀ g, x.ownBlock = some g → v.ownBlock ≠ some g)
    (hrow : w5.ownsRow base 209 3 v' (ps.length + 1) (enCells ps ++ [.int .i64 f.1, .int .i64 f.2.1, x])) (hg : w.grownBy w5 v.ownBlock) (hloc : v'.ownBlock = v.ownBlock ∨ v'.ownBlock = some w.heap.size) :
    EnAt w5 base v' (ps ++ [(f, x)]) := by
  have hk : ∀ (y : Value) (l : List UInt8), OwnB w base y l → (∀ g, y.ownBlock = some g → v.ownBlock ≠ some g) → OwnB w5 base y l ∧ (∀ g, y.ownBlock = some g → v'.ownBlock ≠ some g) := fun y l hy hn =>
    ⟨row_kept hy (fun g hg2 => hg.block g (hy.lt g hg2).2 (fun e => hn g hg2 e.symm)), fun g hg2 => by
      rcases hloc with e | e
      · rw [e]; exact hn g hg2
      · rw [e]
        intro e2
        have := (hy.lt g hg2).2
        simp at e2
        omega⟩
  refine ⟨?_, fun p hp => ?_, fun p hp => ?_⟩
  · rw [List.length_append]
    unfold enCells at hrow ⊢
    rw [List.flatMap_append]
    exact hrow
  · rcases List.mem_append.1 hp with hp | hp
    · exact (hk p.2 p.1.2.2 (h.pay p hp) (h.apart p hp)).1
    · simp at hp; subst hp; exact (hk x f.2.2 hx hne).1
  · rcases List.mem_append.1 hp with hp | hp
    · exact (hk p.2 p.1.2.2 (h.pay p hp) (h.apart p hp)).2
    · simp at hp; subst hp; exact (hk x f.2.2 hx hne).2
end Go.Proofs.YtcinagglbkbmkaaGreatDoor
namespace Go.Proofs.YtcinagglbkbmkaaGreatDoor
set_option linter.unusedSimpArgs false
set_option linter.unusedVariables false
open Go Go.RowKit

namespace Fs
/-- No power goes; no step is planned to fail. -/
def Calm (st : St) : Prop := st.left = -1 ∧ st.plan = []
theorem step_calm {st : St} (h : Calm st) : step st = ({ st with steps := wrap64 (st.steps + 1) }, 0, 0) := by
  obtain ⟨h1, h2⟩ := h
  unfold step
  rw [if_neg (by omega), h2, if_neg (by omega)]
  cases st
  simp only at h1 h2
  subst h1 h2
  rfl
theorem mem_mins (x : List UInt8 × Int) : ∀ l : Names, (mins x l).Perm (x :: l)
  | [] => List.Perm.refl _
  | y :: r => by
    unfold mins
    split
    · exact List.Perm.refl _
    · exact ((mem_mins x r).cons y).trans (List.Perm.swap x y r)
theorem mdel_none {l : Names} {k : List UInt8} (h : mhas l k = false) : mdel l k = l := by
  unfold mdel
  rw [List.filter_eq_self]
  intro p hp
  unfold mhas at h
  rw [List.any_eq_false] at h
  have := h p hp
  simpa using this
theorem mput_new {l : Names} {k : List UInt8} (h : mhas l k = false) (v : Int) : (mput l k v).Perm ((k, v) :: l) := by
  unfold mput
  rw [mdel_none h]
  exact mem_mins _ _
theorem mhas_perm {l l' : Names} (h : l.Perm l') (k : List UInt8) : mhas l k = mhas l' k := by
  unfold mhas
  rw [Bool.eq_iff_iff, List.any_eq_true, List.any_eq_true]
  constructor
  · rintro ⟨p, h1, h2⟩; exact ⟨p, h.mem_iff.1 h1, h2⟩
  · rintro ⟨p, h1, h2⟩; exact ⟨p, h.mem_iff.2 h1, h2⟩
/-- Keys that differ: what is found is what was put. -/
theorem mget_of {l : Names} (hnd : ∀ p ∈ l, ∀ q ∈ l, p.1 = q.1 → p.2 = q.2) {k : List UInt8} {v : Int} (h : (k, v) ∈ l) : mget l k = v := by
  obtain ⟨p, hp, h1, h2⟩ := mget_mem (l := l) (k := k) (by unfold mhas; rw [List.any_eq_true]; exact ⟨(k, v), h, by simp⟩)
  rw [← h2]
  exact hnd p hp (k, v) h h1

abbrev Segs := List (List UInt8 × List UInt8)
def dirGo : Nat → Segs → Names
  | _, [] => []
  | i, s :: r => (s.1, (i : Int)) :: dirGo (i + 1) r
theorem dirGo_app : ∀ (l r : Segs) (i : Nat), dirGo i (l ++ r) = dirGo i l ++ dirGo (i + l.length) r
  | [], r, i => rfl
  | s :: l, r, i => by
    rw [List.cons_append, dirGo, dirGo, dirGo_app l r (i + 1), List.cons_append, List.length_cons, Nat.add_right_comm, Nat.add_assoc]
theorem dirGo_mem : ∀ (l : Segs) (i j : Nat) (s : List UInt8 × List UInt8), l[j]? = some s → (s.1, ((i + j : Nat) : Int)) ∈ dirGo i l
  | [], i, j, s, h => by simp at h
  | x :: l, i, 0, s, h => by
    simp at h; subst h
    exact List.mem_cons_self
  | x :: l, i, j + 1, s, h => by
    have := dirGo_mem l (i + 1) j s (by simpa using h)
    rw [show i + (j + 1) = i + 1 + j by omega]
    exact List.mem_cons_of_mem _ this
theorem dirGo_inv : ∀ (l : Segs) (i : Nat) (p : List UInt8 × Int), p ∈ dirGo i l → ∃ j s, l[j]? = some s ∧ p = (s.1, ((i + j : Nat) : Int))
  | [], i, p, h => by simp [dirGo] at h
  | x :: l, i, p, h => by
    rw [dirGo] at h
    rcases List.mem_cons.1 h with h | h
    · exact ⟨0, x, rfl, h⟩
    · obtain ⟨j, s, h1, h2⟩ := dirGo_inv l (i + 1) p h
      exact ⟨j + 1, s, by simpa using h1, by rw [h2, show i + (j + 1) = i + 1 + j by omega]⟩
theorem dirGo_len : ∀ (l : Segs) (i : Nat), (dirGo i l).length = l.length
  | [], _ => rfl
  | s :: l, i => by rw [dirGo, List.length_cons, dirGo_len l, List.length_cons]
theorem dirGo_names : ∀ (l l' : Segs) (i : Nat), l.map (·.1) = l'.map (·.1) → dirGo i l = dirGo i l'
  | [], [], _, _ => rfl
  | [], x :: l, _, h => by simp at h
  | x :: l, [], _, h => by simp at h
  | x :: l, y :: l', i, h => by
    simp only [List.map_cons, List.cons.injEq] at h
    rw [dirGo, dirGo, h.1, dirGo_names l l' (i + 1) h.2]

/-- What the files hold, by their names, in the order in which they were made. -/
structure Rep (st : St) (segs : Segs) : Prop where
  calm : Calm st
  files : st.files.map (·.1) = segs.map (·.2)
  dir : st.dir.Perm (dirGo 0 segs)
  names : ∀ (i j : Nat) s t, segs[i]? = some s → segs[j]? = some t → s.1 = t.1 → i = j

section
variable {st : St} {segs : Segs}
theorem Rep.len (h : Rep st segs) : st.files.length = segs.length := by
  have := congrArg List.length h.files
  simpa using this
theorem Rep.dlen (h : Rep st segs) : st.dir.length = segs.length := by rw [h.dir.length_eq, dirGo_len]
theorem Rep.keys (h : Rep st segs) : ∀ p ∈ st.dir, ∀ q ∈ st.dir, p.1 = q.1 → p.2 = q.2 := by
  intro p hp q hq e
  obtain ⟨i, s, h1, rfl⟩ := dirGo_inv segs 0 p (h.dir.mem_iff.1 hp)
  obtain ⟨j, t, h2, rfl⟩ := dirGo_inv segs 0 q (h.dir.mem_iff.1 hq)
  have := h.names i j s t h1 h2 e
  subst this
  rfl
theorem Rep.has (h : Rep st segs) (n : List UInt8) : mhas st.dir n = segs.any (fun s => s.1 == n) := by
  rw [mhas_perm h.dir]
  unfold mhas
  rw [Bool.eq_iff_iff, List.any_eq_true, List.any_eq_true]
  constructor
  · rintro ⟨p, h1, h2⟩
    obtain ⟨j, s, h3, rfl⟩ := dirGo_inv segs 0 p h1
    exact ⟨s, List.mem_of_getElem? h3, h2⟩
  · rintro ⟨s, h1, h2⟩
    obtain ⟨j, h3⟩ := List.getElem?_of_mem h1
    exact ⟨_, dirGo_mem segs 0 j s h3, h2⟩
theorem Rep.get (h : Rep st segs) {i : Nat} {s : List UInt8 × List UInt8} (hi : segs[i]? = some s) : mget st.dir s.1 = i := by
  have := dirGo_mem segs 0 i s hi
  rw [Nat.zero_add] at this
  exact mget_of h.keys (h.dir.mem_iff.2 this)
theorem Rep.file (h : Rep st segs) {i : Nat} {s : List UInt8 × List UInt8} (hi : segs[i]? = some s) : ∃ f, st.files[i]? = some f ∧ f.1 = s.2 := by
  have h1 := congrArg (fun l => l[i]?) h.files
  simp only [List.getElem?_map, hi, Option.map_some] at h1
  cases hf : st.files[i]? with
  | none => rw [hf] at h1; cases h1
  | some f => rw [hf] at h1; exact ⟨f, rfl, by simpa using h1⟩
theorem Rep.at (h : Rep st segs) {i : Nat} {s : List UInt8 × List UInt8} (hi : segs[i]? = some s) : idx st s.1 = i ∧ fileAt st s.1 = s.2 ∧ (good s.1 = true → openE st s.1 = 0) := by
  have h1 : idx st s.1 = i := by unfold idx; rw [h.get hi]; rfl
  obtain ⟨f, h2, h3⟩ := h.file hi
  refine ⟨h1, ?_, fun hg => ?_⟩
  · unfold fileAt
    rw [h1, h2]
    exact h3
  · unfold openE
    rw [if_neg (by rw [hg]; simp), h.has, if_neg]
    rw [Bool.not_eq_false, List.any_eq_true]
    exact ⟨s, List.mem_of_getElem? hi, by simp⟩
theorem Rep.used (h : Rep st segs) : used st = (segs.map (·.2.length)).sum := by
  have hp : (st.dir.map fun p => lenAt st p.2).Perm ((dirGo 0 segs).map fun p => lenAt st p.2) := h.dir.map _
  have hs : (st.dir.map fun p => lenAt st p.2).sum = ((dirGo 0 segs).map fun p => lenAt st p.2).sum := hp.sum_nat
  show (st.dir.map fun p => lenAt st p.2).sum = _
  rw [hs]
  have : ∀ (r : Segs) (i : Nat), (∀ j s, r[j]? = some s → segs[i + j]? = some s) → ((dirGo i r).map fun p => lenAt st p.2) = r.map (·.2.length) := by
    intro r
    induction r with
    | nil => intro i _; rfl
    | cons x r ih =>
      intro i hr
      rw [dirGo, List.map_cons, List.map_cons, ih (i + 1) (fun j s hj => by
        have := hr (j + 1) s (by simpa using hj)
        rwa [show i + 1 + j = i + (j + 1) by omega])]
      obtain ⟨f, h1, h2⟩ := h.file (hr 0 x rfl)
      rw [Nat.add_zero] at h1
      congr 1
      show lenAt st (i : Int) = _
      unfold lenAt
      rw [Int.toNat_natCast, h1]
      show f.1.length = _
      rw [h2]
  rw [this segs 0 (fun j s hj => by rw [Nat.zero_add]; exact hj)]

theorem Rep.new (room : Int) : Rep (new room) [] := ⟨⟨rfl, rfl⟩, rfl, List.Perm.refl _, fun i j s t h => by simp at h⟩
/-- A new file. -/
theorem Rep.create (h : Rep st segs) {n : List UInt8} (hg : good n = true) (hn : ∀ s ∈ segs, s.1 ≠ n) (hl : segs.length < 64) :
    (create st n).2 = 0 ∧ Rep (create st n).1 (segs ++ [(n, [])]) ∧ (create st n).1.room = st.room ∧ (create st n).1.changes.length = st.changes.length + 1 := by
  have hhas : mhas st.dir n = false := by
    rw [h.has, List.any_eq_false]
    intro s hs
    simpa using hn s hs
  have he : Fs.create st n = ({ (step st).1 with files := st.files ++ [([], 0)], dir := mput st.dir n st.files.length, changes := st.changes ++ [[(n, (st.files.length : Int))]] }, 0) := by
    unfold Fs.create
    rw [if_neg (by rw [hg]; simp), if_neg (by rw [hhas]; simp), if_neg (by rw [h.dlen]; omega), if_neg (by rw [step_calm h.calm]; simp)]
  rw [he, step_calm h.calm]
  refine ⟨rfl, ⟨⟨h.calm.1, h.calm.2⟩, ?_, ?_, ?_⟩, rfl, by simp⟩
  · show (st.files ++ [(([] : List UInt8), (0 : Nat))]).map (fun f => f.1) = _
    rw [List.map_append, h.files, List.map_append]
    rfl
  · show (mput st.dir n st.files.length).Perm _
    refine (mput_new hhas _).trans ?_
    rw [dirGo_app, Nat.zero_add, h.len]
    refine (h.dir.cons _).trans ?_
    exact (List.perm_append_singleton _ _).symm
  · intro i j s t hi hj e
    rcases Nat.lt_or_ge i segs.length with hi2 | hi2
    · rw [List.getElem?_append_left hi2] at hi
      rcases Nat.lt_or_ge j segs.length with hj2 | hj2
      · rw [List.getElem?_append_left hj2] at hj
        exact h.names i j s t hi hj e
      · rw [List.getElem?_append_right hj2] at hj
        have : t = (n, []) := by
          have := (List.getElem?_eq_some_iff.1 hj).1
          have h0 : j - segs.length = 0 := by simpa using this
          rw [h0] at hj
          simpa using hj.symm
        subst this
        exact absurd e (hn s (List.mem_of_getElem? hi))
    · rw [List.getElem?_append_right hi2] at hi
      have h0 : i - segs.length = 0 := by have := (List.getElem?_eq_some_iff.1 hi).1; simpa using this
      have hs : s = (n, []) := by rw [h0] at hi; simpa using hi.symm
      subst hs
      rcases Nat.lt_or_ge j segs.length with hj2 | hj2
      · rw [List.getElem?_append_left hj2] at hj
        exact absurd e.symm (hn t (List.mem_of_getElem? hj))
      · rw [List.getElem?_append_right hj2] at hj
        have h1 : j - segs.length = 0 := by have := (List.getElem?_eq_some_iff.1 hj).1; simpa using this
        omega
/-- A file grows. -/
theorem Rep.append (h : Rep st segs) {i : Nat} {s : List UInt8 × List UInt8} (hi : segs[i]? = some s) (hg : good s.1 = true) (b : List UInt8) (hb : s.2.length + b.length ≤ 65536)
    (hr : (((segs.map (·.2.length)).sum : Nat) : Int) + b.length ≤ st.room) :
    (append st s.1 b).2 = 0 ∧ Rep (append st s.1 b).1 (segs.set i (s.1, s.2 ++ b)) ∧ (append st s.1 b).1.room = st.room ∧ (append st s.1 b).1.changes = st.changes := by
  obtain ⟨h1, h2, h3⟩ := h.at hi
  obtain ⟨f, hf1, hf2⟩ := h.file hi
  have he : Fs.append st s.1 b = ({ (step st).1 with files := grow st.files (idx st s.1) b }, 0) := by
    unfold Fs.append
    rw [if_neg (by rw [h3 hg]; simp), h2, if_neg (by omega), step_calm h.calm, if_neg (by simp), h.used, if_neg (by omega)]
  have hgr : grow st.files (idx st s.1) b = st.files.set i (f.1 ++ b, f.2) := by
    unfold grow
    rw [h1, hf1]
  rw [he, step_calm h.calm, hgr]
  refine ⟨rfl, ⟨⟨h.calm.1, h.calm.2⟩, ?_, ?_, ?_⟩, rfl, rfl⟩
  · show (st.files.set i (f.1 ++ b, f.2)).map (·.1) = _
    rw [List.map_set, List.map_set, h.files, hf2]
  · show st.dir.Perm _
    rw [dirGo_names (segs.set i (s.1, s.2 ++ b)) segs 0 (by
      rw [List.map_set]
      have hlt := (List.getElem?_eq_some_iff.1 hi).1
      have : (segs.map (·.1))[i]? = some s.1 := by rw [List.getElem?_map, hi]; rfl
      obtain ⟨h5, h6⟩ := List.getElem?_eq_some_iff.1 this
      rw [← h6]
      exact List.set_getElem_self h5)]
    exact h.dir
  · have key : ∀ (k : Nat) t, (segs.set i (s.1, s.2 ++ b))[k]? = some t → ∃ t', segs[k]? = some t' ∧ t'.1 = t.1 := by
      intro k t hk
      by_cases hik : i = k
      · subst hik
        rw [List.getElem?_set_self (List.getElem?_eq_some_iff.1 hi).1] at hk
        simp at hk; subst hk
        exact ⟨s, hi, rfl⟩
      · rw [List.getElem?_set_ne hik] at hk
        exact ⟨t, hk, rfl⟩
    intro a c x y ha hc e
    obtain ⟨x', hx1, hx2⟩ := key a x ha
    obtain ⟨y', hy1, hy2⟩ := key c y hc
    exact h.names a c x' y' hx1 hy1 (by rw [hx2, hy2, e])
theorem Rep.sync (h : Rep st segs) {i : Nat} {s : List UInt8 × List UInt8} (hi : segs[i]? = some s) (hg : good s.1 = true) :
    (sync st s.1).2 = 0 ∧ Rep (sync st s.1).1 segs ∧ (sync st s.1).1.room = st.room ∧ (sync st s.1).1.changes = st.changes := by
  obtain ⟨h1, h2, h3⟩ := h.at hi
  have he : Fs.sync st s.1 = ({ (step st).1 with files := flush st.files (idx st s.1) }, 0) := by
    unfold Fs.sync
    rw [if_neg (by rw [h3 hg]; simp), step_calm h.calm, if_neg (by simp)]
  rw [he, step_calm h.calm]
  refine ⟨rfl, ⟨⟨h.calm.1, h.calm.2⟩, ?_, h.dir, h.names⟩, rfl, rfl⟩
  show (flush st.files (idx st s.1)).map (·.1) = _
  rw [← h.files]
  unfold flush
  obtain ⟨f, hf1, hf2⟩ := h.file hi
  rw [h1, hf1]
  show (st.files.set i (f.1, f.1.length)).map (·.1) = _
  rw [List.map_set]
  have : (st.files.map (·.1))[i]? = some f.1 := by rw [List.getElem?_map, hf1]; rfl
  obtain ⟨h5, h6⟩ := List.getElem?_eq_some_iff.1 this
  rw [← h6]
  exact List.set_getElem_self h5
theorem Rep.syncDir (h : Rep st segs) : (syncDir st).2 = 0 ∧ Rep (syncDir st).1 segs ∧ (syncDir st).1.room = st.room ∧ (syncDir st).1.changes = [] := by
  have he : Fs.syncDir st = ({ (step st).1 with sure := st.dir, changes := [] }, 0) := by
    unfold Fs.syncDir
    rw [step_calm h.calm, if_neg (by simp)]
  rw [he, step_calm h.calm]
  exact ⟨rfl, ⟨⟨h.calm.1, h.calm.2⟩, h.files, h.dir, h.names⟩, rfl, rfl⟩
theorem Rep.how (h : Rep st segs) : (step st).2.1 ≤ 9223372036854775807 := by rw [step_calm h.calm]; show (0 : Int) ≤ 9223372036854775807; omega
end
end Fs
end Go.Proofs.YtcinagglbkbmkaaGreatDoor
namespace Go.Proofs.YtcinagglbkbmkaaGreatDoor
set_option linter.unusedSimpArgs false
set_option linter.unusedVariables false
open Go Go.RowKit
namespace Fs
theorem find_mins (x : List UInt8 × Int) (n : List UInt8) : ∀ l : Names, mhas l x.1 = false → (mins x l).find? (fun p => p.1 == n) = if x.1 = n then some x else l.find? (fun p => p.1 == n)
  | [], _ => by
    unfold mins
    by_cases h : x.1 = n
    · rw [if_pos h, List.find?_cons_of_pos (by simpa using h)]
    · rw [if_neg h, List.find?_cons_of_neg (by simpa using h)]
  | y :: r, hh => by
    have hh2 : mhas r x.1 = false := by unfold mhas at hh ⊢; rw [List.any_cons, Bool.or_eq_false_iff] at hh; exact hh.2
    have hy : y.1 ≠ x.1 := by unfold mhas at hh; rw [List.any_cons, Bool.or_eq_false_iff] at hh; simpa using hh.1
    unfold mins
    split
    · by_cases h : x.1 = n
      · rw [if_pos h, List.find?_cons_of_pos (by simpa using h)]
      · rw [if_neg h, List.find?_cons_of_neg (by simpa using h)]
    · by_cases h : y.1 = n
      · rw [List.find?_cons_of_pos (by simpa using h), if_neg (fun e => hy (by rw [h, e])), List.find?_cons_of_pos (by simpa using h)]
      · rw [List.find?_cons_of_neg (by simpa using h), find_mins x n r hh2, List.find?_cons_of_neg (by simpa using h)]
theorem mhas_find (l : Names) (n : List UInt8) : mhas l n = (l.find? (fun p => p.1 == n)).isSome := by
  unfold mhas
  rw [Bool.eq_iff_iff, List.any_eq_true]
  constructor
  · rintro ⟨p, h1, h2⟩; rw [List.find?_isSome]; exact ⟨p, h1, h2⟩
  · intro h; rw [List.find?_isSome] at h; obtain ⟨p, h1, h2⟩ := h; exact ⟨p, h1, h2⟩
theorem mdel_find (l : Names) (k n : List UInt8) : (mdel l k).find? (fun p => p.1 == n) = if n = k then none else l.find? (fun p => p.1 == n) := by
  unfold mdel
  induction l with
  | nil => simp
  | cons y r ih =>
    by_cases hk : y.1 = k
    · rw [List.filter_cons_of_neg (by simp [hk]), ih]
      by_cases h : n = k
      · rw [if_pos h, if_pos h]
      · rw [if_neg h, if_neg h, List.find?_cons_of_neg (by simp [hk]; exact fun e => h e.symm)]
    · rw [List.filter_cons_of_pos (by simp [hk])]
      by_cases h : y.1 = n
      · rw [List.find?_cons_of_pos (by simpa using h), if_neg (fun e => hk (h.trans e)), List.find?_cons_of_pos (by simpa using h)]
      · rw [List.find?_cons_of_neg (by simpa using h), ih, List.find?_cons_of_neg (by simpa using h)]
theorem mdel_hasnt (l : Names) (k : List UInt8) : mhas (mdel l k) k = false := by rw [mhas_find, mdel_find, if_pos rfl]; rfl
theorem mput_find (l : Names) (k n : List UInt8) (v : Int) : (mput l k v).find? (fun p => p.1 == n) = if k = n then some (k, v) else l.find? (fun p => p.1 == n) := by
  unfold mput
  rw [find_mins (k, v) n _ (mdel_hasnt l k)]
  by_cases h : k = n
  · rw [if_pos h, if_pos h]
  · rw [if_neg h, if_neg h, mdel_find, if_neg (fun e => h e.symm)]
theorem mhas_mput (l : Names) (k n : List UInt8) (v : Int) : mhas (mput l k v) n = (decide (k = n) || mhas l n) := by
  rw [mhas_find, mput_find, mhas_find]
  by_cases h : k = n
  · rw [if_pos h, decide_eq_true h]; rfl
  · rw [if_neg h, decide_eq_false h]; rfl
theorem mhas_mdel (l : Names) (k n : List UInt8) : mhas (mdel l k) n = (!decide (n = k) && mhas l n) := by
  rw [mhas_find, mdel_find, mhas_find]
  by_cases h : n = k
  · rw [if_pos h, decide_eq_true h]; rfl
  · rw [if_neg h, decide_eq_false h]; rfl
theorem mget_mput (l : Names) (k n : List UInt8) (v : Int) : mget (mput l k v) n = if k = n then v else mget l n := by
  unfold mget
  rw [mput_find]
  by_cases h : k = n
  · rw [if_pos h, if_pos h]
  · rw [if_neg h, if_neg h]
theorem mget_mdel (l : Names) (k n : List UInt8) (h : n ≠ k) : mget (mdel l k) n = mget l n := by
  unfold mget
  rw [mdel_find, if_neg h]
theorem mput_perm (l : Names) (k : List UInt8) (v : Int) : (mput l k v).Perm ((k, v) :: mdel l k) := mem_mins _ _
theorem mdel_mem {l : Names} {k : List UInt8} {p : List UInt8 × Int} : p ∈ mdel l k ↔ p ∈ l ∧ p.1 ≠ k := by
  unfold mdel
  rw [List.mem_filter]
  simp
theorem mput_mem {l : Names} {k : List UInt8} {v : Int} {p : List UInt8 × Int} : p ∈ mput l k v ↔ p = (k, v) ∨ (p ∈ l ∧ p.1 ≠ k) := by
  rw [(mput_perm l k v).mem_iff, List.mem_cons, mdel_mem]
theorem mhas_mem {l : Names} {k : List UInt8} : mhas l k = true ↔ ∃ p ∈ l, p.1 = k := by
  unfold mhas
  rw [List.any_eq_true]
  constructor
  · rintro ⟨p, h1, h2⟩; exact ⟨p, h1, by simpa using h2⟩
  · rintro ⟨p, h1, h2⟩; exact ⟨p, h1, by simpa using h2⟩
theorem mdel_len_has : ∀ {l : Names} {k : List UInt8}, mhas l k = true → (mdel l k).length + 1 ≤ l.length
  | [], k, h => by cases h
  | y :: r, k, h => by
    by_cases hy : y.1 = k
    · have := List.length_filter_le (fun p : List UInt8 × Int => !(p.1 == k)) r
      unfold mdel
      rw [List.filter_cons_of_neg (by simp [hy]), List.length_cons]
      omega
    · have hr : mhas r k = true := by
        unfold mhas at h ⊢
        rw [List.any_cons] at h
        simpa [hy] using h
      have := mdel_len_has hr
      unfold mdel at this ⊢
      rw [List.filter_cons_of_pos (by simp [hy]), List.length_cons, List.length_cons]
      omega
theorem mput_len2 (l : Names) (k : List UInt8) (v : Int) : (mput l k v).length = (mdel l k).length + 1 := mins_len _ _

/-- Names differ, files differ, each stands. -/
structure Inv (st : St) : Prop where
  nd : st.dir.Pairwise (fun p q => p.1 ≠ q.1)
  inj : ∀ p ∈ st.dir, ∀ q ∈ st.dir, p.2 = q.2 → p.1 = q.1
  known : ∀ p ∈ st.dir, 0 ≤ p.2 ∧ p.2 < st.files.length
  gd : ∀ p ∈ st.dir, good p.1 = true
/-- What a name's file holds. -/
def look (st : St) (n : List UInt8) : Option (List UInt8) := if mhas st.dir n then some (fileAt st n) else none
theorem pw_mdel {l : Names} {k : List UInt8} (h : l.Pairwise (fun p q => p.1 ≠ q.1)) : (mdel l k).Pairwise (fun p q => p.1 ≠ q.1) := h.sublist List.filter_sublist
theorem pw_mput {l : Names} {k : List UInt8} {v : Int} (h : l.Pairwise (fun p q => p.1 ≠ q.1)) : (mput l k v).Pairwise (fun p q => p.1 ≠ q.1) := by
  refine ((mput_perm l k v).pairwise_iff (fun {a b} h => h.symm)).2 ?_
  rw [List.pairwise_cons]
  exact ⟨fun p hp => (mdel_mem.1 hp).2.symm, pw_mdel h⟩
theorem look_some {st : St} {n b : List UInt8} (h : look st n = some b) : mhas st.dir n = true ∧ fileAt st n = b := by
  unfold look at h
  split at h
  · rename_i h2; exact ⟨h2, by simpa using h⟩
  · cases h
theorem look_none {st : St} {n : List UInt8} (h : look st n = none) : mhas st.dir n = false := by
  unfold look at h
  split at h
  · cases h
  · rename_i h2; simpa using h2
theorem Inv.new (room : Int) : Inv (new room) := ⟨List.Pairwise.nil, fun p hp => (by cases hp), fun p hp => (by cases hp), fun p hp => (by cases hp)⟩
theorem look_new (room : Int) (n : List UInt8) : look (new room) n = none := rfl
theorem Inv.idx {st : St} (h : Inv st) {n : List UInt8} (hn : mhas st.dir n = true) : ∃ f, st.files[Fs.idx st n]? = some f ∧ fileAt st n = f.1 ∧ (n, ((Fs.idx st n : Nat) : Int)) ∈ st.dir := by
  obtain ⟨p, h1, h2, h3⟩ := mget_mem hn
  have hk := h.known p h1
  have e : Fs.idx st n = p.2.toNat := by unfold Fs.idx; rw [h3]
  have hlt : Fs.idx st n < st.files.length := by omega
  refine ⟨_, List.getElem?_eq_getElem hlt, ?_, ?_⟩
  · unfold fileAt; rw [List.getElem?_eq_getElem hlt]
  · rw [e]
    have : p = (n, ((p.2.toNat : Nat) : Int)) := by rw [← h2]; exact Prod.ext rfl (by show p.2 = _; omega)
    rw [← this]; exact h1
theorem Inv.idx_ne {st : St} (h : Inv st) {n m : List UInt8} (hn : mhas st.dir n = true) (hm : mhas st.dir m = true) (hne : n ≠ m) : Fs.idx st n ≠ Fs.idx st m := by
  obtain ⟨_, _, _, h1⟩ := h.idx hn
  obtain ⟨_, _, _, h2⟩ := h.idx hm
  intro e
  exact hne (h.inj _ h1 _ h2 (by show ((Fs.idx st n : Nat) : Int) = ((Fs.idx st m : Nat) : Int); rw [e]))
theorem openE_of {st : St} {n : List UInt8} (hg : good n = true) (hn : mhas st.dir n = true) : openE st n = 0 := by
  unfold openE; rw [if_neg (by rw [hg]; simp), if_neg (by rw [hn]; simp)]

/-- What calm operations leave alone, and how they grow. -/
structure Next (st st' : St) (k : Nat) : Prop where
  calm : Calm st'
  inv : Inv st'
  room : st'.room = st.room
  files : st'.files.length ≤ st.files.length + k
  changes : st'.changes.length ≤ st.changes.length + k
theorem Next.trans {a b c : St} {i j : Nat} (h : Next a b i) (g : Next b c j) : Next a c (i + j) :=
  ⟨g.calm, g.inv, g.room.trans h.room, by have := h.files; have := g.files; omega, by have := h.changes; have := g.changes; omega⟩
theorem Next.refl {st : St} (hc : Calm st) (hi : Inv st) : Next st st 0 := ⟨hc, hi, rfl, Nat.le_refl _, Nat.le_refl _⟩
section
set_option linter.unusedSectionVars false
variable {st : St} {n : List UInt8} (hc : Calm st) (hi : Inv st)
include hc hi
theorem calm_create (hg : good n = true) (hn : mhas st.dir n = false) (hd : st.dir.length < 64) :
    (create st n).2 = 0 ∧ Next st (create st n).1 1 ∧ (create st n).1.dir.length = st.dir.length + 1 ∧ ∀ m, look (create st n).1 m = if m = n then some [] else look st m := by
  have he : create st n = ({ (step st).1 with files := st.files ++ [([], 0)], dir := mput st.dir n st.files.length, changes := st.changes ++ [[(n, (st.files.length : Int))]] }, 0) := by
    unfold create
    rw [if_neg (by rw [hg]; simp), if_neg (by rw [hn]; simp), if_neg (by omega), if_neg (by rw [step_calm hc]; simp)]
  rw [he, step_calm hc]
  refine ⟨rfl, ⟨⟨hc.1, hc.2⟩, ⟨pw_mput hi.nd, ?_, ?_, fun p hp => (mput_mem.1 hp).elim (fun e => by rw [e]; exact hg) (fun h => hi.gd p h.1)⟩, rfl, by simp, by simp⟩, ?_, fun m => ?_⟩
  · intro p hp q hq e
    rcases mput_mem.1 hp with rfl | ⟨hp1, _⟩ <;> rcases mput_mem.1 hq with rfl | ⟨hq1, _⟩
    · rfl
    · have := hi.known q hq1; simp only at e; omega
    · have := hi.known p hp1; simp only at e; omega
    · exact hi.inj p hp1 q hq1 e
  · intro p hp
    rcases mput_mem.1 hp with rfl | ⟨hp1, _⟩
    · simp; omega
    · have := hi.known p hp1; simp; omega
  · show (mput st.dir n st.files.length).length = _
    rw [mput_len2, mdel_none hn]
  · show (if mhas (mput st.dir n st.files.length) m then some (match (st.files ++ [(([] : List UInt8), 0)])[(mget (mput st.dir n st.files.length) m).toNat]? with | some f => f.1 | none => []) else none) = _
    rw [mhas_mput, mget_mput]
    by_cases hm : m = n
    · subst hm
      simp
    · have hm' : ¬ n = m := fun e => hm e.symm
      rw [if_neg hm, if_neg hm', decide_eq_false hm', Bool.false_or]
      cases hh : mhas st.dir m
      · unfold look; rw [hh]; rfl
      · obtain ⟨f, h1, h2, _⟩ := hi.idx hh
        have hlt : Fs.idx st m < st.files.length := (List.getElem?_eq_some_iff.1 h1).1
        unfold Fs.idx at h1 hlt
        rw [if_pos rfl, List.getElem?_append_left hlt, h1]
        unfold look; rw [hh, if_pos rfl, h2]
/-- A file turns. -/
theorem look_set {f' : List UInt8 × Nat} {st' : St} (hd : st'.dir = st.dir) (hf : st'.files = st.files.set (Fs.idx st n) f') (hn : mhas st.dir n = true) : Inv st' ∧ ∀ m, look st' m = if m = n then some f'.1 else look st m := by
  refine ⟨⟨by rw [hd]; exact hi.nd, by rw [hd]; exact hi.inj, by rw [hd, hf, List.length_set]; exact hi.known, by rw [hd]; exact hi.gd⟩, fun m => ?_⟩
  obtain ⟨f, h1, _, _⟩ := hi.idx hn
  have hlt : Fs.idx st n < st.files.length := (List.getElem?_eq_some_iff.1 h1).1
  have hix : Fs.idx st' m = Fs.idx st m := by unfold Fs.idx; rw [hd]
  unfold look fileAt
  rw [hd, hix, hf]
  by_cases hm : m = n
  · subst hm
    rw [hn, if_pos rfl, if_pos rfl, List.getElem?_set_self hlt]
  · rw [if_neg hm]
    cases hh : mhas st.dir m
    · rfl
    · rw [List.getElem?_set_ne (hi.idx_ne hn hh (fun e => hm e.symm))]
theorem calm_append {b old : List UInt8} (hg : good n = true) (hn : look st n = some old) (hl : old.length + b.length ≤ 65536) (hr : (used st : Int) + b.length ≤ st.room) :
    (append st n b).2 = 0 ∧ Next st (append st n b).1 0 ∧ (append st n b).1.dir = st.dir ∧ (∃ i, (append st n b).1.files = st.files.set i (old ++ b, ((st.files[i]?.map (·.2)).getD 0))) ∧ ∀ m, look (append st n b).1 m = if m = n then some (old ++ b) else look st m := by
  obtain ⟨hh, hfa⟩ := look_some hn
  obtain ⟨f, h1, h2, _⟩ := hi.idx hh
  have he : append st n b = ({ (step st).1 with files := grow st.files (Fs.idx st n) b }, 0) := by
    unfold append
    rw [if_neg (by rw [openE_of hg hh]; simp), hfa, if_neg (by omega), step_calm hc, if_neg (by simp), if_neg (by omega)]
  have hgr : grow st.files (Fs.idx st n) b = st.files.set (Fs.idx st n) (f.1 ++ b, f.2) := by unfold grow; rw [h1]
  have hfe : f.1 = old := by rw [← h2, hfa]
  rw [he, step_calm hc, hgr, hfe]
  obtain ⟨k1, k2⟩ := look_set (st' := { st with steps := wrap64 (st.steps + 1), files := st.files.set (Fs.idx st n) (old ++ b, f.2) }) (f' := (old ++ b, f.2)) hc hi rfl rfl hh
  exact ⟨rfl, ⟨⟨hc.1, hc.2⟩, k1, rfl, by simp, Nat.le_refl _⟩, rfl, ⟨Fs.idx st n, by rw [h1]; rfl⟩, k2⟩
theorem calm_sync (hg : good n = true) {old : List UInt8} (hn : look st n = some old) :
    (sync st n).2 = 0 ∧ Next st (sync st n).1 0 ∧ (sync st n).1.dir = st.dir ∧ (∃ i, (sync st n).1.files = st.files.set i (old, old.length)) ∧ ∀ m, look (sync st n).1 m = look st m := by
  obtain ⟨hh, hfa⟩ := look_some hn
  obtain ⟨f, h1, h2, _⟩ := hi.idx hh
  have he : sync st n = ({ (step st).1 with files := flush st.files (Fs.idx st n) }, 0) := by
    unfold sync
    rw [if_neg (by rw [openE_of hg hh]; simp), step_calm hc, if_neg (by simp)]
  have hfe : f.1 = old := by rw [← h2, hfa]
  have hgr : flush st.files (Fs.idx st n) = st.files.set (Fs.idx st n) (old, old.length) := by unfold flush; rw [h1]; simp only [hfe]
  rw [he, step_calm hc, hgr]
  obtain ⟨k1, k2⟩ := look_set (st' := { st with steps := wrap64 (st.steps + 1), files := st.files.set (Fs.idx st n) (old, old.length) }) (f' := (old, old.length)) hc hi rfl rfl hh
  refine ⟨rfl, ⟨⟨hc.1, hc.2⟩, k1, rfl, by simp, Nat.le_refl _⟩, rfl, ⟨_, rfl⟩, fun m => ?_⟩
  rw [k2 m]
  by_cases hm : m = n
  · rw [if_pos hm, hm, hn]
  · rw [if_neg hm]
theorem calm_syncDir : (syncDir st).2 = 0 ∧ Next st (syncDir st).1 0 ∧ (syncDir st).1.dir = st.dir ∧ (syncDir st).1.files = st.files ∧ ∀ m, look (syncDir st).1 m = look st m := by
  have he : syncDir st = ({ (step st).1 with sure := st.dir, changes := [] }, 0) := by
    unfold syncDir
    rw [step_calm hc, if_neg (by simp)]
  rw [he, step_calm hc]
  exact ⟨rfl, ⟨⟨hc.1, hc.2⟩, ⟨hi.nd, hi.inj, hi.known, hi.gd⟩, rfl, Nat.le_refl _, Nat.zero_le _⟩, rfl, rfl, fun m => rfl⟩
theorem calm_remove (hg : good n = true) (hn : mhas st.dir n = true) :
    (remove st n).2 = 0 ∧ Next st (remove st n).1 1 ∧ (remove st n).1.dir = mdel st.dir n ∧ (remove st n).1.files = st.files ∧ ∀ m, look (remove st n).1 m = if m = n then none else look st m := by
  have he : remove st n = (turned (step st).1 [(n, -1)], 0) := by
    unfold remove
    rw [if_neg (by rw [openE_of hg hn]; simp), step_calm hc, if_neg (by simp)]
  rw [he, step_calm hc]
  refine ⟨rfl, ⟨⟨hc.1, hc.2⟩, ⟨pw_mdel hi.nd, fun p hp q hq => hi.inj p (mdel_mem.1 hp).1 q (mdel_mem.1 hq).1, fun p hp => hi.known p (mdel_mem.1 hp).1, fun p hp => hi.gd p (mdel_mem.1 hp).1⟩, rfl, Nat.le_succ _, by simp [turned]⟩, rfl, rfl, fun m => ?_⟩
  show (if mhas (mdel st.dir n) m then some (match st.files[(mget (mdel st.dir n) m).toNat]? with | some f => f.1 | none => []) else none) = _
  rw [mhas_mdel]
  by_cases hm : m = n
  · rw [if_pos hm, decide_eq_true hm]; rfl
  · rw [if_neg hm, decide_eq_false hm, mget_mdel _ _ _ hm]; rfl
theorem calm_rename {nt old : List UInt8} (hg : good n = true) (hg2 : good nt = true) (hne : n ≠ nt) (hn : look st n = some old) :
    (rename st n nt).2 = 0 ∧ Next st (rename st n nt).1 1 ∧ (rename st n nt).1.dir.length ≤ st.dir.length ∧ (mhas st.dir nt = true → (rename st n nt).1.dir.length + 1 ≤ st.dir.length) ∧ (rename st n nt).1.files = st.files ∧
      ∀ m, look (rename st n nt).1 m = if m = nt then some old else if m = n then none else look st m := by
  obtain ⟨hh, hfa⟩ := look_some hn
  obtain ⟨f, h1, h2, hmem⟩ := hi.idx hh
  obtain ⟨p, hp1, hp2, hp3⟩ := mget_mem hh
  have hkn := hi.known p hp1
  have he : rename st n nt = (turned (step st).1 [(n, -1), (nt, mget st.dir n)], 0) := by
    unfold rename
    rw [if_neg (by rw [hg, hg2]; simp), if_neg (by rw [hh]; simp), step_calm hc, if_neg (by simp)]
  have hdir : doAll st.dir [(n, -1), (nt, mget st.dir n)] = mput (mdel st.dir n) nt (mget st.dir n) := by
    show doOne (doOne st.dir (n, -1)) (nt, mget st.dir n) = _
    have e1 : doOne st.dir (n, -1) = mdel st.dir n := by unfold doOne; exact if_pos (show (-1 : Int) < 0 by decide)
    rw [e1]
    unfold doOne
    rw [if_neg (show ¬ mget st.dir n < 0 by rw [← hp3]; omega)]
  have hl1 := mdel_len_has hh
  rw [he, step_calm hc]
  refine ⟨rfl, ⟨⟨hc.1, hc.2⟩, ⟨?_, ?_, ?_, ?_⟩, rfl, Nat.le_succ _, by simp [turned]⟩, ?_, fun ht => ?_, rfl, fun m => ?_⟩
  · show (doAll st.dir _).Pairwise _
    rw [hdir]; exact pw_mput (pw_mdel hi.nd)
  · show ∀ p ∈ doAll st.dir _, ∀ q ∈ doAll st.dir _, _
    rw [hdir]
    have key : ∀ q ∈ mdel st.dir n, q.2 ≠ mget st.dir n := fun q hq e => by
      obtain ⟨hq1, hq2⟩ := mdel_mem.1 hq
      exact hq2 (by rw [← hp2]; exact hi.inj q hq1 p hp1 (by rw [hp3]; exact e))
    intro a ha b hb e
    rcases mput_mem.1 ha with rfl | ⟨ha1, _⟩ <;> rcases mput_mem.1 hb with rfl | ⟨hb1, _⟩
    · rfl
    · exact absurd e.symm (key b hb1)
    · exact absurd e (key a ha1)
    · exact hi.inj a (mdel_mem.1 ha1).1 b (mdel_mem.1 hb1).1 e
  · show ∀ p ∈ doAll st.dir _, _
    rw [hdir]
    intro q hq
    rcases mput_mem.1 hq with rfl | ⟨hq1, _⟩
    · rw [hp3] at hkn; exact hkn
    · exact hi.known q (mdel_mem.1 hq1).1
  · show ∀ p ∈ doAll st.dir _, _
    rw [hdir]
    intro q hq
    rcases mput_mem.1 hq with rfl | ⟨hq1, _⟩
    · exact hg2
    · exact hi.gd q (mdel_mem.1 hq1).1
  · show (doAll st.dir _).length ≤ _
    rw [hdir, mput_len2]
    have := mdel_len (mdel st.dir n) nt
    omega
  · show (doAll st.dir _).length + 1 ≤ _
    rw [hdir, mput_len2]
    have : mhas (mdel st.dir n) nt = true := by rw [mhas_mdel, ht, decide_eq_false (fun e => hne e.symm)]; rfl
    have := mdel_len_has this
    omega
  · show (if mhas (doAll st.dir _) m then some (match st.files[(mget (doAll st.dir _) m).toNat]? with | some f => f.1 | none => []) else none) = _
    rw [hdir, mhas_mput, mget_mput, mhas_mdel]
    by_cases hm : m = nt
    · rw [if_pos hm, if_pos hm.symm, decide_eq_true hm.symm, Bool.true_or, if_pos rfl]
      have : st.files[(mget st.dir n).toNat]? = some f := h1
      rw [this, ← hfa, h2]
    · have hm' : ¬ nt = m := fun e => hm e.symm
      rw [if_neg hm, if_neg hm', decide_eq_false hm', Bool.false_or]
      by_cases hmn : m = n
      · rw [if_pos hmn, decide_eq_true hmn]; rfl
      · rw [if_neg hmn, decide_eq_false hmn, mget_mdel _ _ _ hmn]; rfl
end
/-- The bytes in use, by what the names' files hold. -/
theorem used_look {st : St} (hi : Inv st) {M : Nat} (hM : ∀ n b, look st n = some b → b.length ≤ M) : used st ≤ st.dir.length * M := by
  have : ∀ l : Names, (∀ p ∈ l, p ∈ st.dir) → usedL st l ≤ l.length * M := by
    intro l
    induction l with
    | nil => intro _; exact Nat.zero_le _
    | cons p l ih =>
      intro h
      have h1 := ih (fun q hq => h q (List.mem_cons_of_mem _ hq))
      have hp := h p List.mem_cons_self
      have hh : mhas st.dir p.1 = true := mhas_mem.2 ⟨p, hp, rfl⟩
      obtain ⟨f, f1, f2, f3⟩ := hi.idx hh
      have e : mget st.dir p.1 = p.2 := mget_of (fun a ha b hb e => by
        by_cases hab : a = b
        · rw [hab]
        · have := hi.nd
          rcases List.mem_iff_getElem.1 ha with ⟨i, hi1, rfl⟩
          rcases List.mem_iff_getElem.1 hb with ⟨j, hj1, rfl⟩
          rw [List.pairwise_iff_getElem] at this
          rcases Nat.lt_trichotomy i j with h | h | h
          · exact absurd e (this i j hi1 hj1 h)
          · subst h; rfl
          · exact absurd e.symm (this j i hj1 hi1 h)) (show (p.1, p.2) ∈ st.dir from hp)
      have h2 : lenAt st p.2 ≤ M := by
        have : lenAt st p.2 = f.1.length := by
          unfold lenAt
          unfold Fs.idx at f1
          rw [e] at f1
          rw [f1]
        rw [this, ← f2]
        exact hM p.1 _ (by unfold look; rw [if_pos hh])
      unfold usedL at h1 ⊢
      rw [List.map_cons, List.sum_cons, List.length_cons, Nat.succ_mul]
      omega
  exact this st.dir (fun _ h => h)
end Fs
end Go.Proofs.YtcinagglbkbmkaaGreatDoor
namespace Go.Proofs.YtcinagglbkbmkaaGreatDoor
set_option linter.unusedSimpArgs false
set_option linter.unusedVariables false
open Go Go.RowKit

namespace Fr
theorem sum_bounds (l : List UInt8) : 0 ≤ sum l ∧ sum l < 4294967296 := bits_u32 _ _ _
theorem four_app (n : Int) (r : List UInt8) : (four n ++ r).length = 4 + r.length := by rw [List.length_append]; rfl
theorem num_bytes {k : Int} {p : List UInt8} (hp : p.length ≤ 8192) (r : List UInt8) : num (bytes k p ++ r) = p.length := by
  have := num_four (p.length : Int) (by omega) (by omega) ((inner k p ++ four (sum (inner k p))) ++ r)
  unfold bytes
  rw [List.append_assoc]
  omega
theorem bytes_take {k : Int} {p : List UInt8} (r : List UInt8) : (bytes k p ++ r).take (9 + p.length) = bytes k p := by
  have h : 9 + p.length = (bytes k p).length := by rw [bytes_len]; omega
  rw [h, List.take_left]
theorem bytes_drop {k : Int} {p : List UInt8} (r : List UInt8) : (bytes k p ++ r).drop (9 + p.length) = r := by
  have h : 9 + p.length = (bytes k p).length := by rw [bytes_len]; omega
  rw [h, List.drop_left]
theorem kind_bytes {k : Int} {p : List UInt8} (hk : 1 ≤ k ∧ k ≤ 9) : kind (bytes k p) = k := by
  unfold kind
  have : (bytes k p).getD 4 0 = byte k := rfl
  rw [this, byte_val]
  omega
theorem pay_bytes {k : Int} {p : List UInt8} : pay (bytes k p) = p := by
  unfold pay
  rw [bytes_len, show p.length + 9 - 9 = p.length by omega]
  have : (bytes k p).drop 5 = p ++ four (sum (inner k p)) := rfl
  rw [this, List.take_left]
theorem body_bytes {k : Int} {p : List UInt8} : body (bytes k p) = inner k p := by
  unfold body
  rw [bytes_len, show p.length + 9 - 8 = (inner k p).length by unfold inner; simp]
  have : (bytes k p).drop 4 = inner k p ++ four (sum (inner k p)) := rfl
  rw [this, List.take_left]
theorem tail_bytes {k : Int} {p : List UInt8} : (bytes k p).drop ((bytes k p).length - 4) = four (sum (inner k p)) := by
  rw [bytes_len, show p.length + 9 - 4 = (four (p.length : Int) ++ inner k p).length by rw [four_app]; unfold inner; simp; omega]
  unfold bytes
  rw [← List.append_assoc, List.drop_left]
/-- What is encoded is decoded. -/
theorem dec_bytes {k : Int} {p : List UInt8} (h : encE k p = 0) : decE (bytes k p) = 0 ∧ (1 ≤ k ∧ k ≤ 9) ∧ p.length ≤ 8192 := by
  unfold encE at h
  by_cases h1 : k < 1 ∨ 9 < k
  · rw [if_pos h1] at h; cases h
  · rw [if_neg h1] at h
    by_cases h2 : 8192 < p.length
    · rw [if_pos h2] at h; cases h
    · have hk : 1 ≤ k ∧ k ≤ 9 := by omega
      have hp : p.length ≤ 8192 := by omega
      refine ⟨?_, hk, hp⟩
      have hn := num_bytes (k := k) hp []
      rw [List.append_nil] at hn
      have hs := sum_bounds (inner k p)
      have hnf := num_four (sum (inner k p)) hs.1 hs.2 []
      rw [List.append_nil] at hnf
      unfold decE
      rw [hn, kind_bytes hk, body_bytes, tail_bytes, hnf, bytes_len, if_neg (by omega), if_neg (by omega), if_neg (by simp)]
theorem go_frame {k : Int} {p : List UInt8} (h : encE k p = 0) (r : List UInt8) : stop (bytes k p ++ r) = false ∧ first (bytes k p ++ r) = (k, p) ∧ (bytes k p ++ r).drop (9 + num (bytes k p ++ r)) = r ∧ 9 + num (bytes k p ++ r) = (bytes k p).length := by
  obtain ⟨h1, h2, h3⟩ := dec_bytes h
  have hn := num_bytes (k := k) h3 r
  refine ⟨?_, ?_, ?_, ?_⟩
  · unfold stop
    rw [hn, bytes_take, h1, List.length_append, bytes_len]
    simp
    omega
  · unfold first
    rw [hn, bytes_take, kind_bytes h2, pay_bytes]
  · rw [hn, bytes_drop]
  · rw [hn, bytes_len]; omega
/-- Frames behind one another. -/
def flat (fs : List F) : List UInt8 := fs.flatMap fun f => bytes f.1 f.2
theorem flat_app (a b : List F) : flat (a ++ b) = flat a ++ flat b := List.flatMap_append ..
theorem flat_one (f : F) : flat [f] = bytes f.1 f.2 := by simp [flat]
theorem scanGo_flat (t : List UInt8) (ht : stop t = true) : ∀ (fs : List F) (k : Nat) (out : List F) (a : Nat), (∀ f ∈ fs, encE f.1 f.2 = 0) → fs.length < k →
    scanGo k (flat fs ++ t) out a = (out ++ fs, a + (flat fs).length)
  | [], k, out, a, _, hk => by
    obtain ⟨k', rfl⟩ : ∃ k', k = k' + 1 := ⟨k - 1, by simp at hk; omega⟩
    show (if stop ([] ++ t) then _ else _) = _
    rw [List.nil_append, if_pos ht]
    simp [flat]
  | f :: fs, k, out, a, hf, hk => by
    obtain ⟨k', rfl⟩ : ∃ k', k = k' + 1 := ⟨k - 1, by simp at hk; omega⟩
    have hfl : flat (f :: fs) = bytes f.1 f.2 ++ flat fs := by simp [flat]
    obtain ⟨h1, h2, h3, h4⟩ := go_frame (hf f List.mem_cons_self) (flat fs ++ t)
    rw [hfl, List.append_assoc]
    unfold scanGo
    rw [if_neg (by rw [h1]; simp), h2, h3, h4, scanGo_flat t ht fs k' (out ++ [(f.1, f.2)]) _ (fun g hg => hf g (List.mem_cons_of_mem _ hg)) (by simp at hk; omega), List.append_assoc, List.length_append, Nat.add_assoc]
    rfl
theorem flat_len (fs : List F) : fs.length ≤ (flat fs).length := by
  induction fs with
  | nil => simp
  | cons f fs ih =>
    have hfl : flat (f :: fs) = bytes f.1 f.2 ++ flat fs := by simp [flat]
    rw [hfl, List.length_append, bytes_len, List.length_cons]
    omega
theorem scan_flat (t : List UInt8) (ht : stop t = true) (fs : List F) (hf : ∀ f ∈ fs, encE f.1 f.2 = 0) : scan (flat fs ++ t) = (fs, (flat fs).length) := by
  unfold scan
  rw [scanGo_flat t ht fs _ [] 0 hf (by have := flat_len fs; rw [List.length_append]; omega)]
  simp
theorem stop_nil : stop [] = true := rfl
end Fr

namespace Sg
theorem good_name {id : Int} (h : nameE id = 0) : Fs.good (nameB id) = true := by
  obtain ⟨h1, h2, h3⟩ := name_of h
  obtain ⟨_, hd⟩ := dval_dec id.toNat 0
  have hl := nameB_len id
  have hlen : (nameB id).length ≤ 20 := by
    have hr := (id_name h).2
    have hne : refId (nameB id) ≠ 0 := by rw [hr]; omega
    unfold refId at hne
    by_cases hc : (nameB id).length < 5 ∨ 14 < (nameB id).length ∨ (nameB id).take 4 ≠ seg
    · rw [if_pos hc] at hne; exact absurd rfl hne
    · omega
  unfold Fs.good
  rw [h3] at hlen ⊢
  have hall : (seg ++ Lib.decDigits id.toNat).all Fs.goodB = true := by
    rw [List.all_append, Bool.and_eq_true]
    refine ⟨by decide, List.all_eq_true.2 fun c hc => ?_⟩
    have := List.all_eq_true.1 hd c hc
    unfold isDig at this
    simp only [Bool.and_eq_true, decide_eq_true_eq] at this
    unfold Fs.goodB
    simp [this.1, this.2]
  rw [hall, decide_eq_true (p := 1 ≤ (seg ++ Lib.decDigits id.toNat).length) (by rw [List.length_append]; show 1 ≤ 4 + _; omega), decide_eq_true hlen]
  rfl
theorem name_inj {a b : Int} (ha : nameE a = 0) (hb : nameE b = 0) (h : nameB a = nameB b) : a = b := by
  have h1 := (id_name ha).1
  have h2 := (id_name hb).1
  rw [h] at h1
  omega

/-- Segments: their ids, their frames. -/
abbrev Seg := Int × List Fr.F
def segs (l : List Seg) : Fs.Segs := l.map fun s => (nameB s.1, Fr.flat s.2)
structure RepS (st : Fs.St) (l : List Seg) : Prop where
  rep : Fs.Rep st (segs l)
  ok : ∀ s ∈ l, nameE s.1 = 0
  enc : ∀ s ∈ l, ∀ f ∈ s.2, Fr.encE f.1 f.2 = 0
def size (l : List Seg) : Nat := (l.map fun s => (Fr.flat s.2).length).sum
theorem segs_size (l : List Seg) : ((segs l).map (·.2.length)).sum = size l := by
  unfold segs size
  rw [List.map_map]
  rfl
theorem seg_at {l : List Seg} {i : Nat} {s : Seg} (h : l[i]? = some s) : (segs l)[i]? = some (nameB s.1, Fr.flat s.2) := by
  unfold segs
  rw [List.getElem?_map, h]
  rfl
section
variable {st : Fs.St} {l : List Seg}
theorem RepS.create (h : RepS st l) {id : Int} (hid : nameE id = 0) (hn : ∀ s ∈ l, s.1 ≠ id) (hl : l.length < 64) :
    (Sg.create st id).2 = 0 ∧ RepS (Sg.create st id).1 (l ++ [(id, [])]) ∧ (Sg.create st id).1.room = st.room ∧ (Sg.create st id).1.changes = [] := by
  obtain ⟨h1, h2, h3, _⟩ := h.rep.create (good_name hid) (fun s hs e => by
    unfold segs at hs
    obtain ⟨t, ht, rfl⟩ := List.mem_map.1 hs
    exact hn t ht (name_inj (h.ok t ht) hid e)) (by unfold segs; simpa using hl)
  obtain ⟨h5, h6, h7, h8⟩ := h2.syncDir
  have he : Sg.create st id = Fs.syncDir (Fs.create st (nameB id)).1 := by
    unfold Sg.create
    rw [if_neg (by rw [hid]; simp), if_neg (by rw [h1]; simp)]
  rw [he]
  refine ⟨h5, ⟨?_, fun s hs => ?_, fun s hs => ?_⟩, h7.trans h3, h8⟩
  · have : segs (l ++ [(id, [])]) = segs l ++ [(nameB id, [])] := by unfold segs; rw [List.map_append]; rfl
    rw [this]
    exact h6
  · rcases List.mem_append.1 hs with hs | hs
    · exact h.ok s hs
    · simp at hs; subst hs; exact hid
  · rcases List.mem_append.1 hs with hs | hs
    · exact h.enc s hs
    · simp at hs; subst hs; intro f hf; simp at hf
theorem RepS.append (h : RepS st l) {i : Nat} {s : Seg} (hi : l[i]? = some s) {k : Int} {p : List UInt8} (hk : Fr.encE k p = 0) (hb : (Fr.flat s.2).length + (p.length + 9) ≤ 65536) (hr : (size l : Int) + (p.length + 9 : Nat) ≤ st.room) :
    (Sg.append st s.1 k p).2 = 0 ∧ RepS (Sg.append st s.1 k p).1 (l.set i (s.1, s.2 ++ [(k, p)])) ∧ (Sg.append st s.1 k p).1.room = st.room ∧ (Sg.append st s.1 k p).1.changes = st.changes := by
  have hid := h.ok s (List.mem_of_getElem? hi)
  have hg := good_name hid
  obtain ⟨h1, h2, h3, h4⟩ := h.rep.append (s := (nameB s.1, Fr.flat s.2)) (seg_at hi) hg (Fr.bytes k p) (by rw [Fr.bytes_len]; exact hb) (by rw [segs_size, Fr.bytes_len]; exact hr)
  have hlt : i < (segs l).length := (List.getElem?_eq_some_iff.1 (seg_at hi)).1
  obtain ⟨h5, h6, h7, h8⟩ := h2.sync (i := i) (s := (nameB s.1, Fr.flat s.2 ++ Fr.bytes k p)) (List.getElem?_set_self hlt) hg
  have he : Sg.append st s.1 k p = Fs.sync (Fs.append st (nameB s.1) (Fr.bytes k p)).1 (nameB s.1) := by
    unfold Sg.append
    rw [if_neg (by rw [hid]; simp), if_neg (by rw [hk]; simp), if_neg (by rw [h1]; simp)]
  rw [he]
  refine ⟨h5, ⟨?_, fun t ht => ?_, fun t ht => ?_⟩, h7.trans h3, h8.trans h4⟩
  · have : segs (l.set i (s.1, s.2 ++ [(k, p)])) = (segs l).set i (nameB s.1, Fr.flat s.2 ++ Fr.bytes k p) := by
      unfold segs
      rw [List.map_set, Fr.flat_app, Fr.flat_one]
    rw [this]
    exact h6
  · rcases List.mem_or_eq_of_mem_set ht with ht | rfl
    · exact h.ok t ht
    · exact hid
  · rcases List.mem_or_eq_of_mem_set ht with ht | rfl
    · exact h.enc t ht
    · intro f hf
      rcases List.mem_append.1 hf with hf | hf
      · exact h.enc s (List.mem_of_getElem? hi) f hf
      · simp at hf; subst hf; exact hk
/-- All segments, in their order. -/
theorem read_go (hS : ∀ s ∈ l, Fs.openE st (nameB s.1) = 0) (hF : ∀ s ∈ l, Fr.scan (Fs.fileAt st (nameB s.1)) = (s.2, (Fs.fileAt st (nameB s.1)).length)) :
    ∀ (out : List En), readGo st (l.map (·.1)) out true = (out ++ l.flatMap (fun s => s.2.map fun f => (s.1, f)), true, 0) := by
  induction l with
  | nil => intro out; simp [readGo]
  | cons s l ih =>
    intro out
    rw [List.map_cons, readGo_cons, if_neg (by rw [hS s List.mem_cons_self]; simp), hF s List.mem_cons_self]
    simp only [decide_true]
    rw [ih (fun t ht => hS t (List.mem_cons_of_mem _ ht)) (fun t ht => hF t (List.mem_cons_of_mem _ ht)), List.append_assoc, List.flatMap_cons]
theorem bad_none : ∀ (l : List Seg), (∀ s ∈ l, nameE s.1 = 0) → badE (l.map (·.1)) = 0
  | [], _ => rfl
  | s :: l, h => by
    rw [List.map_cons, badE_cons, if_neg (by rw [h s List.mem_cons_self]; simp)]
    exact bad_none l (fun t ht => h t (List.mem_cons_of_mem _ ht))
theorem RepS.read (h : RepS st l) : Sg.read st (l.map (·.1)) = (l.flatMap (fun s => s.2.map fun f => (s.1, f)), true, 0) := by
  unfold Sg.read
  rw [if_neg (by rw [bad_none l h.ok]; simp), read_go (l := l)]
  · rfl
  · intro s hs
    obtain ⟨i, hi⟩ := List.getElem?_of_mem hs
    exact (h.rep.at (seg_at hi)).2.2 (good_name (h.ok s hs))
  · intro s hs
    obtain ⟨i, hi⟩ := List.getElem?_of_mem hs
    have := (h.rep.at (seg_at hi)).2.1
    show Fr.scan (Fs.fileAt st (nameB s.1)) = (s.2, (Fs.fileAt st (nameB s.1)).length)
    rw [show Fs.fileAt st (nameB s.1) = Fr.flat s.2 from this]
    have h2 := Fr.scan_flat [] Fr.stop_nil s.2 (h.enc s hs)
    rwa [List.append_nil] at h2
end
end Sg
end Go.Proofs.YtcinagglbkbmkaaGreatDoor
namespace Go.Proofs.YtcinagglbkbmkaaGreatDoor
set_option linter.unusedSimpArgs false
set_option linter.unusedVariables false
open Go Go.RowKit
open Go.Maps Go.WideMaps

namespace Fs
def arm (st : St) (n : Int) : St × Int := if n < 0 then (st, 1) else if st.left = 0 then (st, 22) else ({ st with left := n }, 0)
end Fs
theorem root1 {w : World} {B : Nat} {st : Fs.St} {V : FsV} {t : TypeId} (h : w.heap[B]? = some (.cells (FsCells st V) t (0, 0))) (l : Int) :
    (w.setCell ⟨B, 1, none⟩ (.int .i64 l)).heap[B]? = some (.cells (FsCells { st with left := l } V) t (0, 0)) := heap_set h _
set_option maxHeartbeats 1000000 in
set_option maxRecDepth 100000 in
theorem arm_any (base B : Nat) (st : Fs.St) (V : FsV) (own : Nat → Tag) (n : Int) (w : World) (h : FsOK base B st V own w) (hn : n ≤ 9223372036854775807) :
    Calls Tryz.prog 29 #[.pointer (some ⟨B, 0, none⟩), .int .i64 n] w fun e w' => e = .returned (.int .i64 (Fs.arm st n).2) ∧ OpPost base B (Fs.arm st n).1 own w w' := by
  have c1 : w.cell? ⟨B, 1, none⟩ = some (.int .i64 st.left) := root_cell h.at_.root 1 _ rfl
  have f1 := root_frozen h.at_.root 1
  have H := Lib.hid h
  clear h
  go_enter Tryz.func29, Tryz.ntmps29
  by_cases h0 : n < 0
  · have HE : Hid (Fs.arm st n = (st, 1)) := by unfold Fs.arm; rw [if_pos h0]; exact Lib.hid rfl
    go_wp2
    go_ret
    rw [HE.out]
    exact ⟨rfl, OpPost.refl H.out⟩
  · by_cases h1 : st.left = 0
    · have HE : Hid (Fs.arm st n = (st, 22)) := by unfold Fs.arm; rw [if_neg h0, if_pos h1]; exact Lib.hid rfl
      go_wp2
      go_ret
      rw [HE.out]
      exact ⟨rfl, OpPost.refl H.out⟩
    · have HE : Hid (Fs.arm st n = ({ st with left := n }, 0)) := by unfold Fs.arm; rw [if_neg h0, if_neg h1]; exact Lib.hid rfl
      have HN0 : Hid (0 ≤ n) := Lib.hid (by omega)
      go_wp2
      go_ret
      rw [HE.out]
      have hk : Kept own (· = .root) w (w.setCell ⟨B, 1, none⟩ (.int .i64 n)) := (Kept.refl _ _ _).setCell ⟨B, 1, none⟩ H.out.at_.tB _
      have hat := H.out.at_.power (s := st.steps) (l := n) (p := st.plan) (pv := V.pv) hk ⟨by have := HN0.out; omega, hn⟩ H.out.at_.plan (root1 H.out.at_.root n)
      exact ⟨rfl, V, own, ⟨hat, fun k hk2 => H.out.fresh k (Nat.le_trans hk.size hk2), H.out.old⟩, fun _ _ => rfl, hk.mono (fun t ht => by rw [ht]; simp)⟩
end Go.Proofs.YtcinagglbkbmkaaGreatDoor
