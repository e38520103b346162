/-
  The file system in calm weather: what its files hold (no program in sight).
-/
import Derived.Test.YtcimobbppmpmgaaDoorSg6
namespace Go.Proofs.YtcimobbppmpmgaaDoor
set_option linter.unusedSimpArgs false
set_option linter.unusedVariables false
open Go Go.RowKit

namespace Fs
/-- No power goes; no step is planned to fail. -/
def Calm (st : St) : Prop := st.left = -1 ∧ st.plan = []
theorem step_calm {st : St} (h : Calm st) : step st = ({ st with steps := wrap64 (st.steps + 1) }, 0, 0) := by
  obtain ⟨h1, h2⟩ := h
  unfold step
  rw [if_neg (by omega), h2, if_neg (by omega)]
  cases st
  simp only at h1 h2
  subst h1 h2
  rfl
theorem mem_mins (x : List UInt8 × Int) : ∀ l : Names, (mins x l).Perm (x :: l)
  | [] => List.Perm.refl _
  | y :: r => by
    unfold mins
    split
    · exact List.Perm.refl _
    · exact ((mem_mins x r).cons y).trans (List.Perm.swap x y r)
theorem mdel_none {l : Names} {k : List UInt8} (h : mhas l k = false) : mdel l k = l := by
  unfold mdel
  rw [List.filter_eq_self]
  intro p hp
  unfold mhas at h
  rw [List.any_eq_false] at h
  have := h p hp
  simpa using this
theorem mput_new {l : Names} {k : List UInt8} (h : mhas l k = false) (v : Int) : (mput l k v).Perm ((k, v) :: l) := by
  unfold mput
  rw [mdel_none h]
  exact mem_mins _ _
theorem mhas_perm {l l' : Names} (h : l.Perm l') (k : List UInt8) : mhas l k = mhas l' k := by
  unfold mhas
  rw [Bool.eq_iff_iff, List.any_eq_true, List.any_eq_true]
  constructor
  · rintro ⟨p, h1, h2⟩; exact ⟨p, h.mem_iff.1 h1, h2⟩
  · rintro ⟨p, h1, h2⟩; exact ⟨p, h.mem_iff.2 h1, h2⟩
/-- Keys that differ: what is found is what was put. -/
theorem mget_of {l : Names} (hnd : ∀ p ∈ l, ∀ q ∈ l, p.1 = q.1 → p.2 = q.2) {k : List UInt8} {v : Int} (h : (k, v) ∈ l) : mget l k = v := by
  obtain ⟨p, hp, h1, h2⟩ := mget_mem (l := l) (k := k) (by unfold mhas; rw [List.any_eq_true]; exact ⟨(k, v), h, by simp⟩)
  rw [← h2]
  exact hnd p hp (k, v) h h1

abbrev Segs := List (List UInt8 × List UInt8)
def dirGo : Nat → Segs → Names
  | _, [] => []
  | i, s :: r => (s.1, (i : Int)) :: dirGo (i + 1) r
theorem dirGo_app : ∀ (l r : Segs) (i : Nat), dirGo i (l ++ r) = dirGo i l ++ dirGo (i + l.length) r
  | [], r, i => rfl
  | s :: l, r, i => by
    rw [List.cons_append, dirGo, dirGo, dirGo_app l r (i + 1), List.cons_append, List.length_cons, Nat.add_right_comm, Nat.add_assoc]
theorem dirGo_mem : ∀ (l : Segs) (i j : Nat) (s : List UInt8 × List UInt8), l[j]? = some s → (s.1, ((i + j : Nat) : Int)) ∈ dirGo i l
  | [], i, j, s, h => by simp at h
  | x :: l, i, 0, s, h => by
    simp at h; subst h
    exact List.mem_cons_self
  | x :: l, i, j + 1, s, h => by
    have := dirGo_mem l (i + 1) j s (by simpa using h)
    rw [show i + (j + 1) = i + 1 + j by omega]
    exact List.mem_cons_of_mem _ this
theorem dirGo_inv : ∀ (l : Segs) (i : Nat) (p : List UInt8 × Int), p ∈ dirGo i l → ∃ j s, l[j]? = some s ∧ p = (s.1, ((i + j : Nat) : Int))
  | [], i, p, h => by simp [dirGo] at h
  | x :: l, i, p, h => by
    rw [dirGo] at h
    rcases List.mem_cons.1 h with h | h
    · exact ⟨0, x, rfl, h⟩
    · obtain ⟨j, s, h1, h2⟩ := dirGo_inv l (i + 1) p h
      exact ⟨j + 1, s, by simpa using h1, by rw [h2, show i + (j + 1) = i + 1 + j by omega]⟩
theorem dirGo_len : ∀ (l : Segs) (i : Nat), (dirGo i l).length = l.length
  | [], _ => rfl
  | s :: l, i => by rw [dirGo, List.length_cons, dirGo_len l, List.length_cons]
theorem dirGo_names : ∀ (l l' : Segs) (i : Nat), l.map (·.1) = l'.map (·.1) → dirGo i l = dirGo i l'
  | [], [], _, _ => rfl
  | [], x :: l, _, h => by simp at h
  | x :: l, [], _, h => by simp at h
  | x :: l, y :: l', i, h => by
    simp only [List.map_cons, List.cons.injEq] at h
    rw [dirGo, dirGo, h.1, dirGo_names l l' (i + 1) h.2]

/-- What the files hold, by their names, in the order in which they were made. -/
structure Rep (st : St) (segs : Segs) : Prop where
  calm : Calm st
  files : st.files.map (·.1) = segs.map (·.2)
  dir : st.dir.Perm (dirGo 0 segs)
  names : ∀ (i j : Nat) s t, segs[i]? = some s → segs[j]? = some t → s.1 = t.1 → i = j

section
variable {st : St} {segs : Segs}
theorem Rep.len (h : Rep st segs) : st.files.length = segs.length := by
  have := congrArg List.length h.files
  simpa using this
theorem Rep.dlen (h : Rep st segs) : st.dir.length = segs.length := by rw [h.dir.length_eq, dirGo_len]
theorem Rep.keys (h : Rep st segs) : ∀ p ∈ st.dir, ∀ q ∈ st.dir, p.1 = q.1 → p.2 = q.2 := by
  intro p hp q hq e
  obtain ⟨i, s, h1, rfl⟩ := dirGo_inv segs 0 p (h.dir.mem_iff.1 hp)
  obtain ⟨j, t, h2, rfl⟩ := dirGo_inv segs 0 q (h.dir.mem_iff.1 hq)
  have := h.names i j s t h1 h2 e
  subst this
  rfl
theorem Rep.has (h : Rep st segs) (n : List UInt8) : mhas st.dir n = segs.any (fun s => s.1 == n) := by
  rw [mhas_perm h.dir]
  unfold mhas
  rw [Bool.eq_iff_iff, List.any_eq_true, List.any_eq_true]
  constructor
  · rintro ⟨p, h1, h2⟩
    obtain ⟨j, s, h3, rfl⟩ := dirGo_inv segs 0 p h1
    exact ⟨s, List.mem_of_getElem? h3, h2⟩
  · rintro ⟨s, h1, h2⟩
    obtain ⟨j, h3⟩ := List.getElem?_of_mem h1
    exact ⟨_, dirGo_mem segs 0 j s h3, h2⟩
theorem Rep.get (h : Rep st segs) {i : Nat} {s : List UInt8 × List UInt8} (hi : segs[i]? = some s) : mget st.dir s.1 = i := by
  have := dirGo_mem segs 0 i s hi
  rw [Nat.zero_add] at this
  exact mget_of h.keys (h.dir.mem_iff.2 this)
theorem Rep.file (h : Rep st segs) {i : Nat} {s : List UInt8 × List UInt8} (hi : segs[i]? = some s) : ∃ f, st.files[i]? = some f ∧ f.1 = s.2 := by
  have h1 := congrArg (fun l => l[i]?) h.files
  simp only [List.getElem?_map, hi, Option.map_some] at h1
  cases hf : st.files[i]? with
  | none => rw [hf] at h1; cases h1
  | some f => rw [hf] at h1; exact ⟨f, rfl, by simpa using h1⟩
theorem Rep.at (h : Rep st segs) {i : Nat} {s : List UInt8 × List UInt8} (hi : segs[i]? = some s) : idx st s.1 = i ∧ fileAt st s.1 = s.2 ∧ (good s.1 = true → openE st s.1 = 0) := by
  have h1 : idx st s.1 = i := by unfold idx; rw [h.get hi]; rfl
  obtain ⟨f, h2, h3⟩ := h.file hi
  refine ⟨h1, ?_, fun hg => ?_⟩
  · unfold fileAt
    rw [h1, h2]
    exact h3
  · unfold openE
    rw [if_neg (by rw [hg]; simp), h.has, if_neg]
    rw [Bool.not_eq_false, List.any_eq_true]
    exact ⟨s, List.mem_of_getElem? hi, by simp⟩
theorem Rep.used (h : Rep st segs) : used st = (segs.map (·.2.length)).sum := by
  have hp : (st.dir.map fun p => lenAt st p.2).Perm ((dirGo 0 segs).map fun p => lenAt st p.2) := h.dir.map _
  have hs : (st.dir.map fun p => lenAt st p.2).sum = ((dirGo 0 segs).map fun p => lenAt st p.2).sum := hp.sum_nat
  show (st.dir.map fun p => lenAt st p.2).sum = _
  rw [hs]
  have : ∀ (r : Segs) (i : Nat), (∀ j s, r[j]? = some s → segs[i + j]? = some s) → ((dirGo i r).map fun p => lenAt st p.2) = r.map (·.2.length) := by
    intro r
    induction r with
    | nil => intro i _; rfl
    | cons x r ih =>
      intro i hr
      rw [dirGo, List.map_cons, List.map_cons, ih (i + 1) (fun j s hj => by
        have := hr (j + 1) s (by simpa using hj)
        rwa [show i + 1 + j = i + (j + 1) by omega])]
      obtain ⟨f, h1, h2⟩ := h.file (hr 0 x rfl)
      rw [Nat.add_zero] at h1
      congr 1
      show lenAt st (i : Int) = _
      unfold lenAt
      rw [Int.toNat_natCast, h1]
      show f.1.length = _
      rw [h2]
  rw [this segs 0 (fun j s hj => by rw [Nat.zero_add]; exact hj)]

theorem Rep.new (room : Int) : Rep (new room) [] := ⟨⟨rfl, rfl⟩, rfl, List.Perm.refl _, fun i j s t h => by simp at h⟩
/-- A new file. -/
theorem Rep.create (h : Rep st segs) {n : List UInt8} (hg : good n = true) (hn : ∀ s ∈ segs, s.1 ≠ n) (hl : segs.length < 64) :
    (create st n).2 = 0 ∧ Rep (create st n).1 (segs ++ [(n, [])]) ∧ (create st n).1.room = st.room ∧ (create st n).1.changes.length = st.changes.length + 1 := by
  have hhas : mhas st.dir n = false := by
    rw [h.has, List.any_eq_false]
    intro s hs
    simpa using hn s hs
  have he : Fs.create st n = ({ (step st).1 with files := st.files ++ [([], 0)], dir := mput st.dir n st.files.length, changes := st.changes ++ [[(n, (st.files.length : Int))]] }, 0) := by
    unfold Fs.create
    rw [if_neg (by rw [hg]; simp), if_neg (by rw [hhas]; simp), if_neg (by rw [h.dlen]; omega), if_neg (by rw [step_calm h.calm]; simp)]
  rw [he, step_calm h.calm]
  refine ⟨rfl, ⟨⟨h.calm.1, h.calm.2⟩, ?_, ?_, ?_⟩, rfl, by simp⟩
  · show (st.files ++ [(([] : List UInt8), (0 : Nat))]).map (fun f => f.1) = _
    rw [List.map_append, h.files, List.map_append]
    rfl
  · show (mput st.dir n st.files.length).Perm _
    refine (mput_new hhas _).trans ?_
    rw [dirGo_app, Nat.zero_add, h.len]
    refine (h.dir.cons _).trans ?_
    exact (List.perm_append_singleton _ _).symm
  · intro i j s t hi hj e
    rcases Nat.lt_or_ge i segs.length with hi2 | hi2
    · rw [List.getElem?_append_left hi2] at hi
      rcases Nat.lt_or_ge j segs.length with hj2 | hj2
      · rw [List.getElem?_append_left hj2] at hj
        exact h.names i j s t hi hj e
      · rw [List.getElem?_append_right hj2] at hj
        have : t = (n, []) := by
          have := (List.getElem?_eq_some_iff.1 hj).1
          have h0 : j - segs.length = 0 := by simpa using this
          rw [h0] at hj
          simpa using hj.symm
        subst this
        exact absurd e (hn s (List.mem_of_getElem? hi))
    · rw [List.getElem?_append_right hi2] at hi
      have h0 : i - segs.length = 0 := by have := (List.getElem?_eq_some_iff.1 hi).1; simpa using this
      have hs : s = (n, []) := by rw [h0] at hi; simpa using hi.symm
      subst hs
      rcases Nat.lt_or_ge j segs.length with hj2 | hj2
      · rw [List.getElem?_append_left hj2] at hj
        exact absurd e.symm (hn t (List.mem_of_getElem? hj))
      · rw [List.getElem?_append_right hj2] at hj
        have h1 : j - segs.length = 0 := by have := (List.getElem?_eq_some_iff.1 hj).1; simpa using this
        omega
/-- A file grows. -/
theorem Rep.append (h : Rep st segs) {i : Nat} {s : List UInt8 × List UInt8} (hi : segs[i]? = some s) (hg : good s.1 = true) (b : List UInt8) (hb : s.2.length + b.length ≤ 65536)
    (hr : (((segs.map (·.2.length)).sum : Nat) : Int) + b.length ≤ st.room) :
    (append st s.1 b).2 = 0 ∧ Rep (append st s.1 b).1 (segs.set i (s.1, s.2 ++ b)) ∧ (append st s.1 b).1.room = st.room ∧ (append st s.1 b).1.changes = st.changes := by
  obtain ⟨h1, h2, h3⟩ := h.at hi
  obtain ⟨f, hf1, hf2⟩ := h.file hi
  have he : Fs.append st s.1 b = ({ (step st).1 with files := grow st.files (idx st s.1) b }, 0) := by
    unfold Fs.append
    rw [if_neg (by rw [h3 hg]; simp), h2, if_neg (by omega), step_calm h.calm, if_neg (by simp), h.used, if_neg (by omega)]
  have hgr : grow st.files (idx st s.1) b = st.files.set i (f.1 ++ b, f.2) := by
    unfold grow
    rw [h1, hf1]
  rw [he, step_calm h.calm, hgr]
  refine ⟨rfl, ⟨⟨h.calm.1, h.calm.2⟩, ?_, ?_, ?_⟩, rfl, rfl⟩
  · show (st.files.set i (f.1 ++ b, f.2)).map (·.1) = _
    rw [List.map_set, List.map_set, h.files, hf2]
  · show st.dir.Perm _
    rw [dirGo_names (segs.set i (s.1, s.2 ++ b)) segs 0 (by
      rw [List.map_set]
      have hlt := (List.getElem?_eq_some_iff.1 hi).1
      have : (segs.map (·.1))[i]? = some s.1 := by rw [List.getElem?_map, hi]; rfl
      obtain ⟨h5, h6⟩ := List.getElem?_eq_some_iff.1 this
      rw [← h6]
      exact List.set_getElem_self h5)]
    exact h.dir
  · have key : ∀ (k : Nat) t, (segs.set i (s.1, s.2 ++ b))[k]? = some t → ∃ t', segs[k]? = some t' ∧ t'.1 = t.1 := by
      intro k t hk
      by_cases hik : i = k
      · subst hik
        rw [List.getElem?_set_self (List.getElem?_eq_some_iff.1 hi).1] at hk
        simp at hk; subst hk
        exact ⟨s, hi, rfl⟩
      · rw [List.getElem?_set_ne hik] at hk
        exact ⟨t, hk, rfl⟩
    intro a c x y ha hc e
    obtain ⟨x', hx1, hx2⟩ := key a x ha
    obtain ⟨y', hy1, hy2⟩ := key c y hc
    exact h.names a c x' y' hx1 hy1 (by rw [hx2, hy2, e])
theorem Rep.sync (h : Rep st segs) {i : Nat} {s : List UInt8 × List UInt8} (hi : segs[i]? = some s) (hg : good s.1 = true) :
    (sync st s.1).2 = 0 ∧ Rep (sync st s.1).1 segs ∧ (sync st s.1).1.room = st.room ∧ (sync st s.1).1.changes = st.changes := by
  obtain ⟨h1, h2, h3⟩ := h.at hi
  have he : Fs.sync st s.1 = ({ (step st).1 with files := flush st.files (idx st s.1) }, 0) := by
    unfold Fs.sync
    rw [if_neg (by rw [h3 hg]; simp), step_calm h.calm, if_neg (by simp)]
  rw [he, step_calm h.calm]
  refine ⟨rfl, ⟨⟨h.calm.1, h.calm.2⟩, ?_, h.dir, h.names⟩, rfl, rfl⟩
  show (flush st.files (idx st s.1)).map (·.1) = _
  rw [← h.files]
  unfold flush
  obtain ⟨f, hf1, hf2⟩ := h.file hi
  rw [h1, hf1]
  show (st.files.set i (f.1, f.1.length)).map (·.1) = _
  rw [List.map_set]
  have : (st.files.map (·.1))[i]? = some f.1 := by rw [List.getElem?_map, hf1]; rfl
  obtain ⟨h5, h6⟩ := List.getElem?_eq_some_iff.1 this
  rw [← h6]
  exact List.set_getElem_self h5
theorem Rep.syncDir (h : Rep st segs) : (syncDir st).2 = 0 ∧ Rep (syncDir st).1 segs ∧ (syncDir st).1.room = st.room ∧ (syncDir st).1.changes = [] := by
  have he : Fs.syncDir st = ({ (step st).1 with sure := st.dir, changes := [] }, 0) := by
    unfold Fs.syncDir
    rw [step_calm h.calm, if_neg (by simp)]
  rw [he, step_calm h.calm]
  exact ⟨rfl, ⟨⟨h.calm.1, h.calm.2⟩, h.files, h.dir, h.names⟩, rfl, rfl⟩
theorem Rep.small (h : Rep st segs) (hl : segs.length ≤ 64) (hc : st.changes.length ≤ 100) (hf : ∀ s ∈ segs, s.2.length ≤ 65536) (hr : 0 ≤ st.room ∧ st.room ≤ 1048576) : Small st := by
  refine ⟨by rw [h.len]; omega, by rw [h.dlen]; omega, by omega, fun f hf2 => ?_, hr⟩
  have h1 : f.1 ∈ st.files.map (·.1) := List.mem_map.2 ⟨f, hf2, rfl⟩
  rw [h.files] at h1
  obtain ⟨s, h2, h3⟩ := List.mem_map.1 h1
  rw [← h3]
  exact hf s h2
theorem Rep.how (h : Rep st segs) : (step st).2.1 ≤ 2 := by rw [step_calm h.calm]; show (0 : Int) ≤ 2; omega
end
end Fs
end Go.Proofs.YtcimobbppmpmgaaDoor
