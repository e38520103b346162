/-
  The file system in calm weather: what its files hold (no program in sight). The file system as names and their bytes, in calm weather (plain). The file system: Arm and Plan, walked. A crash: what is left (plain). Frames and segments: what is read of what was written (no program in sight). What any operation of the file system keeps, in any weather (plain).
-/
import Derived.Test.YtcinagglbkbmkaaDoorZk8
import Derived.Test.YtcinagglbkbmkaaDoorZk5
namespace Go.Proofs.YtcinagglbkbmkaaDoor
set_option linter.unusedSimpArgs false
set_option linter.unusedVariables false
open Go Go.RowKit

namespace Fs
/-- No power goes; no step is planned to fail. -/
def Calm (st : St) : Prop := st.left = -1 ∧ st.plan = []
theorem step_calm {st : St} (h : Calm st) : step st = ({ st with steps := wrap64 (st.steps + 1) }, 0, 0) := by
  obtain ⟨h1, h2⟩ := h
  unfold step
  rw [if_neg (by omega), h2, if_neg (by omega)]
  cases st
  simp only at h1 h2
  subst h1 h2
  rfl
theorem mem_mins (x : List UInt8 × Int) : ∀ l : Names, (mins x l).Perm (x :: l)
  | [] => List.Perm.refl _
  | y :: r => by
    unfold mins
    split
    · exact List.Perm.refl _
    · exact ((mem_mins x r).cons y).trans (List.Perm.swap x y r)
theorem mdel_none {l : Names} {k : List UInt8} (h : mhas l k = false) : mdel l k = l := by
  unfold mdel
  rw [List.filter_eq_self]
  intro p hp
  unfold mhas at h
  rw [List.any_eq_false] at h
  have := h p hp
  simpa using this
theorem mput_new {l : Names} {k : List UInt8} (h : mhas l k = false) (v : Int) : (mput l k v).Perm ((k, v) :: l) := by
  unfold mput
  rw [mdel_none h]
  exact mem_mins _ _
theorem mhas_perm {l l' : Names} (h : l.Perm l') (k : List UInt8) : mhas l k = mhas l' k := by
  unfold mhas
  rw [Bool.eq_iff_iff, List.any_eq_true, List.any_eq_true]
  constructor
  · rintro ⟨p, h1, h2⟩; exact ⟨p, h.mem_iff.1 h1, h2⟩
  · rintro ⟨p, h1, h2⟩; exact ⟨p, h.mem_iff.2 h1, h2⟩
/-- Keys that differ: what is found is what was put. -/
theorem mget_of {l : Names} (hnd : ∀ p ∈ l, ∀ q ∈ l, p.1 = q.1 → p.2 = q.2) {k : List UInt8} {v : Int} (h : (k, v) ∈ l) : mget l k = v := by
  obtain ⟨p, hp, h1, h2⟩ := mget_mem (l := l) (k := k) (by unfold mhas; rw [List.any_eq_true]; exact ⟨(k, v), h, by simp⟩)
  rw [← h2]
  exact hnd p hp (k, v) h h1

abbrev Segs := List (List UInt8 × List UInt8)
def dirGo : Nat → Segs → Names
  | _, [] => []
  | i, s :: r => (s.1, (i : Int)) :: dirGo (i + 1) r
theorem dirGo_app : ∀ (l r : Segs) (i : Nat), dirGo i (l ++ r) = dirGo i l ++ dirGo (i + l.length) r
  | [], r, i => rfl
  | s :: l, r, i => by
    rw [List.cons_append, dirGo, dirGo, dirGo_app l r (i + 1), List.cons_append, List.length_cons, Nat.add_right_comm, Nat.add_assoc]
theorem dirGo_mem : ∀ (l : Segs) (i j : Nat) (s : List UInt8 × List UInt8), l[j]? = some s → (s.1, ((i + j : Nat) : Int)) ∈ dirGo i l
  | [], i, j, s, h => by simp at h
  | x :: l, i, 0, s, h => by
    simp at h; subst h
    exact List.mem_cons_self
  | x :: l, i, j + 1, s, h => by
    have := dirGo_mem l (i + 1) j s (by simpa using h)
    rw [show i + (j + 1) = i + 1 + j by omega]
    exact List.mem_cons_of_mem _ this
theorem dirGo_inv : ∀ (l : Segs) (i : Nat) (p : List UInt8 × Int), p ∈ dirGo i l → ∃ j s, l[j]? = some s ∧ p = (s.1, ((i + j : Nat) : Int))
  | [], i, p, h => by simp [dirGo] at h
  | x :: l, i, p, h => by
    rw [dirGo] at h
    rcases List.mem_cons.1 h with h | h
    · exact ⟨0, x, rfl, h⟩
    · obtain ⟨j, s, h1, h2⟩ := dirGo_inv l (i + 1) p h
      exact ⟨j + 1, s, by simpa using h1, by rw [h2, show i + (j + 1) = i + 1 + j by omega]⟩
theorem dirGo_len : ∀ (l : Segs) (i : Nat), (dirGo i l).length = l.length
  | [], _ => rfl
  | s :: l, i => by rw [dirGo, List.length_cons, dirGo_len l, List.length_cons]
theorem dirGo_names : ∀ (l l' : Segs) (i : Nat), l.map (·.1) = l'.map (·.1) → dirGo i l = dirGo i l'
  | [], [], _, _ => rfl
  | [], x :: l, _, h => by simp at h
  | x :: l, [], _, h => by simp at h
  | x :: l, y :: l', i, h => by
    simp only [List.map_cons, List.cons.injEq] at h
    rw [dirGo, dirGo, h.1, dirGo_names l l' (i + 1) h.2]

/-- What the files hold, by their names, in the order in which they were made. -/
structure Rep (st : St) (segs : Segs) : Prop where
  calm : Calm st
  files : st.files.map (·.1) = segs.map (·.2)
  dir : st.dir.Perm (dirGo 0 segs)
  names : ∀ (i j : Nat) s t, segs[i]? = some s → segs[j]? = some t → s.1 = t.1 → i = j

section
variable {st : St} {segs : Segs}
theorem Rep.len (h : Rep st segs) : st.files.length = segs.length := by
  have := congrArg List.length h.files
  simpa using this
theorem Rep.dlen (h : Rep st segs) : st.dir.length = segs.length := by rw [h.dir.length_eq, dirGo_len]
theorem Rep.keys (h : Rep st segs) : ∀ p ∈ st.dir, ∀ q ∈ st.dir, p.1 = q.1 → p.2 = q.2 := by
  intro p hp q hq e
  obtain ⟨i, s, h1, rfl⟩ := dirGo_inv segs 0 p (h.dir.mem_iff.1 hp)
  obtain ⟨j, t, h2, rfl⟩ := dirGo_inv segs 0 q (h.dir.mem_iff.1 hq)
  have := h.names i j s t h1 h2 e
  subst this
  rfl
theorem Rep.has (h : Rep st segs) (n : List UInt8) : mhas st.dir n = segs.any (fun s => s.1 == n) := by
  rw [mhas_perm h.dir]
  unfold mhas
  rw [Bool.eq_iff_iff, List.any_eq_true, List.any_eq_true]
  constructor
  · rintro ⟨p, h1, h2⟩
    obtain ⟨j, s, h3, rfl⟩ := dirGo_inv segs 0 p h1
    exact ⟨s, List.mem_of_getElem? h3, h2⟩
  · rintro ⟨s, h1, h2⟩
    obtain ⟨j, h3⟩ := List.getElem?_of_mem h1
    exact ⟨_, dirGo_mem segs 0 j s h3, h2⟩
theorem Rep.get (h : Rep st segs) {i : Nat} {s : List UInt8 × List UInt8} (hi : segs[i]? = some s) : mget st.dir s.1 = i := by
  have := dirGo_mem segs 0 i s hi
  rw [Nat.zero_add] at this
  exact mget_of h.keys (h.dir.mem_iff.2 this)
theorem Rep.file (h : Rep st segs) {i : Nat} {s : List UInt8 × List UInt8} (hi : segs[i]? = some s) : ∃ f, st.files[i]? = some f ∧ f.1 = s.2 := by
  have h1 := congrArg (fun l => l[i]?) h.files
  simp only [List.getElem?_map, hi, Option.map_some] at h1
  cases hf : st.files[i]? with
  | none => rw [hf] at h1; cases h1
  | some f => rw [hf] at h1; exact ⟨f, rfl, by simpa using h1⟩
theorem Rep.at (h : Rep st segs) {i : Nat} {s : List UInt8 × List UInt8} (hi : segs[i]? = some s) : idx st s.1 = i ∧ fileAt st s.1 = s.2 ∧ (good s.1 = true → openE st s.1 = 0) := by
  have h1 : idx st s.1 = i := by unfold idx; rw [h.get hi]; rfl
  obtain ⟨f, h2, h3⟩ := h.file hi
  refine ⟨h1, ?_, fun hg => ?_⟩
  · unfold fileAt
    rw [h1, h2]
    exact h3
  · unfold openE
    rw [if_neg (by rw [hg]; simp), h.has, if_neg]
    rw [Bool.not_eq_false, List.any_eq_true]
    exact ⟨s, List.mem_of_getElem? hi, by simp⟩
theorem Rep.used (h : Rep st segs) : used st = (segs.map (·.2.length)).sum := by
  have hp : (st.dir.map fun p => lenAt st p.2).Perm ((dirGo 0 segs).map fun p => lenAt st p.2) := h.dir.map _
  have hs : (st.dir.map fun p => lenAt st p.2).sum = ((dirGo 0 segs).map fun p => lenAt st p.2).sum := hp.sum_nat
  show (st.dir.map fun p => lenAt st p.2).sum = _
  rw [hs]
  have : ∀ (r : Segs) (i : Nat), (∀ j s, r[j]? = some s → segs[i + j]? = some s) → ((dirGo i r).map fun p => lenAt st p.2) = r.map (·.2.length) := by
    intro r
    induction r with
    | nil => intro i _; rfl
    | cons x r ih =>
      intro i hr
      rw [dirGo, List.map_cons, List.map_cons, ih (i + 1) (fun j s hj => by
        have := hr (j + 1) s (by simpa using hj)
        rwa [show i + 1 + j = i + (j + 1) by omega])]
      obtain ⟨f, h1, h2⟩ := h.file (hr 0 x rfl)
      rw [Nat.add_zero] at h1
      congr 1
      show lenAt st (i : Int) = _
      unfold lenAt
      rw [Int.toNat_natCast, h1]
      show f.1.length = _
      rw [h2]
  rw [this segs 0 (fun j s hj => by rw [Nat.zero_add]; exact hj)]

theorem Rep.new (room : Int) : Rep (new room) [] := ⟨⟨rfl, rfl⟩, rfl, List.Perm.refl _, fun i j s t h => by simp at h⟩
/-- A new file. -/
theorem Rep.create (h : Rep st segs) {n : List UInt8} (hg : good n = true) (hn : ∀ s ∈ segs, s.1 ≠ n) (hl : segs.length < 64) :
    (create st n).2 = 0 ∧ Rep (create st n).1 (segs ++ [(n, [])]) ∧ (create st n).1.room = st.room ∧ (create st n).1.changes.length = st.changes.length + 1 := by
  have hhas : mhas st.dir n = false := by
    rw [h.has, List.any_eq_false]
    intro s hs
    simpa using hn s hs
  have he : Fs.create st n = ({ (step st).1 with files := st.files ++ [([], 0)], dir := mput st.dir n st.files.length, changes := st.changes ++ [[(n, (st.files.length : Int))]] }, 0) := by
    unfold Fs.create
    rw [if_neg (by rw [hg]; simp), if_neg (by rw [hhas]; simp), if_neg (by rw [h.dlen]; omega), if_neg (by rw [step_calm h.calm]; simp)]
  rw [he, step_calm h.calm]
  refine ⟨rfl, ⟨⟨h.calm.1, h.calm.2⟩, ?_, ?_, ?_⟩, rfl, by simp⟩
  · show (st.files ++ [(([] : List UInt8), (0 : Nat))]).map (fun f => f.1) = _
    rw [List.map_append, h.files, List.map_append]
    rfl
  · show (mput st.dir n st.files.length).Perm _
    refine (mput_new hhas _).trans ?_
    rw [dirGo_app, Nat.zero_add, h.len]
    refine (h.dir.cons _).trans ?_
    exact (List.perm_append_singleton _ _).symm
  · intro i j s t hi hj e
    rcases Nat.lt_or_ge i segs.length with hi2 | hi2
    · rw [List.getElem?_append_left hi2] at hi
      rcases Nat.lt_or_ge j segs.length with hj2 | hj2
      · rw [List.getElem?_append_left hj2] at hj
        exact h.names i j s t hi hj e
      · rw [List.getElem?_append_right hj2] at hj
        have : t = (n, []) := by
          have := (List.getElem?_eq_some_iff.1 hj).1
          have h0 : j - segs.length = 0 := by simpa using this
          rw [h0] at hj
          simpa using hj.symm
        subst this
        exact absurd e (hn s (List.mem_of_getElem? hi))
    · rw [List.getElem?_append_right hi2] at hi
      have h0 : i - segs.length = 0 := by have := (List.getElem?_eq_some_iff.1 hi).1; simpa using this
      have hs : s = (n, []) := by rw [h0] at hi; simpa using hi.symm
      subst hs
      rcases Nat.lt_or_ge j segs.length with hj2 | hj2
      · rw [List.getElem?_append_left hj2] at hj
        exact absurd e.symm (hn t (List.mem_of_getElem? hj))
      · rw [List.getElem?_append_right hj2] at hj
        have h1 : j - segs.length = 0 := by have := (List.getElem?_eq_some_iff.1 hj).1; simpa using this
        omega
/-- A file grows. -/
theorem Rep.append (h : Rep st segs) {i : Nat} {s : List UInt8 × List UInt8} (hi : segs[i]? = some s) (hg : good s.1 = true) (b : List UInt8) (hb : s.2.length + b.length ≤ 65536)
    (hr : (((segs.map (·.2.length)).sum : Nat) : Int) + b.length ≤ st.room) :
    (append st s.1 b).2 = 0 ∧ Rep (append st s.1 b).1 (segs.set i (s.1, s.2 ++ b)) ∧ (append st s.1 b).1.room = st.room ∧ (append st s.1 b).1.changes = st.changes := by
  obtain ⟨h1, h2, h3⟩ := h.at hi
  obtain ⟨f, hf1, hf2⟩ := h.file hi
  have he : Fs.append st s.1 b = ({ (step st).1 with files := grow st.files (idx st s.1) b }, 0) := by
    unfold Fs.append
    rw [if_neg (by rw [h3 hg]; simp), h2, if_neg (by omega), step_calm h.calm, if_neg (by simp), h.used, if_neg (by omega)]
  have hgr : grow st.files (idx st s.1) b = st.files.set i (f.1 ++ b, f.2) := by
    unfold grow
    rw [h1, hf1]
  rw [he, step_calm h.calm, hgr]
  refine ⟨rfl, ⟨⟨h.calm.1, h.calm.2⟩, ?_, ?_, ?_⟩, rfl, rfl⟩
  · show (st.files.set i (f.1 ++ b, f.2)).map (·.1) = _
    rw [List.map_set, List.map_set, h.files, hf2]
  · show st.dir.Perm _
    rw [dirGo_names (segs.set i (s.1, s.2 ++ b)) segs 0 (by
      rw [List.map_set]
      have hlt := (List.getElem?_eq_some_iff.1 hi).1
      have : (segs.map (·.1))[i]? = some s.1 := by rw [List.getElem?_map, hi]; rfl
      obtain ⟨h5, h6⟩ := List.getElem?_eq_some_iff.1 this
      rw [← h6]
      exact List.set_getElem_self h5)]
    exact h.dir
  · have key : ∀ (k : Nat) t, (segs.set i (s.1, s.2 ++ b))[k]? = some t → ∃ t', segs[k]? = some t' ∧ t'.1 = t.1 := by
      intro k t hk
      by_cases hik : i = k
      · subst hik
        rw [List.getElem?_set_self (List.getElem?_eq_some_iff.1 hi).1] at hk
        simp at hk; subst hk
        exact ⟨s, hi, rfl⟩
      · rw [List.getElem?_set_ne hik] at hk
        exact ⟨t, hk, rfl⟩
    intro a c x y ha hc e
    obtain ⟨x', hx1, hx2⟩ := key a x ha
    obtain ⟨y', hy1, hy2⟩ := key c y hc
    exact h.names a c x' y' hx1 hy1 (by rw [hx2, hy2, e])
theorem Rep.sync (h : Rep st segs) {i : Nat} {s : List UInt8 × List UInt8} (hi : segs[i]? = some s) (hg : good s.1 = true) :
    (sync st s.1).2 = 0 ∧ Rep (sync st s.1).1 segs ∧ (sync st s.1).1.room = st.room ∧ (sync st s.1).1.changes = st.changes := by
  obtain ⟨h1, h2, h3⟩ := h.at hi
  have he : Fs.sync st s.1 = ({ (step st).1 with files := flush st.files (idx st s.1) }, 0) := by
    unfold Fs.sync
    rw [if_neg (by rw [h3 hg]; simp), step_calm h.calm, if_neg (by simp)]
  rw [he, step_calm h.calm]
  refine ⟨rfl, ⟨⟨h.calm.1, h.calm.2⟩, ?_, h.dir, h.names⟩, rfl, rfl⟩
  show (flush st.files (idx st s.1)).map (·.1) = _
  rw [← h.files]
  unfold flush
  obtain ⟨f, hf1, hf2⟩ := h.file hi
  rw [h1, hf1]
  show (st.files.set i (f.1, f.1.length)).map (·.1) = _
  rw [List.map_set]
  have : (st.files.map (·.1))[i]? = some f.1 := by rw [List.getElem?_map, hf1]; rfl
  obtain ⟨h5, h6⟩ := List.getElem?_eq_some_iff.1 this
  rw [← h6]
  exact List.set_getElem_self h5
theorem Rep.syncDir (h : Rep st segs) : (syncDir st).2 = 0 ∧ Rep (syncDir st).1 segs ∧ (syncDir st).1.room = st.room ∧ (syncDir st).1.changes = [] := by
  have he : Fs.syncDir st = ({ (step st).1 with sure := st.dir, changes := [] }, 0) := by
    unfold Fs.syncDir
    rw [step_calm h.calm, if_neg (by simp)]
  rw [he, step_calm h.calm]
  exact ⟨rfl, ⟨⟨h.calm.1, h.calm.2⟩, h.files, h.dir, h.names⟩, rfl, rfl⟩
theorem Rep.small (h : Rep st segs) (hl : segs.length ≤ 64) (hc : st.changes.length ≤ 100) (hf : ∀ s ∈ segs, s.2.length ≤ 65536) (hr : 0 ≤ st.room ∧ st.room ≤ 1048576) : Small st := by
  refine ⟨by rw [h.len]; omega, by rw [h.dlen]; omega, by omega, fun f hf2 => ?_, hr⟩
  have h1 : f.1 ∈ st.files.map (·.1) := List.mem_map.2 ⟨f, hf2, rfl⟩
  rw [h.files] at h1
  obtain ⟨s, h2, h3⟩ := List.mem_map.1 h1
  rw [← h3]
  exact hf s h2
theorem Rep.how (h : Rep st segs) : (step st).2.1 ≤ 9223372036854775807 := by rw [step_calm h.calm]; show (0 : Int) ≤ 9223372036854775807; omega
end
end Fs
end Go.Proofs.YtcinagglbkbmkaaDoor
namespace Go.Proofs.YtcinagglbkbmkaaDoor
set_option linter.unusedSimpArgs false
set_option linter.unusedVariables false
open Go Go.RowKit
namespace Fs
theorem find_mins (x : List UInt8 × Int) (n : List UInt8) : ∀ l : Names, mhas l x.1 = false → (mins x l).find? (fun p => p.1 == n) = if x.1 = n then some x else l.find? (fun p => p.1 == n)
  | [], _ => by
    unfold mins
    by_cases h : x.1 = n
    · rw [if_pos h, List.find?_cons_of_pos (by simpa using h)]
    · rw [if_neg h, List.find?_cons_of_neg (by simpa using h)]
  | y :: r, hh => by
    have hh2 : mhas r x.1 = false := by unfold mhas at hh ⊢; rw [List.any_cons, Bool.or_eq_false_iff] at hh; exact hh.2
    have hy : y.1 ≠ x.1 := by unfold mhas at hh; rw [List.any_cons, Bool.or_eq_false_iff] at hh; simpa using hh.1
    unfold mins
    split
    · by_cases h : x.1 = n
      · rw [if_pos h, List.find?_cons_of_pos (by simpa using h)]
      · rw [if_neg h, List.find?_cons_of_neg (by simpa using h)]
    · by_cases h : y.1 = n
      · rw [List.find?_cons_of_pos (by simpa using h), if_neg (fun e => hy (by rw [h, e])), List.find?_cons_of_pos (by simpa using h)]
      · rw [List.find?_cons_of_neg (by simpa using h), find_mins x n r hh2, List.find?_cons_of_neg (by simpa using h)]
theorem mhas_find (l : Names) (n : List UInt8) : mhas l n = (l.find? (fun p => p.1 == n)).isSome := by
  unfold mhas
  rw [Bool.eq_iff_iff, List.any_eq_true]
  constructor
  · rintro ⟨p, h1, h2⟩; rw [List.find?_isSome]; exact ⟨p, h1, h2⟩
  · intro h; rw [List.find?_isSome] at h; obtain ⟨p, h1, h2⟩ := h; exact ⟨p, h1, h2⟩
theorem mdel_find (l : Names) (k n : List UInt8) : (mdel l k).find? (fun p => p.1 == n) = if n = k then none else l.find? (fun p => p.1 == n) := by
  unfold mdel
  induction l with
  | nil => simp
  | cons y r ih =>
    by_cases hk : y.1 = k
    · rw [List.filter_cons_of_neg (by simp [hk]), ih]
      by_cases h : n = k
      · rw [if_pos h, if_pos h]
      · rw [if_neg h, if_neg h, List.find?_cons_of_neg (by simp [hk]; exact fun e => h e.symm)]
    · rw [List.filter_cons_of_pos (by simp [hk])]
      by_cases h : y.1 = n
      · rw [List.find?_cons_of_pos (by simpa using h), if_neg (fun e => hk (h.trans e)), List.find?_cons_of_pos (by simpa using h)]
      · rw [List.find?_cons_of_neg (by simpa using h), ih, List.find?_cons_of_neg (by simpa using h)]
theorem mdel_hasnt (l : Names) (k : List UInt8) : mhas (mdel l k) k = false := by rw [mhas_find, mdel_find, if_pos rfl]; rfl
theorem mput_find (l : Names) (k n : List UInt8) (v : Int) : (mput l k v).find? (fun p => p.1 == n) = if k = n then some (k, v) else l.find? (fun p => p.1 == n) := by
  unfold mput
  rw [find_mins (k, v) n _ (mdel_hasnt l k)]
  by_cases h : k = n
  · rw [if_pos h, if_pos h]
  · rw [if_neg h, if_neg h, mdel_find, if_neg (fun e => h e.symm)]
theorem mhas_mput (l : Names) (k n : List UInt8) (v : Int) : mhas (mput l k v) n = (decide (k = n) || mhas l n) := by
  rw [mhas_find, mput_find, mhas_find]
  by_cases h : k = n
  · rw [if_pos h, decide_eq_true h]; rfl
  · rw [if_neg h, decide_eq_false h]; rfl
theorem mget_mput (l : Names) (k n : List UInt8) (v : Int) : mget (mput l k v) n = if k = n then v else mget l n := by
  unfold mget
  rw [mput_find]
  by_cases h : k = n
  · rw [if_pos h, if_pos h]
  · rw [if_neg h, if_neg h]
theorem mput_perm (l : Names) (k : List UInt8) (v : Int) : (mput l k v).Perm ((k, v) :: mdel l k) := mem_mins _ _
theorem mdel_mem {l : Names} {k : List UInt8} {p : List UInt8 × Int} : p ∈ mdel l k ↔ p ∈ l ∧ p.1 ≠ k := by
  unfold mdel
  rw [List.mem_filter]
  simp
theorem mput_mem {l : Names} {k : List UInt8} {v : Int} {p : List UInt8 × Int} : p ∈ mput l k v ↔ p = (k, v) ∨ (p ∈ l ∧ p.1 ≠ k) := by
  rw [(mput_perm l k v).mem_iff, List.mem_cons, mdel_mem]
theorem mhas_mem {l : Names} {k : List UInt8} : mhas l k = true ↔ ∃ p ∈ l, p.1 = k := by
  unfold mhas
  rw [List.any_eq_true]
  constructor
  · rintro ⟨p, h1, h2⟩; exact ⟨p, h1, by simpa using h2⟩
  · rintro ⟨p, h1, h2⟩; exact ⟨p, h1, by simpa using h2⟩
theorem mput_len2 (l : Names) (k : List UInt8) (v : Int) : (mput l k v).length = (mdel l k).length + 1 := mins_len _ _

/-- Names differ, files differ, each stands. -/
structure Inv (st : St) : Prop where
  nd : st.dir.Pairwise (fun p q => p.1 ≠ q.1)
  inj : ∀ p ∈ st.dir, ∀ q ∈ st.dir, p.2 = q.2 → p.1 = q.1
  known : ∀ p ∈ st.dir, 0 ≤ p.2 ∧ p.2 < st.files.length
  gd : ∀ p ∈ st.dir, good p.1 = true
/-- What a name's file holds. -/
def look (st : St) (n : List UInt8) : Option (List UInt8) := if mhas st.dir n then some (fileAt st n) else none
theorem pw_mdel {l : Names} {k : List UInt8} (h : l.Pairwise (fun p q => p.1 ≠ q.1)) : (mdel l k).Pairwise (fun p q => p.1 ≠ q.1) := h.sublist List.filter_sublist
theorem pw_mput {l : Names} {k : List UInt8} {v : Int} (h : l.Pairwise (fun p q => p.1 ≠ q.1)) : (mput l k v).Pairwise (fun p q => p.1 ≠ q.1) := by
  refine ((mput_perm l k v).pairwise_iff (fun {a b} h => h.symm)).2 ?_
  rw [List.pairwise_cons]
  exact ⟨fun p hp => (mdel_mem.1 hp).2.symm, pw_mdel h⟩
theorem Inv.new (room : Int) : Inv (new room) := ⟨List.Pairwise.nil, fun p hp => (by cases hp), fun p hp => (by cases hp), fun p hp => (by cases hp)⟩
theorem Inv.idx {st : St} (h : Inv st) {n : List UInt8} (hn : mhas st.dir n = true) : ∃ f, st.files[Fs.idx st n]? = some f ∧ fileAt st n = f.1 ∧ (n, ((Fs.idx st n : Nat) : Int)) ∈ st.dir := by
  obtain ⟨p, h1, h2, h3⟩ := mget_mem hn
  have hk := h.known p h1
  have e : Fs.idx st n = p.2.toNat := by unfold Fs.idx; rw [h3]
  have hlt : Fs.idx st n < st.files.length := by omega
  refine ⟨_, List.getElem?_eq_getElem hlt, ?_, ?_⟩
  · unfold fileAt; rw [List.getElem?_eq_getElem hlt]
  · rw [e]
    have : p = (n, ((p.2.toNat : Nat) : Int)) := by rw [← h2]; exact Prod.ext rfl (by show p.2 = _; omega)
    rw [← this]; exact h1
theorem openE_of {st : St} {n : List UInt8} (hg : good n = true) (hn : mhas st.dir n = true) : openE st n = 0 := by
  unfold openE; rw [if_neg (by rw [hg]; simp), if_neg (by rw [hn]; simp)]

/-- What calm operations leave alone, and how they grow. -/
structure Next (st st' : St) (k : Nat) : Prop where
  calm : Calm st'
  inv : Inv st'
  room : st'.room = st.room
  files : st'.files.length ≤ st.files.length + k
  changes : st'.changes.length ≤ st.changes.length + k
theorem Next.trans {a b c : St} {i j : Nat} (h : Next a b i) (g : Next b c j) : Next a c (i + j) :=
  ⟨g.calm, g.inv, g.room.trans h.room, by have := h.files; have := g.files; omega, by have := h.changes; have := g.changes; omega⟩
theorem Next.refl {st : St} (hc : Calm st) (hi : Inv st) : Next st st 0 := ⟨hc, hi, rfl, Nat.le_refl _, Nat.le_refl _⟩
section
set_option linter.unusedSectionVars false
variable {st : St} {n : List UInt8} (hc : Calm st) (hi : Inv st)
include hc hi
end
end Fs
end Go.Proofs.YtcinagglbkbmkaaDoor
namespace Go.Proofs.YtcinagglbkbmkaaDoor
set_option linter.unusedSimpArgs false
set_option linter.unusedVariables false
open Go Go.RowKit
open Go.Maps Go.WideMaps

namespace Fs
def arm (st : St) (n : Int) : St × Int := if n < 0 then (st, 1) else if st.left = 0 then (st, 22) else ({ st with left := n }, 0)
end Fs
theorem root1 {w : World} {B : Nat} {st : Fs.St} {V : FsV} {t : TypeId} (h : w.heap[B]? = some (.cells (FsCells st V) t (0, 0))) (l : Int) :
    (w.setCell ⟨B, 1, none⟩ (.int .i64 l)).heap[B]? = some (.cells (FsCells { st with left := l } V) t (0, 0)) := heap_set h _
set_option maxHeartbeats 1000000 in
set_option maxRecDepth 100000 in
theorem arm_any (base B : Nat) (st : Fs.St) (V : FsV) (own : Nat → Tag) (n : Int) (w : World) (h : FsOK base B st V own w) (hn : n ≤ 9223372036854775807) :
    Calls Tryd.prog 8 #[.pointer (some ⟨B, 0, none⟩), .int .i64 n] w fun e w' => e = .returned (.int .i64 (Fs.arm st n).2) ∧ OpPost base B (Fs.arm st n).1 own w w' := by
  have c1 : w.cell? ⟨B, 1, none⟩ = some (.int .i64 st.left) := root_cell h.at_.root 1 _ rfl
  have f1 := root_frozen h.at_.root 1
  have H := Lib.hid h
  clear h
  go_enter Tryd.func8, Tryd.ntmps8
  by_cases h0 : n < 0
  · have HE : Hid (Fs.arm st n = (st, 1)) := by unfold Fs.arm; rw [if_pos h0]; exact Lib.hid rfl
    go_wp2
    go_ret
    rw [HE.out]
    exact ⟨rfl, OpPost.refl H.out⟩
  · by_cases h1 : st.left = 0
    · have HE : Hid (Fs.arm st n = (st, 22)) := by unfold Fs.arm; rw [if_neg h0, if_pos h1]; exact Lib.hid rfl
      go_wp2
      go_ret
      rw [HE.out]
      exact ⟨rfl, OpPost.refl H.out⟩
    · have HE : Hid (Fs.arm st n = ({ st with left := n }, 0)) := by unfold Fs.arm; rw [if_neg h0, if_neg h1]; exact Lib.hid rfl
      have HN0 : Hid (0 ≤ n) := Lib.hid (by omega)
      go_wp2
      go_ret
      rw [HE.out]
      have hk : Kept own (· = .root) w (w.setCell ⟨B, 1, none⟩ (.int .i64 n)) := (Kept.refl _ _ _).setCell ⟨B, 1, none⟩ H.out.at_.tB _
      have hat := H.out.at_.power (s := st.steps) (l := n) (p := st.plan) (pv := V.pv) hk ⟨by have := HN0.out; omega, hn⟩ H.out.at_.plan (root1 H.out.at_.root n)
      exact ⟨rfl, V, own, ⟨hat, fun k hk2 => H.out.fresh k (Nat.le_trans hk.size hk2), H.out.old⟩, fun _ _ => rfl, hk.mono (fun t ht => by rw [ht]; simp)⟩
end Go.Proofs.YtcinagglbkbmkaaDoor
namespace Go.Proofs.YtcinagglbkbmkaaDoor
set_option linter.unusedSimpArgs false
set_option linter.unusedVariables false
open Go Go.RowKit
namespace Fs
/-- The names' order. -/
def keys (D : Names) : List (List UInt8) := (D.map (·.1)).mergeSort (fun x y => decide (x ≤ y))
/-- The directory behind the first changes. -/
def crashDir (st : St) (k : Nat) : Names := (st.changes.take k).foldl doAll st.sure
/-- The bytes of a file that stand. -/
def cut (f : List UInt8 × Nat) (t : Option Int) : List UInt8 := f.1.take (f.2 + (match t with | some z => (max 0 (min z ((f.1.length : Int) - f.2))).toNat | none => 0))
def cutOf (st : St) (D : Names) (tails : List Int) (n : List UInt8) : List UInt8 := cut ((st.files[(mget D n).toNat]?).getD ([], 0)) tails[(mget D n).toNat]?
def crashGo (g : List UInt8 → List UInt8) : List (List UInt8) → List (List UInt8 × Nat) → Names → List (List UInt8 × Nat) × Names
  | [], fs, d => (fs, d)
  | n :: r, fs, d => crashGo g r (fs ++ [(g n, (g n).length)]) (mput d n fs.length)
def dirsOf (st : St) (dirs : Int) : Nat := (max 0 (min dirs st.changes.length)).toNat
def crash (st : St) (dirs : Int) (tails : List Int) : St :=
  let D := crashDir st (dirsOf st dirs)
  let r := crashGo (cutOf st D tails) (keys D) [] []
  ⟨0, -1, [], st.room, r.1, r.2, r.2, []⟩
/-- Names and files, one for one. -/
structure InvA (fs : List (List UInt8 × Nat)) (d : Names) : Prop where
  nd : d.Pairwise (fun p q => p.1 ≠ q.1)
  inj : ∀ p ∈ d, ∀ q ∈ d, p.2 = q.2 → p.1 = q.1
  known : ∀ p ∈ d, 0 ≤ p.2 ∧ p.2 < fs.length
  gd : ∀ p ∈ d, good p.1 = true
  full : ∀ f ∈ fs, f.2 = f.1.length
theorem crashGo_spec (g : List UInt8 → List UInt8) : ∀ (K : List (List UInt8)) (fs : List (List UInt8 × Nat)) (d : Names), K.Nodup → (∀ n ∈ K, good n = true ∧ mhas d n = false) → InvA fs d →
    InvA (crashGo g K fs d).1 (crashGo g K fs d).2 ∧ (crashGo g K fs d).1.length = fs.length + K.length ∧ (crashGo g K fs d).2.length = d.length + K.length ∧ (∀ f ∈ (crashGo g K fs d).1, f ∈ fs ∨ ∃ n ∈ K, f = (g n, (g n).length)) ∧
      ∀ n, (n ∈ K → mhas (crashGo g K fs d).2 n = true ∧ (crashGo g K fs d).1[(mget (crashGo g K fs d).2 n).toNat]? = some (g n, (g n).length)) ∧
        (n ∉ K → mhas (crashGo g K fs d).2 n = mhas d n ∧ (mhas d n = true → mget (crashGo g K fs d).2 n = mget d n ∧ (crashGo g K fs d).1[(mget d n).toNat]? = fs[(mget d n).toNat]?))
  | [], fs, d, _, _, h => ⟨h, rfl, rfl, fun f hf => .inl hf, fun n => ⟨fun hn => (by cases hn), fun _ => ⟨rfl, fun _ => ⟨rfl, rfl⟩⟩⟩⟩
  | k :: r, fs, d, hK, hd, h => by
    rw [List.nodup_cons] at hK
    obtain ⟨hg, hh⟩ := hd k List.mem_cons_self
    have h1 : InvA (fs ++ [(g k, (g k).length)]) (mput d k fs.length) := by
      refine ⟨pw_mput h.nd, ?_, ?_, fun p hp => (mput_mem.1 hp).elim (fun e => by rw [e]; exact hg) (fun x => h.gd p x.1), fun f hf => ?_⟩
      · intro p hp q hq e
        rcases mput_mem.1 hp with rfl | ⟨hp1, _⟩ <;> rcases mput_mem.1 hq with rfl | ⟨hq1, _⟩
        · rfl
        · have := h.known q hq1; simp only at e; omega
        · have := h.known p hp1; simp only at e; omega
        · exact h.inj p hp1 q hq1 e
      · intro p hp
        rw [List.length_append]
        rcases mput_mem.1 hp with rfl | ⟨hp1, _⟩
        · simp; omega
        · have := h.known p hp1; simp; omega
      · rcases List.mem_append.1 hf with hf | hf
        · exact h.full f hf
        · simp at hf; rw [hf]
    obtain ⟨k1, k2, k3, k4, k5⟩ := crashGo_spec g r (fs ++ [(g k, (g k).length)]) (mput d k fs.length) hK.2 (fun n hn => ⟨(hd n (List.mem_cons_of_mem _ hn)).1, by
      rw [mhas_mput, decide_eq_false (fun e => hK.1 (by rw [e]; exact hn)), (hd n (List.mem_cons_of_mem _ hn)).2]; rfl⟩) h1
    have e : crashGo g (k :: r) fs d = crashGo g r (fs ++ [(g k, (g k).length)]) (mput d k fs.length) := rfl
    rw [e]
    refine ⟨k1, by rw [k2]; simp; omega, by rw [k3, mput_len2, mdel_none hh]; simp; omega, fun f hf => ?_, fun n => ⟨fun hn => ?_, fun hn => ?_⟩⟩
    · rcases k4 f hf with hf | ⟨n, hn, rfl⟩
      · rcases List.mem_append.1 hf with hf | hf
        · exact .inl hf
        · simp at hf; exact .inr ⟨k, List.mem_cons_self, hf⟩
      · exact .inr ⟨n, List.mem_cons_of_mem _ hn, rfl⟩
    · rcases List.mem_cons.1 hn with rfl | hn
      · obtain ⟨a1, a2⟩ := (k5 n).2 hK.1
        have hm : mhas (mput d n fs.length) n = true := by rw [mhas_mput, decide_eq_true rfl]; rfl
        obtain ⟨a3, a4⟩ := a2 hm
        rw [mget_mput, if_pos rfl] at a3 a4
        refine ⟨a1.trans hm, ?_⟩
        rw [a3, a4]
        simp
      · exact (k5 n).1 hn
    · have hne : ¬ k = n := fun e => hn (by rw [e]; exact List.mem_cons_self)
      obtain ⟨a1, a2⟩ := (k5 n).2 (fun x => hn (List.mem_cons_of_mem _ x))
      rw [mhas_mput, decide_eq_false hne, Bool.false_or] at a1 a2
      refine ⟨a1, fun hx => ?_⟩
      obtain ⟨a3, a4⟩ := a2 hx
      rw [mget_mput, if_neg hne] at a3 a4
      refine ⟨a3, ?_⟩
      obtain ⟨p, hp1, hp2, hp3⟩ := mget_mem hx
      have := h.known p hp1
      rw [a4, List.getElem?_append_left (by rw [← hp3]; omega)]
theorem keys_mem {D : Names} {n : List UInt8} : n ∈ keys D ↔ mhas D n = true := by
  unfold keys
  rw [List.mem_mergeSort, mhas_mem, List.mem_map]
theorem keys_nodup {D : Names} (h : D.Pairwise (fun p q => p.1 ≠ q.1)) : (keys D).Nodup := by
  unfold keys
  refine (List.mergeSort_perm _ _).nodup_iff.2 ?_
  rw [List.nodup_iff_pairwise_ne, List.pairwise_map]
  exact h
theorem keys_len (D : Names) : (keys D).length = D.length := by unfold keys; rw [List.length_mergeSort, List.length_map]
/-- What a crash leaves. -/
theorem crash_look {st : St} {dirs : Int} {tails : List Int} (hnd : (crashDir st (dirsOf st dirs)).Pairwise (fun p q => p.1 ≠ q.1)) (hgd : ∀ p ∈ crashDir st (dirsOf st dirs), good p.1 = true) :
    Calm (crash st dirs tails) ∧ Inv (crash st dirs tails) ∧ (crash st dirs tails).dir.length = (crashDir st (dirsOf st dirs)).length ∧ (crash st dirs tails).files.length = (crashDir st (dirsOf st dirs)).length ∧ (∀ f ∈ (crash st dirs tails).files, f.2 = f.1.length) ∧
      (∀ f ∈ (crash st dirs tails).files, ∃ n, f.1 = cutOf st (crashDir st (dirsOf st dirs)) tails n) ∧
      ∀ n, look (crash st dirs tails) n = if mhas (crashDir st (dirsOf st dirs)) n then some (cutOf st (crashDir st (dirsOf st dirs)) tails n) else none := by
  generalize hD : crashDir st (dirsOf st dirs) = D at *
  obtain ⟨k1, k2, k3, k4, k5⟩ := crashGo_spec (cutOf st D tails) (keys D) [] [] (keys_nodup hnd) (fun n hn => ⟨by obtain ⟨p, hp, rfl⟩ := mhas_mem.1 (keys_mem.1 hn); exact hgd p hp, rfl⟩)
    ⟨List.Pairwise.nil, fun p hp => (by cases hp), fun p hp => (by cases hp), fun p hp => (by cases hp), fun p hp => (by cases hp)⟩
  have e : crash st dirs tails = ⟨0, -1, [], st.room, (crashGo (cutOf st D tails) (keys D) [] []).1, (crashGo (cutOf st D tails) (keys D) [] []).2, (crashGo (cutOf st D tails) (keys D) [] []).2, []⟩ := by
    unfold crash; rw [hD]
  rw [e]
  refine ⟨⟨rfl, rfl⟩, ⟨k1.nd, k1.inj, k1.known, k1.gd⟩, by rw [k3, keys_len]; simp, by rw [k2, keys_len]; simp, k1.full, fun f hf => ?_, fun n => ?_⟩
  · rcases k4 f hf with hf | ⟨n, _, rfl⟩
    · cases hf
    · exact ⟨n, rfl⟩
  · show (if mhas (crashGo (cutOf st D tails) (keys D) [] []).2 n then some (match (crashGo (cutOf st D tails) (keys D) [] []).1[(mget (crashGo (cutOf st D tails) (keys D) [] []).2 n).toNat]? with | some f => f.1 | none => []) else none) = _
    cases hh : mhas D n
    · rw [((k5 n).2 (fun x => by rw [keys_mem.1 x] at hh; cases hh)).1]
      rfl
    · obtain ⟨a1, a2⟩ := (k5 n).1 (keys_mem.2 hh)
      rw [a1, a2]
end Fs
end Go.Proofs.YtcinagglbkbmkaaDoor
namespace Go.Proofs.YtcinagglbkbmkaaDoor
set_option linter.unusedSimpArgs false
set_option linter.unusedVariables false
open Go Go.RowKit

namespace Fr
theorem sum_bounds (l : List UInt8) : 0 ≤ sum l ∧ sum l < 4294967296 := bits_u32 _ _ _
theorem four_app (n : Int) (r : List UInt8) : (four n ++ r).length = 4 + r.length := by rw [List.length_append]; rfl
theorem num_bytes {k : Int} {p : List UInt8} (hp : p.length ≤ 8192) (r : List UInt8) : num (bytes k p ++ r) = p.length := by
  have := num_four (p.length : Int) (by omega) (by omega) ((inner k p ++ four (sum (inner k p))) ++ r)
  unfold bytes
  rw [List.append_assoc]
  omega
theorem bytes_take {k : Int} {p : List UInt8} (r : List UInt8) : (bytes k p ++ r).take (9 + p.length) = bytes k p := by
  have h : 9 + p.length = (bytes k p).length := by rw [bytes_len]; omega
  rw [h, List.take_left]
theorem bytes_drop {k : Int} {p : List UInt8} (r : List UInt8) : (bytes k p ++ r).drop (9 + p.length) = r := by
  have h : 9 + p.length = (bytes k p).length := by rw [bytes_len]; omega
  rw [h, List.drop_left]
theorem kind_bytes {k : Int} {p : List UInt8} (hk : 1 ≤ k ∧ k ≤ 9) : kind (bytes k p) = k := by
  unfold kind
  have : (bytes k p).getD 4 0 = byte k := rfl
  rw [this, byte_val]
  omega
theorem pay_bytes {k : Int} {p : List UInt8} : pay (bytes k p) = p := by
  unfold pay
  rw [bytes_len, show p.length + 9 - 9 = p.length by omega]
  have : (bytes k p).drop 5 = p ++ four (sum (inner k p)) := rfl
  rw [this, List.take_left]
theorem body_bytes {k : Int} {p : List UInt8} : body (bytes k p) = inner k p := by
  unfold body
  rw [bytes_len, show p.length + 9 - 8 = (inner k p).length by unfold inner; simp]
  have : (bytes k p).drop 4 = inner k p ++ four (sum (inner k p)) := rfl
  rw [this, List.take_left]
theorem tail_bytes {k : Int} {p : List UInt8} : (bytes k p).drop ((bytes k p).length - 4) = four (sum (inner k p)) := by
  rw [bytes_len, show p.length + 9 - 4 = (four (p.length : Int) ++ inner k p).length by rw [four_app]; unfold inner; simp; omega]
  unfold bytes
  rw [← List.append_assoc, List.drop_left]
/-- What is encoded is decoded. -/
theorem dec_bytes {k : Int} {p : List UInt8} (h : encE k p = 0) : decE (bytes k p) = 0 ∧ (1 ≤ k ∧ k ≤ 9) ∧ p.length ≤ 8192 := by
  unfold encE at h
  by_cases h1 : k < 1 ∨ 9 < k
  · rw [if_pos h1] at h; cases h
  · rw [if_neg h1] at h
    by_cases h2 : 8192 < p.length
    · rw [if_pos h2] at h; cases h
    · have hk : 1 ≤ k ∧ k ≤ 9 := by omega
      have hp : p.length ≤ 8192 := by omega
      refine ⟨?_, hk, hp⟩
      have hn := num_bytes (k := k) hp []
      rw [List.append_nil] at hn
      have hs := sum_bounds (inner k p)
      have hnf := num_four (sum (inner k p)) hs.1 hs.2 []
      rw [List.append_nil] at hnf
      unfold decE
      rw [hn, kind_bytes hk, body_bytes, tail_bytes, hnf, bytes_len, if_neg (by omega), if_neg (by omega), if_neg (by simp)]
theorem go_frame {k : Int} {p : List UInt8} (h : encE k p = 0) (r : List UInt8) : stop (bytes k p ++ r) = false ∧ first (bytes k p ++ r) = (k, p) ∧ (bytes k p ++ r).drop (9 + num (bytes k p ++ r)) = r ∧ 9 + num (bytes k p ++ r) = (bytes k p).length := by
  obtain ⟨h1, h2, h3⟩ := dec_bytes h
  have hn := num_bytes (k := k) h3 r
  refine ⟨?_, ?_, ?_, ?_⟩
  · unfold stop
    rw [hn, bytes_take, h1, List.length_append, bytes_len]
    simp
    omega
  · unfold first
    rw [hn, bytes_take, kind_bytes h2, pay_bytes]
  · rw [hn, bytes_drop]
  · rw [hn, bytes_len]; omega
/-- Frames behind one another. -/
def flat (fs : List F) : List UInt8 := fs.flatMap fun f => bytes f.1 f.2
theorem flat_app (a b : List F) : flat (a ++ b) = flat a ++ flat b := List.flatMap_append ..
theorem flat_one (f : F) : flat [f] = bytes f.1 f.2 := by simp [flat]
theorem scanGo_flat (t : List UInt8) (ht : stop t = true) : ∀ (fs : List F) (k : Nat) (out : List F) (a : Nat), (∀ f ∈ fs, encE f.1 f.2 = 0) → fs.length < k →
    scanGo k (flat fs ++ t) out a = (out ++ fs, a + (flat fs).length)
  | [], k, out, a, _, hk => by
    obtain ⟨k', rfl⟩ : ∃ k', k = k' + 1 := ⟨k - 1, by simp at hk; omega⟩
    show (if stop ([] ++ t) then _ else _) = _
    rw [List.nil_append, if_pos ht]
    simp [flat]
  | f :: fs, k, out, a, hf, hk => by
    obtain ⟨k', rfl⟩ : ∃ k', k = k' + 1 := ⟨k - 1, by simp at hk; omega⟩
    have hfl : flat (f :: fs) = bytes f.1 f.2 ++ flat fs := by simp [flat]
    obtain ⟨h1, h2, h3, h4⟩ := go_frame (hf f List.mem_cons_self) (flat fs ++ t)
    rw [hfl, List.append_assoc]
    unfold scanGo
    rw [if_neg (by rw [h1]; simp), h2, h3, h4, scanGo_flat t ht fs k' (out ++ [(f.1, f.2)]) _ (fun g hg => hf g (List.mem_cons_of_mem _ hg)) (by simp at hk; omega), List.append_assoc, List.length_append, Nat.add_assoc]
    rfl
theorem flat_len (fs : List F) : fs.length ≤ (flat fs).length := by
  induction fs with
  | nil => simp
  | cons f fs ih =>
    have hfl : flat (f :: fs) = bytes f.1 f.2 ++ flat fs := by simp [flat]
    rw [hfl, List.length_append, bytes_len, List.length_cons]
    omega
theorem scan_flat (t : List UInt8) (ht : stop t = true) (fs : List F) (hf : ∀ f ∈ fs, encE f.1 f.2 = 0) : scan (flat fs ++ t) = (fs, (flat fs).length) := by
  unfold scan
  rw [scanGo_flat t ht fs _ [] 0 hf (by have := flat_len fs; rw [List.length_append]; omega)]
  simp
theorem stop_nil : stop [] = true := rfl
end Fr

namespace Sg
theorem good_name {id : Int} (h : nameE id = 0) : Fs.good (nameB id) = true := by
  obtain ⟨h1, h2, h3⟩ := name_of h
  obtain ⟨_, hd⟩ := dval_dec id.toNat 0
  have hl := nameB_len id
  have hlen : (nameB id).length ≤ 20 := by
    have hr := (id_name h).2
    have hne : refId (nameB id) ≠ 0 := by rw [hr]; omega
    unfold refId at hne
    by_cases hc : (nameB id).length < 5 ∨ 14 < (nameB id).length ∨ (nameB id).take 4 ≠ seg
    · rw [if_pos hc] at hne; exact absurd rfl hne
    · omega
  unfold Fs.good
  rw [h3] at hlen ⊢
  have hall : (seg ++ Lib.decDigits id.toNat).all Fs.goodB = true := by
    rw [List.all_append, Bool.and_eq_true]
    refine ⟨by decide, List.all_eq_true.2 fun c hc => ?_⟩
    have := List.all_eq_true.1 hd c hc
    unfold isDig at this
    simp only [Bool.and_eq_true, decide_eq_true_eq] at this
    unfold Fs.goodB
    simp [this.1, this.2]
  rw [hall, decide_eq_true (p := 1 ≤ (seg ++ Lib.decDigits id.toNat).length) (by rw [List.length_append]; show 1 ≤ 4 + _; omega), decide_eq_true hlen]
  rfl
theorem name_inj {a b : Int} (ha : nameE a = 0) (hb : nameE b = 0) (h : nameB a = nameB b) : a = b := by
  have h1 := (id_name ha).1
  have h2 := (id_name hb).1
  rw [h] at h1
  omega

/-- Segments: their ids, their frames. -/
abbrev Seg := Int × List Fr.F
def segs (l : List Seg) : Fs.Segs := l.map fun s => (nameB s.1, Fr.flat s.2)
structure RepS (st : Fs.St) (l : List Seg) : Prop where
  rep : Fs.Rep st (segs l)
  ok : ∀ s ∈ l, nameE s.1 = 0
  enc : ∀ s ∈ l, ∀ f ∈ s.2, Fr.encE f.1 f.2 = 0
def size (l : List Seg) : Nat := (l.map fun s => (Fr.flat s.2).length).sum
theorem segs_size (l : List Seg) : ((segs l).map (·.2.length)).sum = size l := by
  unfold segs size
  rw [List.map_map]
  rfl
theorem seg_at {l : List Seg} {i : Nat} {s : Seg} (h : l[i]? = some s) : (segs l)[i]? = some (nameB s.1, Fr.flat s.2) := by
  unfold segs
  rw [List.getElem?_map, h]
  rfl
section
variable {st : Fs.St} {l : List Seg}
theorem RepS.create (h : RepS st l) {id : Int} (hid : nameE id = 0) (hn : ∀ s ∈ l, s.1 ≠ id) (hl : l.length < 64) :
    (Sg.create st id).2 = 0 ∧ RepS (Sg.create st id).1 (l ++ [(id, [])]) ∧ (Sg.create st id).1.room = st.room ∧ (Sg.create st id).1.changes = [] := by
  obtain ⟨h1, h2, h3, _⟩ := h.rep.create (good_name hid) (fun s hs e => by
    unfold segs at hs
    obtain ⟨t, ht, rfl⟩ := List.mem_map.1 hs
    exact hn t ht (name_inj (h.ok t ht) hid e)) (by unfold segs; simpa using hl)
  obtain ⟨h5, h6, h7, h8⟩ := h2.syncDir
  have he : Sg.create st id = Fs.syncDir (Fs.create st (nameB id)).1 := by
    unfold Sg.create
    rw [if_neg (by rw [hid]; simp), if_neg (by rw [h1]; simp)]
  rw [he]
  refine ⟨h5, ⟨?_, fun s hs => ?_, fun s hs => ?_⟩, h7.trans h3, h8⟩
  · have : segs (l ++ [(id, [])]) = segs l ++ [(nameB id, [])] := by unfold segs; rw [List.map_append]; rfl
    rw [this]
    exact h6
  · rcases List.mem_append.1 hs with hs | hs
    · exact h.ok s hs
    · simp at hs; subst hs; exact hid
  · rcases List.mem_append.1 hs with hs | hs
    · exact h.enc s hs
    · simp at hs; subst hs; intro f hf; simp at hf
theorem RepS.append (h : RepS st l) {i : Nat} {s : Seg} (hi : l[i]? = some s) {k : Int} {p : List UInt8} (hk : Fr.encE k p = 0) (hb : (Fr.flat s.2).length + (p.length + 9) ≤ 65536) (hr : (size l : Int) + (p.length + 9 : Nat) ≤ st.room) :
    (Sg.append st s.1 k p).2 = 0 ∧ RepS (Sg.append st s.1 k p).1 (l.set i (s.1, s.2 ++ [(k, p)])) ∧ (Sg.append st s.1 k p).1.room = st.room ∧ (Sg.append st s.1 k p).1.changes = st.changes := by
  have hid := h.ok s (List.mem_of_getElem? hi)
  have hg := good_name hid
  obtain ⟨h1, h2, h3, h4⟩ := h.rep.append (s := (nameB s.1, Fr.flat s.2)) (seg_at hi) hg (Fr.bytes k p) (by rw [Fr.bytes_len]; exact hb) (by rw [segs_size, Fr.bytes_len]; exact hr)
  have hlt : i < (segs l).length := (List.getElem?_eq_some_iff.1 (seg_at hi)).1
  obtain ⟨h5, h6, h7, h8⟩ := h2.sync (i := i) (s := (nameB s.1, Fr.flat s.2 ++ Fr.bytes k p)) (List.getElem?_set_self hlt) hg
  have he : Sg.append st s.1 k p = Fs.sync (Fs.append st (nameB s.1) (Fr.bytes k p)).1 (nameB s.1) := by
    unfold Sg.append
    rw [if_neg (by rw [hid]; simp), if_neg (by rw [hk]; simp), if_neg (by rw [h1]; simp)]
  rw [he]
  refine ⟨h5, ⟨?_, fun t ht => ?_, fun t ht => ?_⟩, h7.trans h3, h8.trans h4⟩
  · have : segs (l.set i (s.1, s.2 ++ [(k, p)])) = (segs l).set i (nameB s.1, Fr.flat s.2 ++ Fr.bytes k p) := by
      unfold segs
      rw [List.map_set, Fr.flat_app, Fr.flat_one]
    rw [this]
    exact h6
  · rcases List.mem_or_eq_of_mem_set ht with ht | rfl
    · exact h.ok t ht
    · exact hid
  · rcases List.mem_or_eq_of_mem_set ht with ht | rfl
    · exact h.enc t ht
    · intro f hf
      rcases List.mem_append.1 hf with hf | hf
      · exact h.enc s (List.mem_of_getElem? hi) f hf
      · simp at hf; subst hf; exact hk
/-- All segments, in their order. -/
theorem read_go (hS : ∀ s ∈ l, Fs.openE st (nameB s.1) = 0) (hF : ∀ s ∈ l, Fr.scan (Fs.fileAt st (nameB s.1)) = (s.2, (Fs.fileAt st (nameB s.1)).length)) :
    ∀ (out : List En), readGo st (l.map (·.1)) out true = (out ++ l.flatMap (fun s => s.2.map fun f => (s.1, f)), true, 0) := by
  induction l with
  | nil => intro out; simp [readGo]
  | cons s l ih =>
    intro out
    rw [List.map_cons, readGo_cons, if_neg (by rw [hS s List.mem_cons_self]; simp), hF s List.mem_cons_self]
    simp only [decide_true]
    rw [ih (fun t ht => hS t (List.mem_cons_of_mem _ ht)) (fun t ht => hF t (List.mem_cons_of_mem _ ht)), List.append_assoc, List.flatMap_cons]
theorem bad_none : ∀ (l : List Seg), (∀ s ∈ l, nameE s.1 = 0) → badE (l.map (·.1)) = 0
  | [], _ => rfl
  | s :: l, h => by
    rw [List.map_cons, badE_cons, if_neg (by rw [h s List.mem_cons_self]; simp)]
    exact bad_none l (fun t ht => h t (List.mem_cons_of_mem _ ht))
theorem RepS.read (h : RepS st l) : Sg.read st (l.map (·.1)) = (l.flatMap (fun s => s.2.map fun f => (s.1, f)), true, 0) := by
  unfold Sg.read
  rw [if_neg (by rw [bad_none l h.ok]; simp), read_go (l := l)]
  · rfl
  · intro s hs
    obtain ⟨i, hi⟩ := List.getElem?_of_mem hs
    exact (h.rep.at (seg_at hi)).2.2 (good_name (h.ok s hs))
  · intro s hs
    obtain ⟨i, hi⟩ := List.getElem?_of_mem hs
    have := (h.rep.at (seg_at hi)).2.1
    show Fr.scan (Fs.fileAt st (nameB s.1)) = (s.2, (Fs.fileAt st (nameB s.1)).length)
    rw [show Fs.fileAt st (nameB s.1) = Fr.flat s.2 from this]
    have h2 := Fr.scan_flat [] Fr.stop_nil s.2 (h.enc s hs)
    rwa [List.append_nil] at h2
end
end Sg
end Go.Proofs.YtcinagglbkbmkaaDoor
namespace Go.Proofs.YtcinagglbkbmkaaDoor
set_option linter.unusedSimpArgs false
set_option linter.unusedVariables false
open Go Go.RowKit
namespace Fs
structure Sound (st : St) (k : Nat) : Prop where
  dir : ∀ p ∈ st.dir, (0 ≤ p.2 ∧ p.2 < st.files.length) ∧ good p.1 = true
  sure : ∀ p ∈ st.sure, (0 ≤ p.2 ∧ p.2 < st.files.length) ∧ good p.1 = true
  chg : ∀ l ∈ st.changes, (∀ p ∈ l, p.2 < st.files.length ∧ good p.1 = true) ∧ l.length ≤ 2
  nd : st.dir.Pairwise (fun p q => p.1 ≠ q.1)
  nds : st.sure.Pairwise (fun p q => p.1 ≠ q.1)
  full : ∀ f ∈ st.files, f.2 ≤ f.1.length ∧ f.1.length ≤ 65536
  room : 0 ≤ st.room ∧ st.room ≤ 1048576
  nf : st.files.length ≤ k
  nc : st.changes.length ≤ k
  ndir : st.dir.length ≤ k
  nsure : st.sure.length ≤ k
theorem Sound.mono {st : St} {k j : Nat} (h : Sound st k) (hj : k ≤ j) : Sound st j := { h with nf := Nat.le_trans h.nf hj, nc := Nat.le_trans h.nc hj, ndir := Nat.le_trans h.ndir hj, nsure := Nat.le_trans h.nsure hj }
theorem Sound.small {st : St} {k : Nat} (h : Sound st k) (hk : k ≤ 800000) : Small st :=
  ⟨Nat.le_trans h.nf hk, Nat.le_trans h.ndir hk, Nat.le_trans h.nc hk, fun f hf => (h.full f hf).2, h.room⟩
theorem Sound.new {room : Int} (h : 0 ≤ room ∧ room ≤ 1048576) (k : Nat) : Sound (new room) k :=
  ⟨fun p hp => by (cases hp), fun p hp => by (cases hp), fun p hp => by (cases hp), List.Pairwise.nil, List.Pairwise.nil, fun p hp => by (cases hp), h, Nat.zero_le _, Nat.zero_le _, Nat.zero_le _, Nat.zero_le _⟩
/-- Only the power has turned. -/
theorem step_eq (st : St) : ∃ s l p, (step st).1 = { st with steps := s, left := l, plan := p } := by
  unfold step
  split
  · exact ⟨st.steps, st.left, st.plan, rfl⟩
  · exact ⟨_, _, _, rfl⟩
theorem good_len {n : List UInt8} (h : good n = true) : n.length ≤ 20 := by
  unfold good at h
  simp only [Bool.and_eq_true, decide_eq_true_eq] at h
  exact h.1.2
section
set_option linter.unusedSectionVars false
variable {st : St} {k : Nat} (h : Sound st k)
include h
theorem Sound.power (s l : Int) (p : List Int) : Sound { st with steps := s, left := l, plan := p } k := ⟨h.dir, h.sure, h.chg, h.nd, h.nds, h.full, h.room, h.nf, h.nc, h.ndir, h.nsure⟩
theorem Sound.step : Sound (Fs.step st).1 k := by
  obtain ⟨s, l, p, e⟩ := step_eq st
  rw [e]
  exact h.power s l p
theorem Sound.turned {l : Names} (hl : ∀ p ∈ l, p.2 < st.files.length ∧ good p.1 = true) (hl2 : l.length ≤ 2) : Sound (turned st l) (k + 2) := by
  have key : ∀ (l d : Names), (∀ p ∈ l, p.2 < st.files.length ∧ good p.1 = true) → (∀ p ∈ d, (0 ≤ p.2 ∧ p.2 < st.files.length) ∧ good p.1 = true) → d.Pairwise (fun p q => p.1 ≠ q.1) →
      (∀ p ∈ doAll d l, (0 ≤ p.2 ∧ p.2 < st.files.length) ∧ good p.1 = true) ∧ (doAll d l).Pairwise (fun p q => p.1 ≠ q.1) := by
    intro l
    induction l with
    | nil => intro d _ h1 h2; exact ⟨h1, h2⟩
    | cons c l ih =>
      intro d hl h1 h2
      have hc := hl c List.mem_cons_self
      refine ih (doOne d c) (fun p hp => hl p (List.mem_cons_of_mem _ hp)) ?_ ?_
      · unfold doOne
        split
        · exact fun p hp => h1 p (mdel_mem.1 hp).1
        · intro p hp
          rcases mput_mem.1 hp with rfl | ⟨hp, _⟩
          · exact ⟨⟨by simp only; omega, hc.1⟩, hc.2⟩
          · exact h1 p hp
      · unfold doOne
        split
        · exact pw_mdel h2
        · exact pw_mput h2
  obtain ⟨k1, k2⟩ := key l st.dir hl h.dir h.nd
  have := doAll_len l st.dir
  refine ⟨k1, h.sure, fun l' hl' => ?_, k2, h.nds, h.full, h.room, Nat.le_trans h.nf (by omega), ?_, ?_, Nat.le_trans h.nsure (by omega)⟩
  · rcases List.mem_append.1 hl' with hx | hx
    · exact h.chg l' hx
    · simp at hx; subst hx; exact ⟨hl, hl2⟩
  · show (st.changes ++ [l]).length ≤ _
    have := h.nc
    simp; omega
  · show (doAll st.dir l).length ≤ _
    have := h.ndir
    omega
theorem Sound.files {fs : List (List UInt8 × Nat)} (hn : fs.length = st.files.length) (hf : ∀ f ∈ fs, f.2 ≤ f.1.length ∧ f.1.length ≤ 65536) : Sound { st with files := fs } k :=
  ⟨by rw [hn]; exact h.dir, by rw [hn]; exact h.sure, by rw [hn]; exact h.chg, h.nd, h.nds, hf, h.room, by rw [hn]; exact h.nf, h.nc, h.ndir, h.nsure⟩
theorem Sound.create (n : List UInt8) : Sound (create st n).1 (k + 2) := by
  unfold Fs.create
  split
  · exact h.mono (by omega)
  split
  · exact h.mono (by omega)
  split
  · exact h.mono (by omega)
  split
  · exact h.step.mono (by omega)
  rename_i hg _ _ _
  have hg' : good n = true := by simpa using hg
  obtain ⟨s, l, p, e⟩ := step_eq st
  rw [e]
  have h1 : Sound { st with steps := s, left := l, plan := p, files := st.files ++ [([], 0)] } (k + 1) := by
    have e1 : (st.files ++ [(([] : List UInt8), 0)]).length = st.files.length + 1 := by simp
    refine ⟨?_, ?_, ?_, h.nd, h.nds, ?_, h.room, ?_, Nat.le_succ_of_le h.nc, Nat.le_succ_of_le h.ndir, Nat.le_succ_of_le h.nsure⟩
    · intro p hp; have := h.dir p hp; exact ⟨⟨this.1.1, by show p.2 < ((st.files ++ [(([] : List UInt8), 0)]).length : Int); rw [e1]; omega⟩, this.2⟩
    · intro p hp; have := h.sure p hp; exact ⟨⟨this.1.1, by show p.2 < ((st.files ++ [(([] : List UInt8), 0)]).length : Int); rw [e1]; omega⟩, this.2⟩
    · intro l hl; exact ⟨fun p hp => ⟨by show p.2 < ((st.files ++ [(([] : List UInt8), 0)]).length : Int); rw [e1]; have := ((h.chg l hl).1 p hp).1; omega, ((h.chg l hl).1 p hp).2⟩, (h.chg l hl).2⟩
    · intro f hf
      rcases List.mem_append.1 hf with hf | hf
      · exact h.full f hf
      · simp at hf; subst hf; simp
    · show (st.files ++ [(([] : List UInt8), 0)]).length ≤ _
      rw [e1]; have := h.nf; omega
  refine ⟨?_, h1.sure, ?_, pw_mput h.nd, h.nds, h1.full, h.room, Nat.le_succ_of_le h1.nf, ?_, ?_, Nat.le_trans h.nsure (by omega)⟩
  · intro p hp
    rcases mput_mem.1 hp with rfl | ⟨hp, _⟩
    · exact ⟨⟨by simp, by simp; omega⟩, hg'⟩
    · exact h1.dir p hp
  · intro l hl
    rcases List.mem_append.1 hl with hx | hx
    · exact h1.chg l hx
    · simp at hx; subst hx; exact ⟨fun p hp => by simp at hp; subst hp; exact ⟨by simp; omega, hg'⟩, by simp⟩
  · show (st.changes ++ [_]).length ≤ _
    have := h.nc; simp; omega
  · show (mput st.dir n _).length ≤ _
    have := mput_len st.dir n st.files.length
    have := h.ndir; omega
theorem Sound.grow (i : Nat) (b : List UInt8) (hb : ∀ f, st.files[i]? = some f → f.1.length + b.length ≤ 65536) : Sound { st with files := grow st.files i b } k := by
  unfold Fs.grow
  cases hf : st.files[i]? with
  | none => exact h
  | some f =>
    refine h.files (by simp) (fun g hg => ?_)
    rcases List.mem_or_eq_of_mem_set hg with hg | rfl
    · exact h.full g hg
    · have := h.full f (List.mem_of_getElem? hf)
      have := hb f hf
      simp; omega
theorem Sound.append (n b : List UInt8) : Sound (append st n b).1 k := by
  unfold Fs.append
  split
  · exact h
  split
  · exact h
  rename_i ho hl
  have hb : ∀ (c : List UInt8), c.length ≤ b.length → ∀ f, st.files[Fs.idx st n]? = some f → f.1.length + c.length ≤ 65536 := by
    intro c hc f hf
    unfold fileAt at hl
    rw [hf] at hl
    simp only at hl
    omega
  obtain ⟨s, l, p, e⟩ := step_eq st
  split
  · split
    · rw [e]
      exact (h.grow _ _ (hb _ (by simp; omega))).power s l p
    · exact h.step
  split
  · exact h.step
  · rw [e]
    exact (h.grow _ _ (hb _ (Nat.le_refl _))).power s l p
theorem Sound.flush (i : Nat) : Sound { st with files := flush st.files i } k := by
  unfold Fs.flush
  cases hf : st.files[i]? with
  | none => exact h
  | some f =>
    refine h.files (by simp) (fun g hg => ?_)
    rcases List.mem_or_eq_of_mem_set hg with hg | rfl
    · exact h.full g hg
    · have := h.full f (List.mem_of_getElem? hf)
      exact ⟨Nat.le_refl _, this.2⟩
theorem Sound.sync (n : List UInt8) : Sound (sync st n).1 k := by
  unfold Fs.sync
  split
  · exact h
  split
  · exact h.step
  · obtain ⟨s, l, p, e⟩ := step_eq st
    rw [e]
    exact (h.flush _).power s l p
theorem Sound.syncDir : Sound (syncDir st).1 k := by
  unfold Fs.syncDir
  split
  · exact h.step
  · obtain ⟨s, l, p, e⟩ := step_eq st
    rw [e]
    exact ⟨h.dir, h.dir, fun l hl => (by cases hl), h.nd, h.nd, h.full, h.room, h.nf, Nat.zero_le _, h.ndir, h.ndir⟩
theorem Sound.arm (n : Int) : Sound (arm st n).1 k := by
  unfold Fs.arm
  split
  · exact h
  split
  · exact h
  · exact h.power st.steps n st.plan
theorem doAll_sound : ∀ (l d : Names), (∀ p ∈ l, p.2 < st.files.length ∧ good p.1 = true) → (∀ p ∈ d, (0 ≤ p.2 ∧ p.2 < st.files.length) ∧ good p.1 = true) → d.Pairwise (fun p q => p.1 ≠ q.1) →
    (∀ p ∈ doAll d l, (0 ≤ p.2 ∧ p.2 < st.files.length) ∧ good p.1 = true) ∧ (doAll d l).Pairwise (fun p q => p.1 ≠ q.1)
  | [], d, _, h1, h2 => ⟨h1, h2⟩
  | c :: l, d, hl, h1, h2 => by
    have hc := hl c List.mem_cons_self
    refine doAll_sound l (doOne d c) (fun p hp => hl p (List.mem_cons_of_mem _ hp)) ?_ ?_
    · unfold doOne
      split
      · exact fun p hp => h1 p (mdel_mem.1 hp).1
      · intro p hp
        rcases mput_mem.1 hp with rfl | ⟨hp, _⟩
        · exact ⟨⟨by simp only; omega, hc.1⟩, hc.2⟩
        · exact h1 p hp
    · unfold doOne
      split
      · exact pw_mdel h2
      · exact pw_mput h2
theorem Sound.crashDir (j : Nat) : (∀ p ∈ Fs.crashDir st j, (0 ≤ p.2 ∧ p.2 < st.files.length) ∧ good p.1 = true) ∧ (Fs.crashDir st j).Pairwise (fun p q => p.1 ≠ q.1) ∧ (Fs.crashDir st j).length ≤ k + 2 * j := by
  unfold Fs.crashDir
  have key : ∀ (L : List Names) (d : Names), (∀ l ∈ L, (∀ p ∈ l, p.2 < st.files.length ∧ good p.1 = true) ∧ l.length ≤ 2) → (∀ p ∈ d, (0 ≤ p.2 ∧ p.2 < st.files.length) ∧ good p.1 = true) → d.Pairwise (fun p q => p.1 ≠ q.1) →
      (∀ p ∈ L.foldl doAll d, (0 ≤ p.2 ∧ p.2 < st.files.length) ∧ good p.1 = true) ∧ (L.foldl doAll d).Pairwise (fun p q => p.1 ≠ q.1) ∧ (L.foldl doAll d).length ≤ d.length + 2 * L.length := by
    intro L
    induction L with
    | nil => intro d _ h1 h2; exact ⟨h1, h2, Nat.le_refl _⟩
    | cons l L ih =>
      intro d hL h1 h2
      obtain ⟨k1, k2⟩ := doAll_sound h l d (hL l List.mem_cons_self).1 h1 h2
      obtain ⟨a1, a2, a3⟩ := ih (doAll d l) (fun x hx => hL x (List.mem_cons_of_mem _ hx)) k1 k2
      refine ⟨a1, a2, Nat.le_trans a3 ?_⟩
      have := doAll_len l d
      have := (hL l List.mem_cons_self).2
      rw [List.length_cons]; omega
  obtain ⟨a1, a2, a3⟩ := key (st.changes.take j) st.sure (fun l hl => h.chg l (List.mem_of_mem_take hl)) h.sure h.nds
  refine ⟨a1, a2, Nat.le_trans a3 ?_⟩
  have := h.nsure
  have : (st.changes.take j).length ≤ j := by simp; omega
  omega
theorem Sound.crash (dirs : Int) (tails : List Int) : Sound (Fs.crash st dirs tails) (Fs.crashDir st (dirsOf st dirs)).length := by
  obtain ⟨a1, a2, _⟩ := h.crashDir (dirsOf st dirs)
  obtain ⟨c1, c2, c3, c4, c5, c6, _⟩ := crash_look (st := st) (dirs := dirs) (tails := tails) a2 (fun p hp => (a1 p hp).2)
  have hs : (Fs.crash st dirs tails).sure = (Fs.crash st dirs tails).dir := rfl
  have hc : (Fs.crash st dirs tails).changes = [] := rfl
  have hr : (Fs.crash st dirs tails).room = st.room := rfl
  refine ⟨fun p hp => ⟨c2.known p hp, c2.gd p hp⟩, by rw [hs]; exact fun p hp => ⟨c2.known p hp, c2.gd p hp⟩, by rw [hc]; exact fun l hl => by (cases hl), c2.nd, by rw [hs]; exact c2.nd, fun f hf => ⟨Nat.le_of_eq (c5 f hf), ?_⟩, by rw [hr]; exact h.room, by omega, by rw [hc]; exact Nat.zero_le _, by omega, by rw [hs]; omega⟩
  obtain ⟨n, e⟩ := c6 f hf
  rw [e]
  unfold cutOf cut
  rw [List.length_take]
  cases hx : st.files[(mget (Fs.crashDir st (dirsOf st dirs)) n).toNat]? with
  | none => simp
  | some g => have := h.full g (List.mem_of_getElem? hx); simp; omega
end
end Fs
end Go.Proofs.YtcinagglbkbmkaaDoor
