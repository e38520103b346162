/-
  Saving and loading a manifest (plain); in calm weather. A crash: what is left (plain). What any operation of the file system keeps, in any weather (plain). Saving a manifest, in any weather, and a crash behind it (plain). Manifests: numbers in memory; Check, walked. Manifests: Encode, walked.
-/
import Derived.Test.YtcinagglbkbmkaaGreatDoorZl8
import Derived.Laws.IdiomStrings
namespace Go.Proofs.YtcinagglbkbmkaaGreatDoor
set_option linter.unusedSimpArgs false
set_option linter.unusedVariables false
open Go Go.RowKit
namespace Fs
/-- Steps one behind the other, to the first error. -/
def first : List (St → St × Int) → St → St × Int
  | [], st => (st, 0)
  | f :: r, st => if (f st).2 ≠ 0 then f st else first r (f st).1
theorem first_ok {f : St → St × Int} {r : List (St → St × Int)} {st st' : St} (h : f st = (st', 0)) : first (f :: r) st = first r st' := by
  rw [first, h, if_neg (by simp)]
end Fs
namespace Mf
def final : List UInt8 := [109, 97, 110, 105, 102, 101, 115, 116]
def draft : List UInt8 := [109, 97, 110, 105, 102, 101, 115, 116, 46, 116, 109, 112]
def clear (st : Fs.St) : Fs.St × Int := if Fs.mhas st.dir draft then Fs.remove st draft else (st, 0)
def steps (b : List UInt8) : List (Fs.St → Fs.St × Int) :=
  [clear, fun st => Fs.create st draft, fun st => Fs.append st draft b, fun st => Fs.sync st draft, fun st => Fs.rename st draft final, Fs.syncDir]
def save (st : Fs.St) (v : Int) (l : List Int) : Fs.St × Int := if good v l = false then (st, 1) else Fs.first (steps (enc v l)) st
def load (st : Fs.St) : (Int × List Int) × Int :=
  if Fs.openE st final ≠ 0 then ((0, []), Fs.openE st final) else match read (Fs.fileAt st final) with
    | some m => (m, 0)
    | none => ((0, []), 2)
theorem good_final : Fs.good final = true := by decide
theorem good_draft : Fs.good draft = true := by decide
theorem enc_len {v : Int} {l : List Int} (h : good v l = true) : (enc v l).length ≤ 800 := by
  have h1 := pay_len (good_all h)
  have h2 := (good_out h).2.1
  rw [List.length_cons] at h1
  unfold enc
  rw [Fr.bytes_len]
  omega
theorem load_look {st : Fs.St} {v : Int} {l : List Int} (h : good v l = true) (hf : Fs.look st final = some (enc v l)) : load st = ((v, l), 0) := by
  obtain ⟨h1, h2⟩ := Fs.look_some hf
  unfold load
  rw [if_neg (by rw [Fs.openE_of good_final h1]; simp), h2, read_enc h]
theorem load_none {st : Fs.St} (hf : Fs.look st final = none) : load st = ((0, []), 3) := by
  have h1 := Fs.look_none hf
  have : Fs.openE st final = 3 := by unfold Fs.openE; rw [if_neg (by rw [good_final]; simp), if_pos h1]
  unfold load
  rw [this, if_pos (by simp)]
/-- A manifest is saved, in calm weather. -/
theorem save_calm {st : Fs.St} (hc : Fs.Calm st) (hi : Fs.Inv st) {v : Int} {l : List Int} (hg : good v l = true) (hd : st.dir.length < 64) {M : Nat} (hM : ∀ n b, Fs.look st n = some b → b.length ≤ M)
    (hr : ((st.dir.length + 1) * M + 800 : Nat) ≤ st.room) (hfl : ∀ f ∈ st.files, f.1.length ≤ 65536) :
    (save st v l).2 = 0 ∧ Fs.Next st (save st v l).1 3 ∧ (save st v l).1.dir.length ≤ st.dir.length + 1 ∧ (Fs.mhas st.dir final = true → (save st v l).1.dir.length ≤ st.dir.length) ∧
      (∀ f ∈ (save st v l).1.files, f.1.length ≤ 65536) ∧ ∀ m, Fs.look (save st v l).1 m = if m = final then some (enc v l) else if m = draft then none else Fs.look st m := by
  have hel := enc_len hg
  have hs : save st v l = Fs.first (steps (enc v l)) st := by unfold save; rw [if_neg (by rw [hg]; simp)]
  rw [hs]
  clear hs
  have hfd : ¬ final = draft := by decide
  -- the draft's absence
  obtain ⟨s1, e1, n1, d1, d1', g1, f1, k1⟩ : ∃ s1, clear st = (s1, 0) ∧ Fs.Next st s1 1 ∧ s1.dir.length ≤ st.dir.length ∧ s1.dir.length + 1 ≤ 64 ∧ (Fs.mhas s1.dir final = Fs.mhas st.dir final) ∧ s1.files = st.files ∧ ∀ m, Fs.look s1 m = if m = draft then none else Fs.look st m := by
    cases hh : Fs.mhas st.dir draft
    · refine ⟨st, by unfold clear; rw [hh]; rfl, ⟨hc, hi, rfl, Nat.le_succ _, Nat.le_succ _⟩, Nat.le_refl _, hd, rfl, rfl, fun m => ?_⟩
      by_cases hm : m = draft
      · rw [if_pos hm, hm]; unfold Fs.look; rw [hh]; rfl
      · rw [if_neg hm]
    · obtain ⟨h1, h2, h3, h4, h5⟩ := Fs.calm_remove hc hi good_draft hh
      refine ⟨(Fs.remove st draft).1, by unfold clear; rw [if_pos hh]; exact Prod.ext rfl h1, h2, by rw [h3]; exact Fs.mdel_len _ _, by rw [h3]; have := Fs.mdel_len st.dir draft; omega, ?_, h4, h5⟩
      rw [h3, Fs.mhas_mdel, decide_eq_false hfd]; rfl
  have hnd : Fs.mhas s1.dir draft = false := Fs.look_none (by rw [k1, if_pos rfl])
  obtain ⟨c1, n2, dl2, k2⟩ := Fs.calm_create n1.calm n1.inv good_draft hnd (by omega)
  have f2 : (Fs.create s1 draft).1.files = s1.files ++ [([], 0)] := by
    unfold Fs.create
    rw [if_neg (by rw [good_draft]; simp), if_neg (by rw [hnd]; simp), if_neg (by omega), if_neg (by rw [Fs.step_calm n1.calm]; simp)]
  have e2 : (fun st => Fs.create st draft) s1 = ((Fs.create s1 draft).1, 0) := Prod.ext rfl c1
  generalize hs2 : (Fs.create s1 draft).1 = s2 at *
  have u2 : Fs.used s2 ≤ s2.dir.length * M := Fs.used_look n2.inv (fun n b hb => by
    rw [k2] at hb
    by_cases hn : n = draft
    · rw [if_pos hn] at hb; simp at hb; subst hb; exact Nat.zero_le _
    · rw [if_neg hn, k1, if_neg hn] at hb; exact hM n b hb)
  have u2' : s2.dir.length * M ≤ (st.dir.length + 1) * M := Nat.mul_le_mul_right M (by omega)
  obtain ⟨c3, n3, dl3, ⟨i3, f3⟩, k3⟩ := Fs.calm_append (b := enc v l) n2.calm n2.inv good_draft (old := []) (by rw [k2, if_pos rfl]) (by simp; omega) (by have h4 := n2.room; have h5 := n1.room; omega)
  have e3 : (fun st => Fs.append st draft (enc v l)) s2 = ((Fs.append s2 draft (enc v l)).1, 0) := Prod.ext rfl c3
  generalize hs3 : (Fs.append s2 draft (enc v l)).1 = s3 at *
  obtain ⟨c4, n4, dl4, ⟨i4, f4⟩, k4⟩ := Fs.calm_sync n3.calm n3.inv good_draft (old := [] ++ enc v l) (by rw [k3, if_pos rfl])
  have e4 : (fun st => Fs.sync st draft) s3 = ((Fs.sync s3 draft).1, 0) := Prod.ext rfl c4
  generalize hs4 : (Fs.sync s3 draft).1 = s4 at *
  obtain ⟨c5, n5, dl5, dl5', f5, k5⟩ := Fs.calm_rename (nt := final) n4.calm n4.inv good_draft good_final (by decide) (old := [] ++ enc v l) (by rw [k4, k3, if_pos rfl])
  have e5 : (fun st => Fs.rename st draft final) s4 = ((Fs.rename s4 draft final).1, 0) := Prod.ext rfl c5
  generalize hs5 : (Fs.rename s4 draft final).1 = s5 at *
  obtain ⟨c6, n6, dl6, f6, k6⟩ := Fs.calm_syncDir n5.calm n5.inv
  have e6 : Fs.syncDir s5 = ((Fs.syncDir s5).1, 0) := Prod.ext rfl c6
  generalize hs6 : (Fs.syncDir s5).1 = s6 at *
  have hall : Fs.first (steps (enc v l)) st = (s6, 0) := by
    unfold steps
    rw [Fs.first_ok e1, Fs.first_ok e2, Fs.first_ok e3, Fs.first_ok e4, Fs.first_ok e5, Fs.first_ok e6, Fs.first]
  rw [hall]
  refine ⟨rfl, ((((((n1.trans n2).trans n3).trans n4).trans n5).trans n6) : _), ?_, ?_, ?_, ?_⟩
  · show s6.dir.length ≤ _
    rw [dl6]; rw [dl4, dl3, dl2] at dl5; omega
  · intro hf
    show s6.dir.length ≤ _
    have h4 : Fs.mhas s4.dir final = true := by
      have : (Fs.look s4 final).isSome := by
        rw [k4, k3, if_neg hfd, k2, if_neg hfd, k1, if_neg hfd]
        unfold Fs.look; rw [if_pos hf]; rfl
      cases hx : Fs.mhas s4.dir final
      · unfold Fs.look at this; rw [hx] at this; cases this
      · rfl
    have := dl5' h4
    rw [dl6]; rw [dl4, dl3, dl2] at this; omega
  · show ∀ f ∈ s6.files, _
    rw [f6, f5, f4, f3, f2, f1]
    intro f hf
    rcases List.mem_or_eq_of_mem_set hf with hf | rfl
    · rcases List.mem_or_eq_of_mem_set hf with hf | rfl
      · rcases List.mem_append.1 hf with hf | hf
        · exact hfl f hf
        · simp at hf; subst hf; exact Nat.zero_le _
      · show ([] ++ enc v l).length ≤ _; simp; omega
    · show ([] ++ enc v l).length ≤ _; simp; omega
  · intro m
    show Fs.look s6 m = _
    rw [k6, k5]
    by_cases hm : m = final
    · rw [if_pos hm, if_pos hm]; rfl
    · rw [if_neg hm, if_neg hm]
      by_cases hd2 : m = draft
      · rw [if_pos hd2, if_pos hd2]
      · rw [if_neg hd2, if_neg hd2, k4, k3, if_neg hd2, k2, if_neg hd2, k1, if_neg hd2]
end Mf
end Go.Proofs.YtcinagglbkbmkaaGreatDoor
namespace Go.Proofs.YtcinagglbkbmkaaGreatDoor
set_option linter.unusedSimpArgs false
set_option linter.unusedVariables false
open Go Go.RowKit
namespace Fs
/-- The names' order. -/
def keys (D : Names) : List (List UInt8) := (D.map (·.1)).mergeSort (fun x y => decide (x ≤ y))
/-- The directory behind the first changes. -/
def crashDir (st : St) (k : Nat) : Names := (st.changes.take k).foldl doAll st.sure
/-- Names and files, one for one. -/
structure InvA (fs : List (List UInt8 × Nat)) (d : Names) : Prop where
  nd : d.Pairwise (fun p q => p.1 ≠ q.1)
  inj : ∀ p ∈ d, ∀ q ∈ d, p.2 = q.2 → p.1 = q.1
  known : ∀ p ∈ d, 0 ≤ p.2 ∧ p.2 < fs.length
  gd : ∀ p ∈ d, good p.1 = true
  full : ∀ f ∈ fs, f.2 = f.1.length
theorem keys_mem {D : Names} {n : List UInt8} : n ∈ keys D ↔ mhas D n = true := by
  unfold keys
  rw [List.mem_mergeSort, mhas_mem, List.mem_map]
theorem keys_len (D : Names) : (keys D).length = D.length := by unfold keys; rw [List.length_mergeSort, List.length_map]
end Fs
end Go.Proofs.YtcinagglbkbmkaaGreatDoor
namespace Go.Proofs.YtcinagglbkbmkaaGreatDoor
set_option linter.unusedSimpArgs false
set_option linter.unusedVariables false
open Go Go.RowKit
namespace Fs
structure Sound (st : St) (k : Nat) : Prop where
  dir : ∀ p ∈ st.dir, (0 ≤ p.2 ∧ p.2 < st.files.length) ∧ good p.1 = true
  sure : ∀ p ∈ st.sure, (0 ≤ p.2 ∧ p.2 < st.files.length) ∧ good p.1 = true
  chg : ∀ l ∈ st.changes, (∀ p ∈ l, p.2 < st.files.length ∧ good p.1 = true) ∧ l.length ≤ 2
  nd : st.dir.Pairwise (fun p q => p.1 ≠ q.1)
  nds : st.sure.Pairwise (fun p q => p.1 ≠ q.1)
  full : ∀ f ∈ st.files, f.2 ≤ f.1.length ∧ f.1.length ≤ 65536
  room : 0 ≤ st.room ∧ st.room ≤ 1048576
  nf : st.files.length ≤ k
  nc : st.changes.length ≤ k
  ndir : st.dir.length ≤ k
  nsure : st.sure.length ≤ k
theorem Sound.mono {st : St} {k j : Nat} (h : Sound st k) (hj : k ≤ j) : Sound st j := { h with nf := Nat.le_trans h.nf hj, nc := Nat.le_trans h.nc hj, ndir := Nat.le_trans h.ndir hj, nsure := Nat.le_trans h.nsure hj }
theorem Sound.new {room : Int} (h : 0 ≤ room ∧ room ≤ 1048576) (k : Nat) : Sound (new room) k :=
  ⟨fun p hp => by (cases hp), fun p hp => by (cases hp), fun p hp => by (cases hp), List.Pairwise.nil, List.Pairwise.nil, fun p hp => by (cases hp), h, Nat.zero_le _, Nat.zero_le _, Nat.zero_le _, Nat.zero_le _⟩
/-- Only the power has turned. -/
theorem step_eq (st : St) : ∃ s l p, (step st).1 = { st with steps := s, left := l, plan := p } := by
  unfold step
  split
  · exact ⟨st.steps, st.left, st.plan, rfl⟩
  · exact ⟨_, _, _, rfl⟩
section
set_option linter.unusedSectionVars false
variable {st : St} {k : Nat} (h : Sound st k)
include h
theorem Sound.power (s l : Int) (p : List Int) : Sound { st with steps := s, left := l, plan := p } k := ⟨h.dir, h.sure, h.chg, h.nd, h.nds, h.full, h.room, h.nf, h.nc, h.ndir, h.nsure⟩
theorem Sound.step : Sound (Fs.step st).1 k := by
  obtain ⟨s, l, p, e⟩ := step_eq st
  rw [e]
  exact h.power s l p
theorem Sound.turned {l : Names} (hl : ∀ p ∈ l, p.2 < st.files.length ∧ good p.1 = true) (hl2 : l.length ≤ 2) : Sound (turned st l) (k + 2) := by
  have key : ∀ (l d : Names), (∀ p ∈ l, p.2 < st.files.length ∧ good p.1 = true) → (∀ p ∈ d, (0 ≤ p.2 ∧ p.2 < st.files.length) ∧ good p.1 = true) → d.Pairwise (fun p q => p.1 ≠ q.1) →
      (∀ p ∈ doAll d l, (0 ≤ p.2 ∧ p.2 < st.files.length) ∧ good p.1 = true) ∧ (doAll d l).Pairwise (fun p q => p.1 ≠ q.1) := by
    intro l
    induction l with
    | nil => intro d _ h1 h2; exact ⟨h1, h2⟩
    | cons c l ih =>
      intro d hl h1 h2
      have hc := hl c List.mem_cons_self
      refine ih (doOne d c) (fun p hp => hl p (List.mem_cons_of_mem _ hp)) ?_ ?_
      · unfold doOne
        split
        · exact fun p hp => h1 p (mdel_mem.1 hp).1
        · intro p hp
          rcases mput_mem.1 hp with rfl | ⟨hp, _⟩
          · exact ⟨⟨by simp only; omega, hc.1⟩, hc.2⟩
          · exact h1 p hp
      · unfold doOne
        split
        · exact pw_mdel h2
        · exact pw_mput h2
  obtain ⟨k1, k2⟩ := key l st.dir hl h.dir h.nd
  have := doAll_len l st.dir
  refine ⟨k1, h.sure, fun l' hl' => ?_, k2, h.nds, h.full, h.room, Nat.le_trans h.nf (by omega), ?_, ?_, Nat.le_trans h.nsure (by omega)⟩
  · rcases List.mem_append.1 hl' with hx | hx
    · exact h.chg l' hx
    · simp at hx; subst hx; exact ⟨hl, hl2⟩
  · show (st.changes ++ [l]).length ≤ _
    have := h.nc
    simp; omega
  · show (doAll st.dir l).length ≤ _
    have := h.ndir
    omega
theorem Sound.files {fs : List (List UInt8 × Nat)} (hn : fs.length = st.files.length) (hf : ∀ f ∈ fs, f.2 ≤ f.1.length ∧ f.1.length ≤ 65536) : Sound { st with files := fs } k :=
  ⟨by rw [hn]; exact h.dir, by rw [hn]; exact h.sure, by rw [hn]; exact h.chg, h.nd, h.nds, hf, h.room, by rw [hn]; exact h.nf, h.nc, h.ndir, h.nsure⟩
theorem Sound.create (n : List UInt8) : Sound (create st n).1 (k + 2) := by
  unfold Fs.create
  split
  · exact h.mono (by omega)
  split
  · exact h.mono (by omega)
  split
  · exact h.mono (by omega)
  split
  · exact h.step.mono (by omega)
  rename_i hg _ _ _
  have hg' : good n = true := by simpa using hg
  obtain ⟨s, l, p, e⟩ := step_eq st
  rw [e]
  have h1 : Sound { st with steps := s, left := l, plan := p, files := st.files ++ [([], 0)] } (k + 1) := by
    have e1 : (st.files ++ [(([] : List UInt8), 0)]).length = st.files.length + 1 := by simp
    refine ⟨?_, ?_, ?_, h.nd, h.nds, ?_, h.room, ?_, Nat.le_succ_of_le h.nc, Nat.le_succ_of_le h.ndir, Nat.le_succ_of_le h.nsure⟩
    · intro p hp; have := h.dir p hp; exact ⟨⟨this.1.1, by show p.2 < ((st.files ++ [(([] : List UInt8), 0)]).length : Int); rw [e1]; omega⟩, this.2⟩
    · intro p hp; have := h.sure p hp; exact ⟨⟨this.1.1, by show p.2 < ((st.files ++ [(([] : List UInt8), 0)]).length : Int); rw [e1]; omega⟩, this.2⟩
    · intro l hl; exact ⟨fun p hp => ⟨by show p.2 < ((st.files ++ [(([] : List UInt8), 0)]).length : Int); rw [e1]; have := ((h.chg l hl).1 p hp).1; omega, ((h.chg l hl).1 p hp).2⟩, (h.chg l hl).2⟩
    · intro f hf
      rcases List.mem_append.1 hf with hf | hf
      · exact h.full f hf
      · simp at hf; subst hf; simp
    · show (st.files ++ [(([] : List UInt8), 0)]).length ≤ _
      rw [e1]; have := h.nf; omega
  refine ⟨?_, h1.sure, ?_, pw_mput h.nd, h.nds, h1.full, h.room, Nat.le_succ_of_le h1.nf, ?_, ?_, Nat.le_trans h.nsure (by omega)⟩
  · intro p hp
    rcases mput_mem.1 hp with rfl | ⟨hp, _⟩
    · exact ⟨⟨by simp, by simp; omega⟩, hg'⟩
    · exact h1.dir p hp
  · intro l hl
    rcases List.mem_append.1 hl with hx | hx
    · exact h1.chg l hx
    · simp at hx; subst hx; exact ⟨fun p hp => by simp at hp; subst hp; exact ⟨by simp; omega, hg'⟩, by simp⟩
  · show (st.changes ++ [_]).length ≤ _
    have := h.nc; simp; omega
  · show (mput st.dir n _).length ≤ _
    have := mput_len st.dir n st.files.length
    have := h.ndir; omega
theorem Sound.grow (i : Nat) (b : List UInt8) (hb : ∀ f, st.files[i]? = some f → f.1.length + b.length ≤ 65536) : Sound { st with files := grow st.files i b } k := by
  unfold Fs.grow
  cases hf : st.files[i]? with
  | none => exact h
  | some f =>
    refine h.files (by simp) (fun g hg => ?_)
    rcases List.mem_or_eq_of_mem_set hg with hg | rfl
    · exact h.full g hg
    · have := h.full f (List.mem_of_getElem? hf)
      have := hb f hf
      simp; omega
theorem Sound.append (n b : List UInt8) : Sound (append st n b).1 k := by
  unfold Fs.append
  split
  · exact h
  split
  · exact h
  rename_i ho hl
  have hb : ∀ (c : List UInt8), c.length ≤ b.length → ∀ f, st.files[Fs.idx st n]? = some f → f.1.length + c.length ≤ 65536 := by
    intro c hc f hf
    unfold fileAt at hl
    rw [hf] at hl
    simp only at hl
    omega
  obtain ⟨s, l, p, e⟩ := step_eq st
  split
  · split
    · rw [e]
      exact (h.grow _ _ (hb _ (by simp; omega))).power s l p
    · exact h.step
  split
  · exact h.step
  · rw [e]
    exact (h.grow _ _ (hb _ (Nat.le_refl _))).power s l p
theorem Sound.flush (i : Nat) : Sound { st with files := flush st.files i } k := by
  unfold Fs.flush
  cases hf : st.files[i]? with
  | none => exact h
  | some f =>
    refine h.files (by simp) (fun g hg => ?_)
    rcases List.mem_or_eq_of_mem_set hg with hg | rfl
    · exact h.full g hg
    · have := h.full f (List.mem_of_getElem? hf)
      exact ⟨Nat.le_refl _, this.2⟩
theorem Sound.sync (n : List UInt8) : Sound (sync st n).1 k := by
  unfold Fs.sync
  split
  · exact h
  split
  · exact h.step
  · obtain ⟨s, l, p, e⟩ := step_eq st
    rw [e]
    exact (h.flush _).power s l p
theorem Sound.syncDir : Sound (syncDir st).1 k := by
  unfold Fs.syncDir
  split
  · exact h.step
  · obtain ⟨s, l, p, e⟩ := step_eq st
    rw [e]
    exact ⟨h.dir, h.dir, fun l hl => (by cases hl), h.nd, h.nd, h.full, h.room, h.nf, Nat.zero_le _, h.ndir, h.ndir⟩
theorem Sound.remove (n : List UInt8) : Sound (remove st n).1 (k + 2) := by
  unfold Fs.remove
  split
  · exact h.mono (by omega)
  rename_i ho
  split
  · exact h.step.mono (by omega)
  · have hg : good n = true := by
      cases hx : good n
      · exact absurd (by unfold openE; rw [if_pos hx]; decide) ho
      · rfl
    refine h.step.turned (fun p hp => ?_) (by simp)
    simp at hp; subst hp
    exact ⟨by simp only; omega, hg⟩
theorem Sound.rename (a b : List UInt8) : Sound (rename st a b).1 (k + 2) := by
  unfold Fs.rename
  split
  · exact h.mono (by omega)
  rename_i hg
  split
  · exact h.mono (by omega)
  rename_i hh
  split
  · exact h.step.mono (by omega)
  · have hg' : good a = true ∧ good b = true := by
      rw [Bool.not_eq_false, Bool.and_eq_true] at hg
      exact hg
    obtain ⟨p, hp1, hp2, hp3⟩ := mget_mem (l := st.dir) (k := a) (by simpa using hh)
    refine h.step.turned (fun q hq => ?_) (by simp)
    rw [step_files]
    simp at hq
    rcases hq with rfl | rfl
    · exact ⟨by simp only; omega, hg'.1⟩
    · exact ⟨by simp only; rw [← hp3]; exact (h.dir p hp1).1.2, hg'.2⟩
theorem doAll_sound : ∀ (l d : Names), (∀ p ∈ l, p.2 < st.files.length ∧ good p.1 = true) → (∀ p ∈ d, (0 ≤ p.2 ∧ p.2 < st.files.length) ∧ good p.1 = true) → d.Pairwise (fun p q => p.1 ≠ q.1) →
    (∀ p ∈ doAll d l, (0 ≤ p.2 ∧ p.2 < st.files.length) ∧ good p.1 = true) ∧ (doAll d l).Pairwise (fun p q => p.1 ≠ q.1)
  | [], d, _, h1, h2 => ⟨h1, h2⟩
  | c :: l, d, hl, h1, h2 => by
    have hc := hl c List.mem_cons_self
    refine doAll_sound l (doOne d c) (fun p hp => hl p (List.mem_cons_of_mem _ hp)) ?_ ?_
    · unfold doOne
      split
      · exact fun p hp => h1 p (mdel_mem.1 hp).1
      · intro p hp
        rcases mput_mem.1 hp with rfl | ⟨hp, _⟩
        · exact ⟨⟨by simp only; omega, hc.1⟩, hc.2⟩
        · exact h1 p hp
    · unfold doOne
      split
      · exact pw_mdel h2
      · exact pw_mput h2
theorem Sound.crashDir (j : Nat) : (∀ p ∈ Fs.crashDir st j, (0 ≤ p.2 ∧ p.2 < st.files.length) ∧ good p.1 = true) ∧ (Fs.crashDir st j).Pairwise (fun p q => p.1 ≠ q.1) ∧ (Fs.crashDir st j).length ≤ k + 2 * j := by
  unfold Fs.crashDir
  have key : ∀ (L : List Names) (d : Names), (∀ l ∈ L, (∀ p ∈ l, p.2 < st.files.length ∧ good p.1 = true) ∧ l.length ≤ 2) → (∀ p ∈ d, (0 ≤ p.2 ∧ p.2 < st.files.length) ∧ good p.1 = true) → d.Pairwise (fun p q => p.1 ≠ q.1) →
      (∀ p ∈ L.foldl doAll d, (0 ≤ p.2 ∧ p.2 < st.files.length) ∧ good p.1 = true) ∧ (L.foldl doAll d).Pairwise (fun p q => p.1 ≠ q.1) ∧ (L.foldl doAll d).length ≤ d.length + 2 * L.length := by
    intro L
    induction L with
    | nil => intro d _ h1 h2; exact ⟨h1, h2, Nat.le_refl _⟩
    | cons l L ih =>
      intro d hL h1 h2
      obtain ⟨k1, k2⟩ := doAll_sound h l d (hL l List.mem_cons_self).1 h1 h2
      obtain ⟨a1, a2, a3⟩ := ih (doAll d l) (fun x hx => hL x (List.mem_cons_of_mem _ hx)) k1 k2
      refine ⟨a1, a2, Nat.le_trans a3 ?_⟩
      have := doAll_len l d
      have := (hL l List.mem_cons_self).2
      rw [List.length_cons]; omega
  obtain ⟨a1, a2, a3⟩ := key (st.changes.take j) st.sure (fun l hl => h.chg l (List.mem_of_mem_take hl)) h.sure h.nds
  refine ⟨a1, a2, Nat.le_trans a3 ?_⟩
  have := h.nsure
  have : (st.changes.take j).length ≤ j := by simp; omega
  omega
end
end Fs
end Go.Proofs.YtcinagglbkbmkaaGreatDoor
namespace Go.Proofs.YtcinagglbkbmkaaGreatDoor
set_option linter.unusedSimpArgs false
set_option linter.unusedVariables false
open Go Go.RowKit
namespace Mf
open Fs
/-- Behind a crash: the manifest that there is, perhaps a draft. -/
structure Round (st : St) (cur : Option (List UInt8)) : Prop where
  sound : Sound st 2
  sure : st.sure = st.dir
  chg : st.changes = []
  full : ∀ f ∈ st.files, f.2 = f.1.length
  two : ∀ p ∈ st.dir, p.1 = final ∨ p.1 = draft
  cur : (mhas st.dir final = false → cur = none) ∧ (mhas st.dir final = true → ∃ b, st.files[(mget st.dir final).toNat]? = some (b, b.length) ∧ cur = some b)
/-- Wherever the directory stands: the manifest is the elder one, or the new one. -/
def Sw (st : St) (cur : Option (List UInt8)) (new : List UInt8) (sure : Prop) : Prop :=
  ∀ j, (∀ p ∈ crashDir st j, p.1 = final ∨ p.1 = draft) ∧ (mhas (crashDir st j) final = false → cur = none ∧ ¬ sure) ∧
    (mhas (crashDir st j) final = true → ∃ b, st.files[(mget (crashDir st j) final).toNat]? = some (b, b.length) ∧ ((cur = some b ∧ ¬ sure) ∨ new = b))
/-- The draft alone has turned. -/
structure Mid (s0 st : St) : Prop where
  files : ∃ ex, st.files = s0.files ++ ex
  sure : st.sure = s0.dir
  chg : ∀ l ∈ st.changes, ∀ p ∈ l, p.1 = draft
theorem Mid.alike {s0 st st' : St} (h : Mid s0 st) (e1 : st'.files = st.files) (e2 : st'.sure = st.sure) (e3 : st'.changes = st.changes) : Mid s0 st' :=
  ⟨by rw [e1]; exact h.files, by rw [e2]; exact h.sure, by rw [e3]; exact h.chg⟩
theorem Mid.step {s0 st : St} (h : Mid s0 st) : Mid s0 (Fs.step st).1 := by
  obtain ⟨s, l, p, e⟩ := step_eq st
  exact h.alike (by rw [e]) (by rw [e]) (by rw [e])
theorem Mid.set {s0 st : St} (h : Mid s0 st) {i : Nat} (hi : s0.files.length ≤ i) (f : List UInt8 × Nat) : Mid s0 { st with files := st.files.set i f } := by
  obtain ⟨ex, e⟩ := h.files
  refine ⟨⟨ex.set (i - s0.files.length) f, ?_⟩, h.sure, h.chg⟩
  show st.files.set i f = _
  rw [e, List.set_append_right _ _ hi]
theorem Mid.turned {s0 st : St} (h : Mid s0 st) {l : Names} (hl : ∀ p ∈ l, p.1 = draft) : Mid s0 (turned st l) := by
  refine ⟨h.files, h.sure, fun x hx => ?_⟩
  rcases List.mem_append.1 hx with hx | hx
  · exact h.chg x hx
  · simp at hx; subst hx; exact hl
theorem Mid.clear {s0 st : St} (h : Mid s0 st) : Mid s0 (clear st).1 := by
  unfold Mf.clear
  split
  · unfold Fs.remove
    split
    · exact h
    split
    · exact h.step
    · exact h.step.turned (fun p hp => by simp at hp; rw [hp])
  · exact h
/-- The draft's file is a new one. -/
structure Drafted (s0 st : St) (N : Nat) : Prop extends Mid s0 st where
  new : s0.files.length ≤ N ∧ N < st.files.length
  there : mhas st.dir draft = true ∧ mget st.dir draft = (N : Int)
  two : ∀ p ∈ st.dir, p.1 = final ∨ p.1 = draft
theorem Drafted.idx {s0 st : St} {N : Nat} (h : Drafted s0 st N) : Fs.idx st draft = N := by unfold Fs.idx; rw [h.there.2]; rfl
theorem Drafted.open {s0 st : St} {N : Nat} (h : Drafted s0 st N) : openE st draft = 0 := openE_of good_draft h.there.1
theorem Drafted.step {s0 st : St} {N : Nat} (h : Drafted s0 st N) : Drafted s0 (Fs.step st).1 N := by
  have hm := h.toMid.step
  obtain ⟨s, l, p, e⟩ := step_eq st
  refine ⟨hm, ?_, ?_, ?_⟩ <;> rw [e]
  · exact h.new
  · exact h.there
  · exact h.two
theorem Drafted.set {s0 st : St} {N : Nat} (h : Drafted s0 st N) (f : List UInt8 × Nat) : Drafted s0 { st with files := st.files.set N f } N :=
  ⟨h.toMid.set h.new.1 f, ⟨h.new.1, by show N < (st.files.set N f).length; rw [List.length_set]; exact h.new.2⟩, h.there, h.two⟩
theorem Drafted.grow {s0 st : St} {N : Nat} (h : Drafted s0 st N) (b : List UInt8) : ∃ f, st.files[N]? = some f ∧ grow st.files N b = st.files.set N (f.1 ++ b, f.2) := by
  obtain ⟨f, hf⟩ : ∃ f, st.files[N]? = some f := ⟨_, List.getElem?_eq_getElem h.new.2⟩
  exact ⟨f, hf, by unfold Fs.grow; rw [hf]⟩
/-- The new manifest has its name, perhaps not surely. -/
structure Named (s0 st : St) (new : List UInt8) (N : Nat) : Prop where
  files : ∃ ex, st.files = s0.files ++ ex
  file : st.files[N]? = some (new, new.length)
  sure : st.sure = s0.dir
  chg : ∃ ch, st.changes = ch ++ [[(draft, -1), (final, (N : Int))]] ∧ ∀ l ∈ ch, ∀ p ∈ l, p.1 = draft
  dir : mhas st.dir final = true ∧ mget st.dir final = (N : Int)
  two : ∀ p ∈ st.dir, p.1 = final ∨ p.1 = draft
theorem Sw.fail {st : St} {cur : Option (List UInt8)} {new : List UInt8} {A : Prop} (h : Sw st cur new False) (hA : ¬ A) : Sw st cur new A := fun j => by
  obtain ⟨a, b, c⟩ := h j
  exact ⟨a, fun hh => ⟨(b hh).1, hA⟩, fun hh => by obtain ⟨b, k1, k2⟩ := c hh; exact ⟨b, k1, k2.imp (fun q => ⟨q.1, hA⟩) id⟩⟩
theorem Round.new {room : Int} (h : 0 ≤ room ∧ room ≤ 1048576) : Round (Fs.new room) none :=
  ⟨Sound.new h 2, rfl, rfl, fun f hf => by (cases hf), fun p hp => by (cases hp), fun _ => rfl, fun x => (by cases x)⟩
theorem Round.load {st : St} {cur : Option (List UInt8)} (h : Round st cur) : (cur = none → load st = ((0, []), 3)) ∧ (∀ v l, good v l = true → cur = some (enc v l) → load st = ((v, l), 0)) := by
  constructor
  · intro hc
    have h1 : mhas st.dir final = false := by
      cases hx : mhas st.dir final
      · rfl
      · obtain ⟨b, _, e⟩ := h.cur.2 hx; rw [hc] at e; cases e
    exact load_none (by unfold Fs.look; rw [h1]; rfl)
  · intro v l hg hc
    have h1 : mhas st.dir final = true := by
      cases hx : mhas st.dir final
      · have := h.cur.1 hx; rw [hc] at this; cases this
      · rfl
    obtain ⟨b, e1, e2⟩ := h.cur.2 h1
    refine load_look hg ?_
    have hb : b = enc v l := by rw [hc] at e2; exact (Option.some.inj e2).symm
    unfold Fs.look
    rw [if_pos h1]
    unfold fileAt Fs.idx
    rw [e1, hb]
end Mf
end Go.Proofs.YtcinagglbkbmkaaGreatDoor
namespace Go.Proofs.YtcinagglbkbmkaaGreatDoor
set_option linter.unusedSimpArgs false
set_option linter.unusedVariables false
open Go Go.RowKit
open Go.Maps Go.WideMaps

/-- A slice of numbers, wherever it lies. -/
abbrev Nums (w : World) (v : Value) (l : List Int) : Prop := Ints w v l
theorem Mf.good_bad {v : Int} {l : List Int} (h : v < 1 ∨ 2147483647 < v ∨ l.length < 1 ∨ 32 < l.length) : Mf.good v l = false := by
  cases hg : Mf.good v l
  · rfl
  · have := Mf.good_out hg; omega
theorem Mf.good_incr {v : Int} {l : List Int} (h1 : 1 ≤ v) (h2 : v ≤ 2147483647) (h3 : 1 ≤ l.length) (h4 : l.length ≤ 32) : Mf.good v l = Mf.incr 0 l := by
  unfold Mf.good
  rw [decide_eq_true h1, decide_eq_true h2, decide_eq_true h3, decide_eq_true h4]
  rfl
theorem Mf.incr_drop {l : List Int} {j : Nat} {x : Int} (h : l[j]? = some x) (last : Int) : Mf.incr last (l.drop j) = (decide (last < x) && (decide (x ≤ 2147483647) && Mf.incr x (l.drop (j + 1)))) := by
  obtain ⟨h1, h2⟩ := List.getElem?_eq_some_iff.1 h
  rw [List.drop_eq_getElem_cons h1, h2, Mf.incr]
def Mf.chk (v : Int) (l : List Int) : Int := if Mf.good v l then 0 else 1
set_option maxHeartbeats 1000000 in
set_option maxRecDepth 100000 in
theorem check_any (ver : Int) (sv : Value) (l : List Int) (w : World) (hS : Nums w sv l) (hl : l.length ≤ 1000000000) :
    Calls Tryz.prog 17 #[.agg #[.int .i64 ver, sv]] w fun e w' => e = .returned (.int .i64 (Mf.chk ver l)) ∧ Below w.heap.size w w' := by
  obtain ⟨sa, sc, rfl⟩ := hS.form
  have hb : Below w.heap.size w (w.alloc (.cells #[.int .i64 ver, .slice sa l.length sc] 24)) := (Below.refl _ _).alloc (Nat.le_refl _) _
  have HS := Lib.hid (hS.below hb)
  have hr := heap_new w (.cells #[.int .i64 ver, .slice sa l.length sc] 24)
  have y0 := root_cell hr 0 _ rfl
  have y1 := root_cell hr 1 _ rfl
  have HB := Lib.hid hb
  have hl0 : (0 : Int) ≤ (l.length : Int) := Int.natCast_nonneg _
  clear hS hr hb
  go_enter Tryz.func17, Tryz.ntmps17
  by_cases h1 : ver < 1
  · skip
    have HE : Hid (Mf.chk ver l = 1) := by unfold Mf.chk; rw [Mf.good_bad (by omega)]; exact Lib.hid rfl
    go_wp2_with fail
    go_ret
    exact ⟨congrArg (fun x => Ending.returned (.int .i64 x)) HE.out.symm, (Below.refl _ _).alloc (Nat.le_refl _) _⟩
  have h1' : 1 ≤ ver := by omega
  by_cases h2 : 2147483647 < ver
  · skip
    have HE : Hid (Mf.chk ver l = 1) := by unfold Mf.chk; rw [Mf.good_bad (by omega)]; exact Lib.hid rfl
    go_wp2_with fail
    go_ret
    exact ⟨congrArg (fun x => Ending.returned (.int .i64 x)) HE.out.symm, (Below.refl _ _).alloc (Nat.le_refl _) _⟩
  have h2' : ver ≤ 2147483647 := by omega
  by_cases h3 : l.length < 1
  · have h3i : (l.length : Int) < 1 := by omega
    have HE : Hid (Mf.chk ver l = 1) := by unfold Mf.chk; rw [Mf.good_bad (by omega)]; exact Lib.hid rfl
    go_wp2_with fail
    go_ret
    exact ⟨congrArg (fun x => Ending.returned (.int .i64 x)) HE.out.symm, (Below.refl _ _).alloc (Nat.le_refl _) _⟩
  have h3' : (1 : Int) ≤ (l.length : Int) := by omega
  by_cases h4 : 32 < l.length
  · have h4i : (32 : Int) < (l.length : Int) := by omega
    have HE : Hid (Mf.chk ver l = 1) := by unfold Mf.chk; rw [Mf.good_bad (by omega)]; exact Lib.hid rfl
    go_wp2_with fail
    go_ret
    exact ⟨congrArg (fun x => Ending.returned (.int .i64 x)) HE.out.symm, (Below.refl _ _).alloc (Nat.le_refl _) _⟩
  have h4' : (l.length : Int) ≤ 32 := by omega
  have HG : Hid (Mf.good ver l = Mf.incr 0 l) := Lib.hid (Mf.good_incr h1' h2' (by omega) (by omega))
  clear h1 h2 h3 h4
  go_wp2_with fail
  go_loopg [3, 29] l.length (fun k s3 s29 wr => ∃ (j : Nat) (last : Int), j ≤ l.length ∧ k = l.length - j ∧ s29 = .int .i64 (j : Nat) ∧ s3 = .int .i64 last ∧ Mf.incr last (l.drop j) = Mf.incr 0 l ∧ wr = w.alloc (.cells #[.int .i64 ver, .slice sa l.length sc] 24))
  case atStart => exact ⟨0, 0, Nat.zero_le _, rfl, rfl, rfl, rfl, rfl⟩
  case round =>
    obtain ⟨j, last, hj, hk, rfl, rfl, hin, rfl⟩ := hrel
    have HK := Lib.hid hk
    have HIN := Lib.hid hin
    clear hk hin
    have hj0 : (0 : Int) ≤ (j : Int) := Int.natCast_nonneg _
    by_cases hjn : j < l.length
    · have hjn1 : (j : Int) < (l.length : Int) := by omega
      obtain ⟨x, hx⟩ : ∃ x, l[j]? = some x := ⟨_, List.getElem?_eq_getElem hjn⟩
      obtain ⟨g, o, rfl, hg, hc⟩ := HS.out.at hx
      have HD := Lib.hid (Mf.incr_drop hx last)
      clear hx
      by_cases hb : x ≤ last ∨ 2147483647 < x
      · have HE : Hid (Mf.chk ver l = 1) := by
          unfold Mf.chk
          rw [HG.out, ← HIN.out, HD.out]
          rcases hb with hb | hb
          · rw [decide_eq_false (by omega)]; exact Lib.hid rfl
          · rw [decide_eq_false (p := x ≤ 2147483647) (by omega), Bool.false_and, Bool.and_false]; exact Lib.hid rfl
        rcases hb with hb | hb
        · go_wp2_with fail
          go_ret
          exact ⟨congrArg (fun x => Ending.returned (.int .i64 x)) HE.out.symm, HB.out⟩
        · by_cases hb2 : x ≤ last
          · go_wp2_with fail
            go_ret
            exact ⟨congrArg (fun x => Ending.returned (.int .i64 x)) HE.out.symm, HB.out⟩
          · have hb3 : last < x := by omega
            go_wp2_with fail
            go_ret
            exact ⟨congrArg (fun x => Ending.returned (.int .i64 x)) HE.out.symm, HB.out⟩
      · have hb1 : last < x := by omega
        have hb2 : x ≤ 2147483647 := by omega
        clear hb
        go_wp2_with fail
        go_roundg (l.length - (j + 1))
        case measure => rw [HK.out]; omega
        case rel => exact ⟨j + 1, x, by omega, rfl, by simp, rfl, by rw [← HIN.out, HD.out, decide_eq_true hb1, decide_eq_true hb2]; rfl, rfl⟩
    · have hjn1 : (l.length : Int) ≤ (j : Int) := by omega
      have HE : Hid (Mf.chk ver l = 0) := by
        unfold Mf.chk
        rw [HG.out, ← HIN.out, List.drop_of_length_le (by omega)]
        exact Lib.hid rfl
      go_wp2_with fail
      go_ret
      exact ⟨congrArg (fun x => Ending.returned (.int .i64 x)) HE.out.symm, HB.out⟩
end Go.Proofs.YtcinagglbkbmkaaGreatDoor
namespace Go.Proofs.YtcinagglbkbmkaaGreatDoor
set_option linter.unusedSimpArgs false
set_option linter.unusedVariables false
open Go Go.RowKit
open Go.Maps Go.WideMaps

theorem Byts.keep1 {w w' : World} {a : Option Addr} {n c : Nat} {l : List UInt8} (h : Byts w (.slice a n c) l) (hs : w.heap.size ≤ w'.heap.size) (hk : ∀ b, a = some b → b.block < w.heap.size → w'.heap[b.block]? = w.heap[b.block]?) : Byts w' (.slice a n c) l := by
  obtain ⟨a', cap, h1, h2, hn, h3⟩ := h
  simp only [Value.slice.injEq] at h1
  obtain ⟨rfl, h1b, rfl⟩ := h1
  refine ⟨a, c, by rw [h1b], h2, hn, fun i x hi => ?_⟩
  obtain ⟨b, off, e, h4, h5⟩ := h3 i x hi
  have hb : w'.heap[b]? = w.heap[b]? := hk ⟨b, off, none⟩ e h4
  exact ⟨b, off, e, Nat.lt_of_lt_of_le h4 hs, by rw [World.cell?_of_block hb]; exact h5⟩
/-- Parts in memory of the call's own. -/
structure PO (w : World) (base : Nat) (v : Value) (ps : List (List UInt8 × Value)) : Prop where
  row : w.ownsRow base 25 1 v ps.length (ps.map (·.2))
  pay : ∀ p ∈ ps, Byts w p.2 p.1 ∧ ∃ g n c, p.2 = .slice (some ⟨g, 0, none⟩) n c ∧ g < w.heap.size ∧ v.ownBlock ≠ some g
theorem PO.nil (w : World) (base : Nat) : PO w base (.slice none 0 0) [] := ⟨World.ownsRow_nil _ _ _ _, fun p h => by simp at h⟩
theorem PO.keep {w w' : World} {base : Nat} {v : Value} {ps : List (List UInt8 × Value)} (h : PO w base v ps) (hb : Below w.heap.size w w') : PO w' base v ps :=
  ⟨row_kept h.row (fun g hg => hb.block g (h.row.lt g hg).2), fun p hp => by
    obtain ⟨h1, g, n, c, h2, h3, h4⟩ := h.pay p hp
    exact ⟨h1.below hb, g, n, c, h2, Nat.lt_of_lt_of_le h3 hb.size, h4⟩⟩
theorem PO.more {w w5 : World} {base : Nat} {v v' : Value} {ps : List (List UInt8 × Value)} {l : List UInt8} {g n c : Nat} (h : PO w base v ps) (hx : Byts w (.slice (some ⟨g, 0, none⟩) n c) l) (hg : g < w.heap.size) (hne : v.ownBlock ≠ some g)
    (hrow : w5.ownsRow base 25 1 v' (ps.length + 1) (ps.map (·.2) ++ [.slice (some ⟨g, 0, none⟩) n c])) (hgr : w.grownBy w5 v.ownBlock) (hloc : v'.ownBlock = v.ownBlock ∨ v'.ownBlock = some w.heap.size) :
    PO w5 base v' (ps ++ [(l, .slice (some ⟨g, 0, none⟩) n c)]) := by
  have hk : ∀ (y : Value) (l : List UInt8), Byts w y l → (∃ g n c, y = .slice (some ⟨g, 0, none⟩) n c ∧ g < w.heap.size ∧ v.ownBlock ≠ some g) → Byts w5 y l ∧ ∃ g n c, y = .slice (some ⟨g, 0, none⟩) n c ∧ g < w5.heap.size ∧ v'.ownBlock ≠ some g := by
    rintro y l hy ⟨g, n, c, rfl, h3, h4⟩
    refine ⟨hy.keep1 hgr.size (fun b e hb => ?_), g, n, c, rfl, Nat.lt_of_lt_of_le h3 hgr.size, ?_⟩
    · simp at e; subst e
      exact hgr.block g h3 (fun e => h4 e.symm)
    · rcases hloc with e | e
      · rw [e]; exact h4
      · rw [e]; intro e2; simp at e2; omega
  refine ⟨?_, fun p hp => ?_⟩
  · rw [List.length_append, List.map_append]
    exact hrow
  · rcases List.mem_append.1 hp with hp | hp
    · exact hk p.2 p.1 (h.pay p hp).1 (h.pay p hp).2
    · simp at hp; subst hp; exact hk _ l hx ⟨g, n, c, rfl, hg, hne⟩
theorem PO.prts {w : World} {base : Nat} {v : Value} {ps : List (List UInt8 × Value)} (h : PO w base v ps) : Prts w v (ps.map (·.1)) := by
  rcases h.row.2 with ⟨h1, h2⟩ | ⟨g, cap, cur, h1, h2, h3, h4, h5⟩
  · exact ⟨none, 0, by rw [h1, List.length_map, h2], by rw [List.length_map]; omega, fun i x hx => by
      have := (List.getElem?_eq_some_iff.1 hx).1
      rw [List.length_map] at this
      omega⟩
  · refine ⟨some ⟨g, 0, none⟩, cap, by rw [h1, List.length_map], by rw [List.length_map]; exact h4, fun i x hx => ?_⟩
    rw [List.getElem?_map] at hx
    cases hp : ps[i]? with
    | none => rw [hp] at hx; cases hx
    | some p =>
      rw [hp] at hx
      simp at hx; subst hx
      have hc := World.ownsRow.cells h.row (g := g) (by rw [h1]; rfl) i p.2 (by rw [List.getElem?_map, hp]; rfl)
      rw [addr_add] at hc
      exact ⟨g, 0, p.2, rfl, heap_lt h3, by rw [Nat.zero_add]; exact hc, (h.pay p (List.mem_of_getElem? hp)).1⟩
/-- Numbers of the call's own. -/
def i64Cells (l : List Int) : List Value := l.map fun x => .int .i64 x
def OwnI (w : World) (base : Nat) (v : Value) (l : List Int) : Prop := w.ownsRow base 3 1 v l.length (i64Cells l)
theorem infoI : (Tryz.prog.info? 3).map (fun i => (i.zero, i.size, i.bytes)) = some (some (.int .i64 0), 1, 8) := by kernel_rfl
theorem i64Cells_one (l : List Int) : ∀ u ∈ i64Cells l, u.oneCell' = true := fun u hu => by
  obtain ⟨x, _, rfl⟩ := List.mem_map.1 hu
  rfl
theorem OwnI.nums {w : World} {base : Nat} {v : Value} {l : List Int} (h : OwnI w base v l) : Nums w v l := by
  have hcs := fun g hg => World.ownsRow.cells (g := g) h hg
  rcases h.2 with ⟨h1, h2⟩ | ⟨g, cap, cur, h1, hg, hb, hc, hm, _, _⟩
  · exact ⟨none, 0, by rw [h1, h2], fun i x hx => by
      have := (List.getElem?_eq_some_iff.1 hx).1
      omega⟩
  · refine ⟨some ⟨g, 0, none⟩, cap, h1, fun i x hx => ⟨g, 0, rfl, heap_lt hb, ?_⟩⟩
    have := hcs g (by rw [h1]; rfl) i (.int .i64 x) (by simp [i64Cells, hx])
    rw [addr_add] at this
    rw [Nat.zero_add]
    exact this
theorem OwnI.keep {w w' : World} {base : Nat} {v : Value} {l : List Int} (h : OwnI w base v l) (hb : Below w.heap.size w w') : OwnI w' base v l :=
  row_kept h (fun g hg => hb.block g (h.lt g hg).2)
theorem OwnI.one (w : World) (x : Int) (base : Nat) (hb : base ≤ w.heap.size) : OwnI (w.alloc (.cells #[.int .i64 x] 3)) base (.slice (some ⟨w.heap.size, 0, none⟩) 1 1) [x] :=
  World.ownsRow_lit (base := base) (e := 3) (size := 1) w #[.int .i64 x] 1 hb (by unfold maxLen; omega) rfl
/-- Appending numbers, wherever they lie, onto numbers of one's own. -/
theorem wpList_append_nums {ops : Array Oper} {rest : List Oper} {o : Oper} {a : Act} {w : World} {Q : Exit → Act → World → Prop} (hgd : o.guard = none) (s x : Operand)
    (ho : o.op = .call { callee := .builtin .append, args := #[s, x], argTypes := #[22, 22] })
    (base : Nat) (v : Value) (l : List Int) (hs : a.eval s = v) (hown : OwnI w base v l) (xv : Value) (news : List Int) (hx : a.eval x = xv) (hB : Nums w xv news)
    (hne : 0 < news.length) (h63 : l.length + news.length ≤ 2000000000) (hbase : base ≤ w.heap.size)
    (h : ∀ v' w', OwnI w' base v' (l ++ news) → w.grownBy w' v.ownBlock → (v'.ownBlock = v.ownBlock ∨ v'.ownBlock = some w.heap.size) → wpList Tryz.prog ops Q rest (a.put o.dst v') w') :
    wpList Tryz.prog ops Q (o :: rest) a w := by
  obtain ⟨i0, hi, hz0, hz1, hz2⟩ := info_parts infoI
  obtain ⟨xa, xc, rfl⟩ := hB.form
  have hcells : i64Cells (l ++ news) = i64Cells l ++ i64Cells news := by simp [i64Cells]
  cases xa with
  | none =>
    obtain ⟨y, hy⟩ : ∃ y, news[0]? = some y := ⟨_, List.getElem?_eq_getElem hne⟩
    obtain ⟨_, _, e, _⟩ := hB.at hy
    cases e
  | some ad =>
    refine wpList_append_own_at w hgd s x _ ho base 3 i0 (.int .i64 0) 1 8 Tryz.underlying22 hi hz0 hz1 hz2 rfl (by decide) v l.length (i64Cells l) hs hown ad news.length xc (i64Cells news) hx (by simp [i64Cells]) ?_ (i64Cells_one news) (by unfold maxLen; omega) (by omega) hbase ?_
    · intro j u hj
      unfold i64Cells at hj
      rw [List.getElem?_map] at hj
      cases hx2 : news[j]? with
      | none => rw [hx2] at hj; cases hj
      | some y =>
        rw [hx2] at hj
        simp at hj
        obtain ⟨b, off, e1, e2, e3⟩ := hB.at hx2
        cases e1
        rw [addrAdd, ← hj]
        exact e3
    · intro v' w' h1 h2 _ h4
      exact h v' w' (by unfold OwnI; rw [List.length_append, hcells]; exact h1) h2 h4
theorem OwnI.form3 {w : World} {base : Nat} {v : Value} {l : List Int} (h : OwnI w base v l) : ∃ a n c, v = .slice a n c ∧ Hid (n = l.length) := by
  obtain ⟨a, c, e⟩ := row_any h
  exact ⟨a, _, c, e, Lib.hid rfl⟩
theorem infoBB : (Tryz.prog.info? 25).map (fun i => (i.zero, i.size, i.bytes)) = some (some (.slice none 0 0), 1, 24) := by kernel_rfl
/-- The bytes of a text that was turned to bytes. -/
theorem byts_of_str (w : World) (s : ByteArray) (cap : Nat) (hc : s.size ≤ cap) (fz : Nat × Nat) : Byts (w.drew.alloc (.cells (bytesRow s cap) 5 fz)) (.slice (some ⟨w.heap.size, 0, none⟩) s.size cap) s.data.toList := by
  have hl : s.data.toList.length = s.size := by simp
  refine ⟨some ⟨w.heap.size, 0, none⟩, cap, by rw [hl], by rw [hl]; exact hc, (fun e => by cases e), fun i x hi => ⟨w.heap.size, 0, rfl, ?_, ?_⟩⟩
  · show w.heap.size < (w.drew.alloc _).heap.size
    simp
  · have hn : (w.drew.alloc (.cells (bytesRow s cap) 5 fz)).heap[w.heap.size]? = some (.cells (bytesRow s cap) 5 fz) := heap_new w.drew _
    rw [Nat.zero_add, cell_of_row _ _ _ _ _ _ hn]
    have hi2 := (List.getElem?_eq_some_iff.1 hi).1
    unfold bytesRow
    rw [Array.getElem?_append_left (by simpa using hi2)]
    rw [Array.getElem?_map]
    have : s.data[i]? = some x := by rw [← Array.getElem?_toList]; exact hi
    rw [this]; rfl
theorem cell_one_dr (w : World) (o : Obj) (t : TypeId) (v : Value) : ∀ j u, [v][j]? = some u → (((w.alloc o).alloc (.cells #[v] t)).drew).cell? ((⟨w.heap.size + 1, 0, none⟩ : Addr).add j) = some u := by
  intro j u hj
  have e : (w.alloc o).heap.size = w.heap.size + 1 := by simp
  rw [addr_add, ← e]
  exact cell_new (w.alloc o) #[v] t j u (by simpa using hj)
theorem below_dr (w : World) (o p : Obj) : Below w.heap.size w ((w.alloc o).alloc p).drew := Below.drew (((Below.refl _ _).alloc (Nat.le_refl _) _).alloc (by simp) _)
theorem byts_dr {w : World} {o : Obj} {v : Value} {l : List UInt8} (h : Byts (w.drew.alloc o) v l) (p : Obj) : Byts (((w.alloc o).alloc p).drew) v l :=
  h.keep (by simp) (fun k hk => by
    show ((w.alloc o).alloc p).heap[k]? = (w.alloc o).heap[k]?
    exact Lib.alloc_old _ _ _ hk)
theorem po_ne {w : World} {base : Nat} {v : Value} {ps : List (List UInt8 × Value)} (h : PO w base v ps) : v.ownBlock ≠ some w.heap.size := fun e => by
  have := (h.row.lt _ e).2
  omega
/-- What 'Encode' leaves. -/
def MEncPost (v : Int) (l : List Int) (w : World) (e : Ending) (w' : World) : Prop :=
  Below w.heap.size w w' ∧ ((Mf.good v l = true ∧ ∃ b, e = .returned (.tuple #[b, .int .i64 0]) ∧ OwnB w' w.heap.size b (Mf.enc v l)) ∨
    (Mf.good v l = false ∧ e = .returned (.tuple #[.slice none 0 0, .int .i64 1])))
theorem Mf.pay_take {ns : List Int} {j : Nat} {x : Int} (h : ns[j]? = some x) : Mf.pay (ns.take (j + 1)) = Mf.pay (ns.take j) ++ (Lib.itoa x ++ [10]) := by
  unfold Mf.pay
  rw [List.take_add_one, h, List.flatMap_append]
  simp
set_option maxHeartbeats 1000000 in
set_option maxRecDepth 100000 in
theorem mencode_any (ver : Int) (sv : Value) (l : List Int) (w : World) (B : Nat) (hE : SgEnv B w) (hBw : B ≤ w.heap.size) (hS : Nums w sv l) (hl : l.length ≤ 1000000000) :
    Calls Tryz.prog 14 #[.agg #[.int .i64 ver, sv]] w (MEncPost ver l w) := by
  obtain ⟨sa, sc, rfl⟩ := hS.form
  have hb : Below w.heap.size w (w.alloc (.cells #[.int .i64 ver, .slice sa l.length sc] 24)) := (Below.refl _ _).alloc (Nat.le_refl _) _
  have hr := heap_new w (.cells #[.int .i64 ver, .slice sa l.length sc] 24)
  have y0 := root_cell hr 0 _ rfl
  have y1 := root_cell hr 1 _ rfl
  have HS := Lib.hid hS
  have HE := Lib.hid hE
  have HBw : B ≤ w.heap.size := hBw
  have HB := Lib.hid hb
  have HR := Lib.hid hr
  clear hS hr hb hE
  go_enter Tryz.func14, Tryz.ntmps14
  go_wp2_with fail
  refine (check_any ver _ l _ (HS.out.below HB.out) hl).mono ?_
  rintro e w1 ⟨rfl, hb1⟩
  have HB1 := Lib.hid (HB.out.trans (hb1.mono HB.out.size))
  have hr1 : w1.heap[w.heap.size]? = some (.cells #[.int .i64 ver, .slice sa l.length sc] 24 (0, 0)) := by rw [hb1.block _ (heap_lt HR.out)]; exact HR.out
  have z0 : w1.cell? ⟨w.heap.size, 0, none⟩ = some (.int .i64 ver) := root_cell hr1 0 _ rfl
  have hrO : (w1.alloc (.cells #[.int .i64 ver] 3)).heap[w.heap.size]? = some (.cells #[.int .i64 ver, .slice sa l.length sc] 24 (0, 0)) := by rw [Lib.alloc_old _ _ _ (heap_lt hr1)]; exact hr1
  have z1 : (w1.alloc (.cells #[.int .i64 ver] 3)).cell? ⟨w.heap.size, 1, none⟩ = some (.slice sa l.length sc) := root_cell hrO 1 _ rfl
  have hsz1 := hb1.size
  clear hb1 hr1 hrO y0 y1
  cases hg : Mf.good ver l
  · have hc : Mf.chk ver l = 1 := by unfold Mf.chk; rw [hg]; rfl
    rw [hc]
    have HG := Lib.hid hg
    clear hg hc
    go_wp2_with fail
    refine bodyPost_ret (v := .tuple #[.slice none 0 0, .int .i64 1]) (by simp [results, Tryz.results14, go_sem]) rfl ?_
    exact ⟨HB1.out, .inr ⟨HG.out, rfl⟩⟩
  · have hc : Mf.chk ver l = 0 := by unfold Mf.chk; rw [hg]; rfl
    rw [hc]
    have HG := Lib.hid hg
    have hlen := (Mf.good_out hg).2.1
    clear hg hc
    have hbO := (HB1.out).alloc HB1.out.size (.cells #[.int .i64 ver] 3)
    have HBO := Lib.hid hbO
    have HOI := Lib.hid (OwnI.one w1 ver w.heap.size HB1.out.size)
    have HN1 := Lib.hid (HS.out.below hbO)
    clear hbO
    go_wp2_with (first | (at_builtin; refine wpList_append_nums rfl _ _ rfl w.heap.size (.slice (some ⟨w1.heap.size, 0, none⟩) 1 1) _ rfl HOI.out _ l rfl HN1.out hlen.1 (by simp; omega) HBO.out.size ?_; intro d' w2 hown hgrow hloc; obtain ⟨da, dn, dc, hd', HDN⟩ := OwnI.form3 hown; subst hd'; have HOWN := Lib.hid hown; have HGR := Lib.hid hgrow; clear hown hgrow hloc) | fail)
    have HB2 := Lib.hid (below_grown HBO.out HBO.out.size HOI.out HGR.out)
    have HNS := Lib.hid HOWN.out.nums
    have hns : Hid (([ver] ++ l : List Int).length = dn) := Lib.hid HDN.out.symm
    have hdn : dn ≤ 33 := by rw [HDN.out]; simp; omega
    have HAL := Lib.hid (Mf.good_all HG.out)
    have hE2 := Lib.hid (HE.out.below (HB2.out.mono HBw))
    clear z0 z1
    go_loopg [5, 20] dn (fun k s5 s20 wr => ∃ (j : Nat) (ps : List (List UInt8 × Value)), j ≤ dn ∧ k = dn - j ∧ s20 = .int .i64 (j : Nat) ∧ PO wr w2.heap.size s5 ps ∧ (ps.map (·.1)).flatten = Mf.pay (([ver] ++ l).take j) ∧ ps.length = j ∧ (∀ p ∈ ps, p.1.length ≤ 100) ∧ Below w2.heap.size w2 wr)
    case atStart => exact ⟨0, [], Nat.zero_le _, rfl, rfl, PO.nil _ _, rfl, rfl, fun p hp => by (cases hp), Below.refl _ _⟩
    case round =>
      obtain ⟨j, ps, hj, hk, rfl, hPO, hfl, hpl, hsm, hBr⟩ := hrel
      have HK := Lib.hid hk
      have HPO := Lib.hid hPO
      have HFL := Lib.hid hfl
      have HPL := Lib.hid hpl
      have HSM := Lib.hid hsm
      have HBR := Lib.hid hBr
      clear hk hPO hfl hpl hsm hBr
      have hj0 : (0 : Int) ≤ (j : Int) := Int.natCast_nonneg _
      by_cases hjn : j < dn
      · have hjn1 : (j : Int) < (dn : Int) := by omega
        obtain ⟨x, hx⟩ : ∃ x, ([ver] ++ l : List Int)[j]? = some x := ⟨_, List.getElem?_eq_getElem (by rw [hns.out]; exact hjn)⟩
        have hxr := HAL.out x (List.mem_of_getElem? hx)
        have HPT := Lib.hid (Mf.pay_take hx)
        obtain ⟨g, o, rfl, hg, hc⟩ := (HNS.out.below HBR.out).at hx
        clear hx
        go_wp2_with fail
        refine (Tryz.strconv_Itoa x (by omega) (by omega) wr (hE2.out.below (HBR.out.mono (by have := HB2.out.size; omega))).tab).mono ?_
        rintro e w3 ⟨rfl, kk, oss, hw3⟩
        have hb3 : Below wr.heap.size wr w3 := by rw [hw3]; exact Lib.below_grow wr.heap.size wr (Nat.le_refl _) kk oss
        have HB3 := Lib.hid hb3
        clear hw3 hb3
        obtain ⟨s, hs⟩ : ∃ s : ByteArray, s = ⟨(Lib.itoa x).toArray⟩ := ⟨_, rfl⟩
        have hlen2 := Lib.itoa_length_le x (by omega) (by omega)
        have hsz : (s.size : Int) ≤ 21 := by
          rw [hs]
          show ((Lib.itoa x).toArray.size : Int) ≤ 21
          simp
          omega
        rw [← hs]
        have HSS := Lib.hid hs
        clear hs hlen2
        have hcv := run_bytes_of_string (P := Tryz.prog) w3 9 25 5 (s ++ ⟨#[10]⟩) Tryz.underlying9 Tryz.underlying25 Tryz.underlying5
        have hTs : (s ++ ⟨#[10]⟩ : ByteArray).size = s.size + 1 := by rw [ByteArray.size_append]; rfl
        have HBY : Hid (∀ (fz : Nat × Nat), Byts (w3.drew.alloc (.cells (bytesRow (s ++ ⟨#[10]⟩) (grownCap w3 (s.size + 1) 0 5)) 5 fz)) (.slice (some ⟨w3.heap.size, 0, none⟩) (s.size + 1) (grownCap w3 (s.size + 1) 0 5)) (Lib.itoa x ++ [10])) := by
          refine Lib.hid fun fz => ?_
          have h1 := byts_of_str w3 (s ++ ⟨#[10]⟩) (grownCap w3 (s.size + 1) 0 5) (by rw [hTs]; exact grownCap_ge _ _ _ _) fz
          rw [hTs] at h1
          have h2 : (s ++ ⟨#[10]⟩ : ByteArray).data.toList = Lib.itoa x ++ [10] := by rw [HSS.out]; simp
          rw [h2] at h1
          exact h1
        have HLT : Hid ((Lib.itoa x ++ [10]).length ≤ 100) := by
          refine Lib.hid ?_
          have := Lib.itoa_length_le x (by omega) (by omega)
          simp; omega
        clear hTs
        have HP3 := Lib.hid (HPO.out.keep HB3.out)
        have hsz3 : w2.heap.size ≤ w3.heap.size := Nat.le_trans HBR.out.size HB3.out.size
        have HBR3 := Lib.hid (HBR.out.trans (HB3.out.mono HBR.out.size))
        obtain ⟨i0, hi, hz0, hz1, hz2⟩ := info_parts infoBB
        have hj33 : j ≤ 33 := by omega
        go_wp2_with (first | (at_builtin; refine wpList_append_own_at _ rfl _ _ 128 rfl w2.heap.size 25 i0 (.slice none 0 0) 1 24 Tryz.underlying128 hi hz0 hz1 hz2 rfl (by decide) u5 ps.length (ps.map (·.2)) rfl ((HP3.out.keep (below_dr _ _ _)).row) ⟨w3.heap.size + 1, 0, none⟩ 1 1 [.slice (some ⟨w3.heap.size, 0, none⟩) (s.size + 1) (grownCap w3 (s.size + 1) 0 5)] rfl rfl (cell_one_dr _ _ _ _) (fun u hu => by simp at hu; subst hu; rfl) (by rw [HPL.out]; unfold maxLen; omega) (by rw [HPL.out]; omega) (by simp; omega) ?_; intro v' w5 hrow hgrow hnil hloc; clear hnil; have HNEW := Lib.hid (PO.more (HP3.out.keep (below_dr _ _ _)) (byts_dr (HBY.out _) _) (by simp; omega) (po_ne HP3.out) hrow hgrow hloc); have HB5 := Lib.hid (below_grown (HBR3.out.trans ((below_dr _ _ _).mono hsz3)) (by simp; omega) (HP3.out.keep (below_dr _ _ _)).row hgrow); clear hrow hgrow hloc) | fail)
        go_roundg (dn - (j + 1))
        case measure => rw [HK.out]; omega
        case rel => exact ⟨j + 1, _, by omega, rfl, by simp, HNEW.out, by rw [List.map_append, List.flatten_append, HFL.out, HPT.out]; simp, by rw [List.length_append, HPL.out]; rfl, fun p hp => by
          rcases List.mem_append.1 hp with hp | hp
          · exact HSM.out p hp
          · simp only [List.mem_singleton] at hp; subst hp; exact HLT.out, HB5.out⟩
      · have hjn1 : (dn : Int) ≤ (j : Int) := by omega
        have HALL : Hid ((ps.map (·.1)).flatten = Mf.pay (ver :: l)) := by
          rw [HFL.out, List.take_of_length_le (by rw [hns.out]; omega)]
          exact Lib.hid rfl
        have HEN := Lib.hid (Mf.enc_ok HG.out)
        have HPR := Lib.hid HPO.out.prts
        obtain ⟨pa, pc, hpv⟩ := HPR.out.form
        rw [List.length_map] at hpv
        subst hpv
        go_wp2_with fail
        refine (encode_any 9 _ (ps.map (·.1)) wr HPR.out (by rw [List.length_map, HPL.out]; omega) (fun q hq => by
          obtain ⟨p, hp, rfl⟩ := List.mem_map.1 hq
          have := HSM.out p hp
          omega)).mono ?_
        rintro e w6 ⟨hb6, hres⟩
        have HB6 := Lib.hid (HB2.out.trans ((HBR.out.trans (hb6.mono HBR.out.size)).mono HB2.out.size))
        rw [HALL.out, HEN.out] at hres
        have hsz6 : w.heap.size ≤ wr.heap.size := Nat.le_trans HB2.out.size HBR.out.size
        rcases hres with ⟨_, b, rfl, hob⟩ | ⟨hx, _⟩
        · have HOB := Lib.hid hob
          clear hob hb6
          go_wp2_with fail
          refine bodyPost_ret (v := .tuple #[b, .int .i64 0]) (by simp [results, Tryz.results14, go_sem]) rfl ?_
          exact ⟨HB6.out, .inl ⟨HG.out, b, rfl, HOB.out.mono hsz6⟩⟩
        · exact absurd rfl hx
end Go.Proofs.YtcinagglbkbmkaaGreatDoor
