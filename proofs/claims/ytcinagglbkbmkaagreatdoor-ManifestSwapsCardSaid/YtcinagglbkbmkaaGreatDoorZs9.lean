/-
  Manifests: what is good, its bytes, and that both ways of reading them are one (plain). Saving and loading a manifest (plain); in calm weather. A crash: what is left (plain). What any operation of the file system keeps, in any weather (plain). Saving a manifest, in any weather, and a crash behind it (plain).
-/
import Derived.Test.YtcinagglbkbmkaaGreatDoorZs8
import Derived.Lib.Join
namespace Go.Proofs.YtcinagglbkbmkaaGreatDoor
set_option linter.unusedSimpArgs false
set_option linter.unusedVariables false
open Go Go.RowKit
namespace Mf
-- A manifest: what is good, its bytes.
def incr : Int → List Int → Bool
  | _, [] => true
  | last, n :: r => decide (last < n) && (decide (n ≤ 2147483647) && incr n r)
def good (v : Int) (l : List Int) : Bool := (decide (1 ≤ v) && decide (v ≤ 2147483647)) && ((decide (1 ≤ l.length) && decide (l.length ≤ 32)) && incr 0 l)
def pay (ns : List Int) : List UInt8 := ns.flatMap fun n => Lib.itoa n ++ [10]
def enc (v : Int) (l : List Int) : List UInt8 := Fr.bytes 9 (pay (v :: l))
theorem incr_pos : ∀ {l : List Int} {last : Int}, 0 ≤ last → incr last l = true → ∀ n ∈ l, 1 ≤ n ∧ n ≤ 2147483647
  | [], _, _, _, n, hn => by cases hn
  | x :: r, last, h0, h, n, hn => by
    rw [incr] at h
    simp only [Bool.and_eq_true, decide_eq_true_eq] at h
    rcases List.mem_cons.1 hn with rfl | hn
    · omega
    · exact incr_pos (by omega) h.2.2 n hn
theorem good_out {v : Int} {l : List Int} (h : good v l = true) : (1 ≤ v ∧ v ≤ 2147483647) ∧ (1 ≤ l.length ∧ l.length ≤ 32) ∧ incr 0 l = true := by
  unfold good at h
  simp only [Bool.and_eq_true, decide_eq_true_eq] at h
  exact ⟨h.1, h.2.1, h.2.2⟩
theorem good_all {v : Int} {l : List Int} (h : good v l = true) : ∀ n ∈ v :: l, 1 ≤ n ∧ n ≤ 2147483647 := by
  obtain ⟨h1, -, h3⟩ := good_out h
  intro n hn
  rcases List.mem_cons.1 hn with rfl | hn
  · exact h1
  · exact incr_pos (by omega) h3 n hn
theorem itoa_dec {n : Int} (h : 1 ≤ n) : Lib.itoa n = Lib.decDigits n.toNat := by
  have := Lib.itoa_nonneg n.toNat
  rwa [show ((n.toNat : Nat) : Int) = n by omega] at this
theorem pay_len : ∀ {l : List Int}, (∀ n ∈ l, 1 ≤ n ∧ n ≤ 2147483647) → (pay l).length ≤ 22 * l.length
  | [], _ => Nat.le_refl _
  | x :: r, h => by
    have := pay_len (l := r) (fun n hn => h n (by simp [hn]))
    have hx := h x (by simp)
    have := Lib.itoa_length_le x (by omega) (by omega)
    unfold pay at *
    rw [List.flatMap_cons, List.length_append, List.length_append, List.length_singleton, List.length_cons]
    omega
theorem enc_ok {v : Int} {l : List Int} (h : good v l = true) : Fr.encE 9 (pay (v :: l)) = 0 := by
  have h1 := pay_len (good_all h)
  have h2 := (good_out h).2.1
  unfold Fr.encE
  rw [if_neg (by omega), if_neg (by rw [List.length_cons] at h1; omega)]
-- Read back: by the library's parts.
def lines (p : List UInt8) : List (List UInt8) := Lib.splitK [10] 0 (p.count 10) p
def nums : List (List UInt8) → Option (List Int)
  | [] => some []
  | x :: r => match Lib.atoiAll x with
    | .ok n => (nums r).map (n :: ·)
    | _ => none
def fit (b : List UInt8) : List Int → Option (Int × List Int)
  | [] => none
  | v :: l => if good v l = true ∧ enc v l = b then some (v, l) else none
def read (b : List UInt8) : Option (Int × List Int) :=
  if Fr.decE b ≠ 0 ∨ Fr.kind b ≠ 9 then none else (nums (lines (Lib.trimSuffix (Fr.pay b) [10]))).bind (fit b)
theorem join_two (x y : List UInt8) (r : List (List UInt8)) (sep : List UInt8) : Lib.join (x :: y :: r) sep = x ++ (sep ++ Lib.join (y :: r) sep) := by
  simp [Lib.join, List.intercalate]
theorem index_line (x r : List UInt8) (h : (10 : UInt8) ∉ x) : Lib.index (x ++ 10 :: r) [10] = (x.length : Nat) := by
  apply Lib.index_first
  · simp
  · simp [Lib.occAt, List.isPrefixOf]
  · intro j hj
    unfold Lib.occAt
    have hd : (x ++ 10 :: r).drop j = x[j]'hj :: (x.drop (j + 1) ++ 10 :: r) := by
      rw [List.drop_append_of_le_length (by omega), List.drop_eq_getElem_cons hj]
      rfl
    rw [hd]
    have hne : (10 : UInt8) ≠ x[j]'hj := fun e => h (e ▸ List.getElem_mem hj)
    simp [List.isPrefixOf, hne]
theorem split_join : ∀ (x : List UInt8) (r : List (List UInt8)), (∀ l ∈ x :: r, (10 : UInt8) ∉ l) → lines (Lib.join (x :: r) [10]) = x :: r
  | x, [], h => by
    unfold lines
    rw [Lib.join_one, List.count_eq_zero_of_not_mem (h x (by simp))]
    rfl
  | x, y :: r, h => by
    have hx := h x (by simp)
    have ih := split_join y r (fun l hl => h l (by simp at hl ⊢; exact .inr hl))
    unfold lines at ih ⊢
    rw [join_two]
    show Lib.splitK [10] 0 ((x ++ 10 :: Lib.join (y :: r) [10]).count 10) (x ++ 10 :: Lib.join (y :: r) [10]) = _
    have hc : (x ++ 10 :: Lib.join (y :: r) [10]).count 10 = (Lib.join (y :: r) [10]).count 10 + 1 := by
      rw [List.count_append, List.count_eq_zero_of_not_mem hx, List.count_cons_self]
      omega
    rw [hc, Lib.splitK, index_line x _ hx, if_neg (by simp)]
    have e1 : ((x.length : Nat) : Int).toNat = x.length := by omega
    rw [e1]
    have e2 : (x ++ 10 :: Lib.join (y :: r) [10]).drop (x.length + ([10] : List UInt8).length) = Lib.join (y :: r) [10] := by
      rw [← List.drop_drop, List.drop_left]
      rfl
    rw [e2, ih]
    simp
theorem pay_join : ∀ (x : Int) (r : List Int), pay (x :: r) = Lib.join ((x :: r).map Lib.itoa) [10] ++ [10]
  | x, [] => by simp [pay, Lib.join_one]
  | x, y :: r => by
    have := pay_join y r
    unfold pay at this ⊢
    rw [List.flatMap_cons, this, show (x :: y :: r).map Lib.itoa = Lib.itoa x :: Lib.itoa y :: r.map Lib.itoa from rfl, join_two]
    simp
theorem trim_pay (x : Int) (r : List Int) : Lib.trimSuffix (pay (x :: r)) [10] = Lib.join ((x :: r).map Lib.itoa) [10] := by
  rw [pay_join]
  unfold Lib.trimSuffix
  rw [if_pos (by simp [Lib.hasSuffix, List.isSuffixOf])]
  simp
theorem dig_ne10 {c : UInt8} (h : Sg.isDig c = true) : c ≠ 10 := by
  intro e; rw [e] at h; revert h; decide
theorem itoa_no10 {n : Int} (h : 1 ≤ n) : (10 : UInt8) ∉ Lib.itoa n := by
  rw [itoa_dec h]
  intro hm
  have := List.all_eq_true.1 (Sg.dval_dec n.toNat 0).2 10 hm
  exact dig_ne10 this rfl
theorem nums_itoa : ∀ {l : List Int}, (∀ n ∈ l, 1 ≤ n ∧ n ≤ 2147483647) → nums (l.map Lib.itoa) = some l
  | [], _ => rfl
  | x :: r, h => by
    have hx := h x (by simp)
    have ih := nums_itoa (l := r) (fun n hn => h n (by simp [hn]))
    rw [List.map_cons, nums, itoa_dec hx.1, Sg.atoi_dec x.toNat (by omega), ih]
    show some (((x.toNat : Nat) : Int) :: r) = _
    rw [show ((x.toNat : Nat) : Int) = x by omega]
theorem fit_good {v : Int} {l : List Int} (h : good v l = true) : fit (enc v l) (v :: l) = some (v, l) := by
  rw [fit, if_pos ⟨h, rfl⟩]
theorem split_join_map {l : List Int} {v : Int} (h : ∀ n ∈ v :: l, 1 ≤ n ∧ n ≤ 2147483647) : lines (Lib.join ((v :: l).map Lib.itoa) [10]) = (v :: l).map Lib.itoa := by
  rw [List.map_cons]
  refine split_join _ _ (fun x hx => ?_)
  rw [← List.map_cons (f := Lib.itoa)] at hx
  obtain ⟨n, hn, rfl⟩ := List.mem_map.1 hx
  exact itoa_no10 (h n hn).1
theorem read_enc {v : Int} {l : List Int} (h : good v l = true) : read (enc v l) = some (v, l) := by
  have hd := Fr.dec_bytes (enc_ok h)
  have hk : Fr.kind (enc v l) = 9 := Fr.kind_bytes (by decide)
  have hp : Fr.pay (enc v l) = pay (v :: l) := Fr.pay_bytes
  unfold read
  rw [if_neg (by rw [hk]; intro hc; rcases hc with hc | hc; exact hc hd.1; exact hc rfl), hp, trim_pay, split_join_map (good_all h), nums_itoa (good_all h)]
  exact fit_good h
-- Read back: by the reference.
def scan : Nat → Nat → List Int → List UInt8 → Option (List Int)
  | _, _, acc, [] => some acc
  | n, d, acc, c :: r => if c.toNat = 10 then scan 0 0 (acc ++ [(n : Int)]) r else if Sg.isDig c = false ∨ 9 < d then none else scan (n * 10 + (c.toNat - 48)) (d + 1) acc r
end Mf
end Go.Proofs.YtcinagglbkbmkaaGreatDoor
namespace Go.Proofs.YtcinagglbkbmkaaGreatDoor
set_option linter.unusedSimpArgs false
set_option linter.unusedVariables false
open Go Go.RowKit
namespace Fs
/-- Steps one behind the other, to the first error. -/
def first : List (St → St × Int) → St → St × Int
  | [], st => (st, 0)
  | f :: r, st => if (f st).2 ≠ 0 then f st else first r (f st).1
theorem first_ok {f : St → St × Int} {r : List (St → St × Int)} {st st' : St} (h : f st = (st', 0)) : first (f :: r) st = first r st' := by
  rw [first, h, if_neg (by simp)]
end Fs
namespace Mf
def final : List UInt8 := [109, 97, 110, 105, 102, 101, 115, 116]
def draft : List UInt8 := [109, 97, 110, 105, 102, 101, 115, 116, 46, 116, 109, 112]
def clear (st : Fs.St) : Fs.St × Int := if Fs.mhas st.dir draft then Fs.remove st draft else (st, 0)
def steps (b : List UInt8) : List (Fs.St → Fs.St × Int) :=
  [clear, fun st => Fs.create st draft, fun st => Fs.append st draft b, fun st => Fs.sync st draft, fun st => Fs.rename st draft final, Fs.syncDir]
def save (st : Fs.St) (v : Int) (l : List Int) : Fs.St × Int := if good v l = false then (st, 1) else Fs.first (steps (enc v l)) st
def load (st : Fs.St) : (Int × List Int) × Int :=
  if Fs.openE st final ≠ 0 then ((0, []), Fs.openE st final) else match read (Fs.fileAt st final) with
    | some m => (m, 0)
    | none => ((0, []), 2)
theorem good_final : Fs.good final = true := by decide
theorem good_draft : Fs.good draft = true := by decide
theorem enc_len {v : Int} {l : List Int} (h : good v l = true) : (enc v l).length ≤ 800 := by
  have h1 := pay_len (good_all h)
  have h2 := (good_out h).2.1
  rw [List.length_cons] at h1
  unfold enc
  rw [Fr.bytes_len]
  omega
theorem load_look {st : Fs.St} {v : Int} {l : List Int} (h : good v l = true) (hf : Fs.look st final = some (enc v l)) : load st = ((v, l), 0) := by
  obtain ⟨h1, h2⟩ := Fs.look_some hf
  unfold load
  rw [if_neg (by rw [Fs.openE_of good_final h1]; simp), h2, read_enc h]
theorem load_none {st : Fs.St} (hf : Fs.look st final = none) : load st = ((0, []), 3) := by
  have h1 := Fs.look_none hf
  have : Fs.openE st final = 3 := by unfold Fs.openE; rw [if_neg (by rw [good_final]; simp), if_pos h1]
  unfold load
  rw [this, if_pos (by simp)]
/-- A manifest is saved, in calm weather. -/
theorem save_calm {st : Fs.St} (hc : Fs.Calm st) (hi : Fs.Inv st) {v : Int} {l : List Int} (hg : good v l = true) (hd : st.dir.length < 64) {M : Nat} (hM : ∀ n b, Fs.look st n = some b → b.length ≤ M)
    (hr : ((st.dir.length + 1) * M + 800 : Nat) ≤ st.room) (hfl : ∀ f ∈ st.files, f.1.length ≤ 65536) :
    (save st v l).2 = 0 ∧ Fs.Next st (save st v l).1 3 ∧ (save st v l).1.dir.length ≤ st.dir.length + 1 ∧ (Fs.mhas st.dir final = true → (save st v l).1.dir.length ≤ st.dir.length) ∧
      (∀ f ∈ (save st v l).1.files, f.1.length ≤ 65536) ∧ ∀ m, Fs.look (save st v l).1 m = if m = final then some (enc v l) else if m = draft then none else Fs.look st m := by
  have hel := enc_len hg
  have hs : save st v l = Fs.first (steps (enc v l)) st := by unfold save; rw [if_neg (by rw [hg]; simp)]
  rw [hs]
  clear hs
  have hfd : ¬ final = draft := by decide
  -- the draft's absence
  obtain ⟨s1, e1, n1, d1, d1', g1, f1, k1⟩ : ∃ s1, clear st = (s1, 0) ∧ Fs.Next st s1 1 ∧ s1.dir.length ≤ st.dir.length ∧ s1.dir.length + 1 ≤ 64 ∧ (Fs.mhas s1.dir final = Fs.mhas st.dir final) ∧ s1.files = st.files ∧ ∀ m, Fs.look s1 m = if m = draft then none else Fs.look st m := by
    cases hh : Fs.mhas st.dir draft
    · refine ⟨st, by unfold clear; rw [hh]; rfl, ⟨hc, hi, rfl, Nat.le_succ _, Nat.le_succ _⟩, Nat.le_refl _, hd, rfl, rfl, fun m => ?_⟩
      by_cases hm : m = draft
      · rw [if_pos hm, hm]; unfold Fs.look; rw [hh]; rfl
      · rw [if_neg hm]
    · obtain ⟨h1, h2, h3, h4, h5⟩ := Fs.calm_remove hc hi good_draft hh
      refine ⟨(Fs.remove st draft).1, by unfold clear; rw [if_pos hh]; exact Prod.ext rfl h1, h2, by rw [h3]; exact Fs.mdel_len _ _, by rw [h3]; have := Fs.mdel_len st.dir draft; omega, ?_, h4, h5⟩
      rw [h3, Fs.mhas_mdel, decide_eq_false hfd]; rfl
  have hnd : Fs.mhas s1.dir draft = false := Fs.look_none (by rw [k1, if_pos rfl])
  obtain ⟨c1, n2, dl2, k2⟩ := Fs.calm_create n1.calm n1.inv good_draft hnd (by omega)
  have f2 : (Fs.create s1 draft).1.files = s1.files ++ [([], 0)] := by
    unfold Fs.create
    rw [if_neg (by rw [good_draft]; simp), if_neg (by rw [hnd]; simp), if_neg (by omega), if_neg (by rw [Fs.step_calm n1.calm]; simp)]
  have e2 : (fun st => Fs.create st draft) s1 = ((Fs.create s1 draft).1, 0) := Prod.ext rfl c1
  generalize hs2 : (Fs.create s1 draft).1 = s2 at *
  have u2 : Fs.used s2 ≤ s2.dir.length * M := Fs.used_look n2.inv (fun n b hb => by
    rw [k2] at hb
    by_cases hn : n = draft
    · rw [if_pos hn] at hb; simp at hb; subst hb; exact Nat.zero_le _
    · rw [if_neg hn, k1, if_neg hn] at hb; exact hM n b hb)
  have u2' : s2.dir.length * M ≤ (st.dir.length + 1) * M := Nat.mul_le_mul_right M (by omega)
  obtain ⟨c3, n3, dl3, ⟨i3, f3⟩, k3⟩ := Fs.calm_append (b := enc v l) n2.calm n2.inv good_draft (old := []) (by rw [k2, if_pos rfl]) (by simp; omega) (by have h4 := n2.room; have h5 := n1.room; omega)
  have e3 : (fun st => Fs.append st draft (enc v l)) s2 = ((Fs.append s2 draft (enc v l)).1, 0) := Prod.ext rfl c3
  generalize hs3 : (Fs.append s2 draft (enc v l)).1 = s3 at *
  obtain ⟨c4, n4, dl4, ⟨i4, f4⟩, k4⟩ := Fs.calm_sync n3.calm n3.inv good_draft (old := [] ++ enc v l) (by rw [k3, if_pos rfl])
  have e4 : (fun st => Fs.sync st draft) s3 = ((Fs.sync s3 draft).1, 0) := Prod.ext rfl c4
  generalize hs4 : (Fs.sync s3 draft).1 = s4 at *
  obtain ⟨c5, n5, dl5, dl5', f5, k5⟩ := Fs.calm_rename (nt := final) n4.calm n4.inv good_draft good_final (by decide) (old := [] ++ enc v l) (by rw [k4, k3, if_pos rfl])
  have e5 : (fun st => Fs.rename st draft final) s4 = ((Fs.rename s4 draft final).1, 0) := Prod.ext rfl c5
  generalize hs5 : (Fs.rename s4 draft final).1 = s5 at *
  obtain ⟨c6, n6, dl6, f6, k6⟩ := Fs.calm_syncDir n5.calm n5.inv
  have e6 : Fs.syncDir s5 = ((Fs.syncDir s5).1, 0) := Prod.ext rfl c6
  generalize hs6 : (Fs.syncDir s5).1 = s6 at *
  have hall : Fs.first (steps (enc v l)) st = (s6, 0) := by
    unfold steps
    rw [Fs.first_ok e1, Fs.first_ok e2, Fs.first_ok e3, Fs.first_ok e4, Fs.first_ok e5, Fs.first_ok e6, Fs.first]
  rw [hall]
  refine ⟨rfl, ((((((n1.trans n2).trans n3).trans n4).trans n5).trans n6) : _), ?_, ?_, ?_, ?_⟩
  · show s6.dir.length ≤ _
    rw [dl6]; rw [dl4, dl3, dl2] at dl5; omega
  · intro hf
    show s6.dir.length ≤ _
    have h4 : Fs.mhas s4.dir final = true := by
      have : (Fs.look s4 final).isSome := by
        rw [k4, k3, if_neg hfd, k2, if_neg hfd, k1, if_neg hfd]
        unfold Fs.look; rw [if_pos hf]; rfl
      cases hx : Fs.mhas s4.dir final
      · unfold Fs.look at this; rw [hx] at this; cases this
      · rfl
    have := dl5' h4
    rw [dl6]; rw [dl4, dl3, dl2] at this; omega
  · show ∀ f ∈ s6.files, _
    rw [f6, f5, f4, f3, f2, f1]
    intro f hf
    rcases List.mem_or_eq_of_mem_set hf with hf | rfl
    · rcases List.mem_or_eq_of_mem_set hf with hf | rfl
      · rcases List.mem_append.1 hf with hf | hf
        · exact hfl f hf
        · simp at hf; subst hf; exact Nat.zero_le _
      · show ([] ++ enc v l).length ≤ _; simp; omega
    · show ([] ++ enc v l).length ≤ _; simp; omega
  · intro m
    show Fs.look s6 m = _
    rw [k6, k5]
    by_cases hm : m = final
    · rw [if_pos hm, if_pos hm]; rfl
    · rw [if_neg hm, if_neg hm]
      by_cases hd2 : m = draft
      · rw [if_pos hd2, if_pos hd2]
      · rw [if_neg hd2, if_neg hd2, k4, k3, if_neg hd2, k2, if_neg hd2, k1, if_neg hd2]
end Mf
end Go.Proofs.YtcinagglbkbmkaaGreatDoor
namespace Go.Proofs.YtcinagglbkbmkaaGreatDoor
set_option linter.unusedSimpArgs false
set_option linter.unusedVariables false
open Go Go.RowKit
namespace Fs
/-- The names' order. -/
def keys (D : Names) : List (List UInt8) := (D.map (·.1)).mergeSort (fun x y => decide (x ≤ y))
/-- The directory behind the first changes. -/
def crashDir (st : St) (k : Nat) : Names := (st.changes.take k).foldl doAll st.sure
/-- The bytes of a file that stand. -/
def cut (f : List UInt8 × Nat) (t : Option Int) : List UInt8 := f.1.take (f.2 + (match t with | some z => (max 0 (min z ((f.1.length : Int) - f.2))).toNat | none => 0))
def cutOf (st : St) (D : Names) (tails : List Int) (n : List UInt8) : List UInt8 := cut ((st.files[(mget D n).toNat]?).getD ([], 0)) tails[(mget D n).toNat]?
def crashGo (g : List UInt8 → List UInt8) : List (List UInt8) → List (List UInt8 × Nat) → Names → List (List UInt8 × Nat) × Names
  | [], fs, d => (fs, d)
  | n :: r, fs, d => crashGo g r (fs ++ [(g n, (g n).length)]) (mput d n fs.length)
def dirsOf (st : St) (dirs : Int) : Nat := (max 0 (min dirs st.changes.length)).toNat
def crash (st : St) (dirs : Int) (tails : List Int) : St :=
  let D := crashDir st (dirsOf st dirs)
  let r := crashGo (cutOf st D tails) (keys D) [] []
  ⟨0, -1, [], st.room, r.1, r.2, r.2, []⟩
/-- Names and files, one for one. -/
structure InvA (fs : List (List UInt8 × Nat)) (d : Names) : Prop where
  nd : d.Pairwise (fun p q => p.1 ≠ q.1)
  inj : ∀ p ∈ d, ∀ q ∈ d, p.2 = q.2 → p.1 = q.1
  known : ∀ p ∈ d, 0 ≤ p.2 ∧ p.2 < fs.length
  gd : ∀ p ∈ d, good p.1 = true
  full : ∀ f ∈ fs, f.2 = f.1.length
theorem crashGo_spec (g : List UInt8 → List UInt8) : ∀ (K : List (List UInt8)) (fs : List (List UInt8 × Nat)) (d : Names), K.Nodup → (∀ n ∈ K, good n = true ∧ mhas d n = false) → InvA fs d →
    InvA (crashGo g K fs d).1 (crashGo g K fs d).2 ∧ (crashGo g K fs d).1.length = fs.length + K.length ∧ (crashGo g K fs d).2.length = d.length + K.length ∧ (∀ f ∈ (crashGo g K fs d).1, f ∈ fs ∨ ∃ n ∈ K, f = (g n, (g n).length)) ∧
      ∀ n, (n ∈ K → mhas (crashGo g K fs d).2 n = true ∧ (crashGo g K fs d).1[(mget (crashGo g K fs d).2 n).toNat]? = some (g n, (g n).length)) ∧
        (n ∉ K → mhas (crashGo g K fs d).2 n = mhas d n ∧ (mhas d n = true → mget (crashGo g K fs d).2 n = mget d n ∧ (crashGo g K fs d).1[(mget d n).toNat]? = fs[(mget d n).toNat]?))
  | [], fs, d, _, _, h => ⟨h, rfl, rfl, fun f hf => .inl hf, fun n => ⟨fun hn => (by cases hn), fun _ => ⟨rfl, fun _ => ⟨rfl, rfl⟩⟩⟩⟩
  | k :: r, fs, d, hK, hd, h => by
    rw [List.nodup_cons] at hK
    obtain ⟨hg, hh⟩ := hd k List.mem_cons_self
    have h1 : InvA (fs ++ [(g k, (g k).length)]) (mput d k fs.length) := by
      refine ⟨pw_mput h.nd, ?_, ?_, fun p hp => (mput_mem.1 hp).elim (fun e => by rw [e]; exact hg) (fun x => h.gd p x.1), fun f hf => ?_⟩
      · intro p hp q hq e
        rcases mput_mem.1 hp with rfl | ⟨hp1, _⟩ <;> rcases mput_mem.1 hq with rfl | ⟨hq1, _⟩
        · rfl
        · have := h.known q hq1; simp only at e; omega
        · have := h.known p hp1; simp only at e; omega
        · exact h.inj p hp1 q hq1 e
      · intro p hp
        rw [List.length_append]
        rcases mput_mem.1 hp with rfl | ⟨hp1, _⟩
        · simp; omega
        · have := h.known p hp1; simp; omega
      · rcases List.mem_append.1 hf with hf | hf
        · exact h.full f hf
        · simp at hf; rw [hf]
    obtain ⟨k1, k2, k3, k4, k5⟩ := crashGo_spec g r (fs ++ [(g k, (g k).length)]) (mput d k fs.length) hK.2 (fun n hn => ⟨(hd n (List.mem_cons_of_mem _ hn)).1, by
      rw [mhas_mput, decide_eq_false (fun e => hK.1 (by rw [e]; exact hn)), (hd n (List.mem_cons_of_mem _ hn)).2]; rfl⟩) h1
    have e : crashGo g (k :: r) fs d = crashGo g r (fs ++ [(g k, (g k).length)]) (mput d k fs.length) := rfl
    rw [e]
    refine ⟨k1, by rw [k2]; simp; omega, by rw [k3, mput_len2, mdel_none hh]; simp; omega, fun f hf => ?_, fun n => ⟨fun hn => ?_, fun hn => ?_⟩⟩
    · rcases k4 f hf with hf | ⟨n, hn, rfl⟩
      · rcases List.mem_append.1 hf with hf | hf
        · exact .inl hf
        · simp at hf; exact .inr ⟨k, List.mem_cons_self, hf⟩
      · exact .inr ⟨n, List.mem_cons_of_mem _ hn, rfl⟩
    · rcases List.mem_cons.1 hn with rfl | hn
      · obtain ⟨a1, a2⟩ := (k5 n).2 hK.1
        have hm : mhas (mput d n fs.length) n = true := by rw [mhas_mput, decide_eq_true rfl]; rfl
        obtain ⟨a3, a4⟩ := a2 hm
        rw [mget_mput, if_pos rfl] at a3 a4
        refine ⟨a1.trans hm, ?_⟩
        rw [a3, a4]
        simp
      · exact (k5 n).1 hn
    · have hne : ¬ k = n := fun e => hn (by rw [e]; exact List.mem_cons_self)
      obtain ⟨a1, a2⟩ := (k5 n).2 (fun x => hn (List.mem_cons_of_mem _ x))
      rw [mhas_mput, decide_eq_false hne, Bool.false_or] at a1 a2
      refine ⟨a1, fun hx => ?_⟩
      obtain ⟨a3, a4⟩ := a2 hx
      rw [mget_mput, if_neg hne] at a3 a4
      refine ⟨a3, ?_⟩
      obtain ⟨p, hp1, hp2, hp3⟩ := mget_mem hx
      have := h.known p hp1
      rw [a4, List.getElem?_append_left (by rw [← hp3]; omega)]
theorem keys_mem {D : Names} {n : List UInt8} : n ∈ keys D ↔ mhas D n = true := by
  unfold keys
  rw [List.mem_mergeSort, mhas_mem, List.mem_map]
theorem keys_nodup {D : Names} (h : D.Pairwise (fun p q => p.1 ≠ q.1)) : (keys D).Nodup := by
  unfold keys
  refine (List.mergeSort_perm _ _).nodup_iff.2 ?_
  rw [List.nodup_iff_pairwise_ne, List.pairwise_map]
  exact h
theorem keys_len (D : Names) : (keys D).length = D.length := by unfold keys; rw [List.length_mergeSort, List.length_map]
/-- What a crash leaves. -/
theorem crash_look {st : St} {dirs : Int} {tails : List Int} (hnd : (crashDir st (dirsOf st dirs)).Pairwise (fun p q => p.1 ≠ q.1)) (hgd : ∀ p ∈ crashDir st (dirsOf st dirs), good p.1 = true) :
    Calm (crash st dirs tails) ∧ Inv (crash st dirs tails) ∧ (crash st dirs tails).dir.length = (crashDir st (dirsOf st dirs)).length ∧ (crash st dirs tails).files.length = (crashDir st (dirsOf st dirs)).length ∧ (∀ f ∈ (crash st dirs tails).files, f.2 = f.1.length) ∧
      (∀ f ∈ (crash st dirs tails).files, ∃ n, f.1 = cutOf st (crashDir st (dirsOf st dirs)) tails n) ∧
      ∀ n, look (crash st dirs tails) n = if mhas (crashDir st (dirsOf st dirs)) n then some (cutOf st (crashDir st (dirsOf st dirs)) tails n) else none := by
  generalize hD : crashDir st (dirsOf st dirs) = D at *
  obtain ⟨k1, k2, k3, k4, k5⟩ := crashGo_spec (cutOf st D tails) (keys D) [] [] (keys_nodup hnd) (fun n hn => ⟨by obtain ⟨p, hp, rfl⟩ := mhas_mem.1 (keys_mem.1 hn); exact hgd p hp, rfl⟩)
    ⟨List.Pairwise.nil, fun p hp => (by cases hp), fun p hp => (by cases hp), fun p hp => (by cases hp), fun p hp => (by cases hp)⟩
  have e : crash st dirs tails = ⟨0, -1, [], st.room, (crashGo (cutOf st D tails) (keys D) [] []).1, (crashGo (cutOf st D tails) (keys D) [] []).2, (crashGo (cutOf st D tails) (keys D) [] []).2, []⟩ := by
    unfold crash; rw [hD]
  rw [e]
  refine ⟨⟨rfl, rfl⟩, ⟨k1.nd, k1.inj, k1.known, k1.gd⟩, by rw [k3, keys_len]; simp, by rw [k2, keys_len]; simp, k1.full, fun f hf => ?_, fun n => ?_⟩
  · rcases k4 f hf with hf | ⟨n, _, rfl⟩
    · cases hf
    · exact ⟨n, rfl⟩
  · show (if mhas (crashGo (cutOf st D tails) (keys D) [] []).2 n then some (match (crashGo (cutOf st D tails) (keys D) [] []).1[(mget (crashGo (cutOf st D tails) (keys D) [] []).2 n).toNat]? with | some f => f.1 | none => []) else none) = _
    cases hh : mhas D n
    · rw [((k5 n).2 (fun x => by rw [keys_mem.1 x] at hh; cases hh)).1]
      rfl
    · obtain ⟨a1, a2⟩ := (k5 n).1 (keys_mem.2 hh)
      rw [a1, a2]
theorem cut_full {f : List UInt8 × Nat} (h : f.2 = f.1.length) (t : Option Int) : cut f t = f.1 := by
  unfold cut
  exact List.take_of_length_le (by omega)
end Fs
end Go.Proofs.YtcinagglbkbmkaaGreatDoor
namespace Go.Proofs.YtcinagglbkbmkaaGreatDoor
set_option linter.unusedSimpArgs false
set_option linter.unusedVariables false
open Go Go.RowKit
namespace Fs
structure Sound (st : St) (k : Nat) : Prop where
  dir : ∀ p ∈ st.dir, (0 ≤ p.2 ∧ p.2 < st.files.length) ∧ good p.1 = true
  sure : ∀ p ∈ st.sure, (0 ≤ p.2 ∧ p.2 < st.files.length) ∧ good p.1 = true
  chg : ∀ l ∈ st.changes, (∀ p ∈ l, p.2 < st.files.length ∧ good p.1 = true) ∧ l.length ≤ 2
  nd : st.dir.Pairwise (fun p q => p.1 ≠ q.1)
  nds : st.sure.Pairwise (fun p q => p.1 ≠ q.1)
  full : ∀ f ∈ st.files, f.2 ≤ f.1.length ∧ f.1.length ≤ 65536
  room : 0 ≤ st.room ∧ st.room ≤ 1048576
  nf : st.files.length ≤ k
  nc : st.changes.length ≤ k
  ndir : st.dir.length ≤ k
  nsure : st.sure.length ≤ k
theorem Sound.mono {st : St} {k j : Nat} (h : Sound st k) (hj : k ≤ j) : Sound st j := { h with nf := Nat.le_trans h.nf hj, nc := Nat.le_trans h.nc hj, ndir := Nat.le_trans h.ndir hj, nsure := Nat.le_trans h.nsure hj }
theorem Sound.new {room : Int} (h : 0 ≤ room ∧ room ≤ 1048576) (k : Nat) : Sound (new room) k :=
  ⟨fun p hp => by (cases hp), fun p hp => by (cases hp), fun p hp => by (cases hp), List.Pairwise.nil, List.Pairwise.nil, fun p hp => by (cases hp), h, Nat.zero_le _, Nat.zero_le _, Nat.zero_le _, Nat.zero_le _⟩
/-- Only the power has turned. -/
theorem step_eq (st : St) : ∃ s l p, (step st).1 = { st with steps := s, left := l, plan := p } := by
  unfold step
  split
  · exact ⟨st.steps, st.left, st.plan, rfl⟩
  · exact ⟨_, _, _, rfl⟩
theorem good_len {n : List UInt8} (h : good n = true) : n.length ≤ 20 := by
  unfold good at h
  simp only [Bool.and_eq_true, decide_eq_true_eq] at h
  exact h.1.2
section
set_option linter.unusedSectionVars false
variable {st : St} {k : Nat} (h : Sound st k)
include h
theorem Sound.power (s l : Int) (p : List Int) : Sound { st with steps := s, left := l, plan := p } k := ⟨h.dir, h.sure, h.chg, h.nd, h.nds, h.full, h.room, h.nf, h.nc, h.ndir, h.nsure⟩
theorem Sound.step : Sound (Fs.step st).1 k := by
  obtain ⟨s, l, p, e⟩ := step_eq st
  rw [e]
  exact h.power s l p
theorem Sound.turned {l : Names} (hl : ∀ p ∈ l, p.2 < st.files.length ∧ good p.1 = true) (hl2 : l.length ≤ 2) : Sound (turned st l) (k + 2) := by
  have key : ∀ (l d : Names), (∀ p ∈ l, p.2 < st.files.length ∧ good p.1 = true) → (∀ p ∈ d, (0 ≤ p.2 ∧ p.2 < st.files.length) ∧ good p.1 = true) → d.Pairwise (fun p q => p.1 ≠ q.1) →
      (∀ p ∈ doAll d l, (0 ≤ p.2 ∧ p.2 < st.files.length) ∧ good p.1 = true) ∧ (doAll d l).Pairwise (fun p q => p.1 ≠ q.1) := by
    intro l
    induction l with
    | nil => intro d _ h1 h2; exact ⟨h1, h2⟩
    | cons c l ih =>
      intro d hl h1 h2
      have hc := hl c List.mem_cons_self
      refine ih (doOne d c) (fun p hp => hl p (List.mem_cons_of_mem _ hp)) ?_ ?_
      · unfold doOne
        split
        · exact fun p hp => h1 p (mdel_mem.1 hp).1
        · intro p hp
          rcases mput_mem.1 hp with rfl | ⟨hp, _⟩
          · exact ⟨⟨by simp only; omega, hc.1⟩, hc.2⟩
          · exact h1 p hp
      · unfold doOne
        split
        · exact pw_mdel h2
        · exact pw_mput h2
  obtain ⟨k1, k2⟩ := key l st.dir hl h.dir h.nd
  have := doAll_len l st.dir
  refine ⟨k1, h.sure, fun l' hl' => ?_, k2, h.nds, h.full, h.room, Nat.le_trans h.nf (by omega), ?_, ?_, Nat.le_trans h.nsure (by omega)⟩
  · rcases List.mem_append.1 hl' with hx | hx
    · exact h.chg l' hx
    · simp at hx; subst hx; exact ⟨hl, hl2⟩
  · show (st.changes ++ [l]).length ≤ _
    have := h.nc
    simp; omega
  · show (doAll st.dir l).length ≤ _
    have := h.ndir
    omega
theorem Sound.files {fs : List (List UInt8 × Nat)} (hn : fs.length = st.files.length) (hf : ∀ f ∈ fs, f.2 ≤ f.1.length ∧ f.1.length ≤ 65536) : Sound { st with files := fs } k :=
  ⟨by rw [hn]; exact h.dir, by rw [hn]; exact h.sure, by rw [hn]; exact h.chg, h.nd, h.nds, hf, h.room, by rw [hn]; exact h.nf, h.nc, h.ndir, h.nsure⟩
theorem Sound.create (n : List UInt8) : Sound (create st n).1 (k + 2) := by
  unfold Fs.create
  split
  · exact h.mono (by omega)
  split
  · exact h.mono (by omega)
  split
  · exact h.mono (by omega)
  split
  · exact h.step.mono (by omega)
  rename_i hg _ _ _
  have hg' : good n = true := by simpa using hg
  obtain ⟨s, l, p, e⟩ := step_eq st
  rw [e]
  have h1 : Sound { st with steps := s, left := l, plan := p, files := st.files ++ [([], 0)] } (k + 1) := by
    have e1 : (st.files ++ [(([] : List UInt8), 0)]).length = st.files.length + 1 := by simp
    refine ⟨?_, ?_, ?_, h.nd, h.nds, ?_, h.room, ?_, Nat.le_succ_of_le h.nc, Nat.le_succ_of_le h.ndir, Nat.le_succ_of_le h.nsure⟩
    · intro p hp; have := h.dir p hp; exact ⟨⟨this.1.1, by show p.2 < ((st.files ++ [(([] : List UInt8), 0)]).length : Int); rw [e1]; omega⟩, this.2⟩
    · intro p hp; have := h.sure p hp; exact ⟨⟨this.1.1, by show p.2 < ((st.files ++ [(([] : List UInt8), 0)]).length : Int); rw [e1]; omega⟩, this.2⟩
    · intro l hl; exact ⟨fun p hp => ⟨by show p.2 < ((st.files ++ [(([] : List UInt8), 0)]).length : Int); rw [e1]; have := ((h.chg l hl).1 p hp).1; omega, ((h.chg l hl).1 p hp).2⟩, (h.chg l hl).2⟩
    · intro f hf
      rcases List.mem_append.1 hf with hf | hf
      · exact h.full f hf
      · simp at hf; subst hf; simp
    · show (st.files ++ [(([] : List UInt8), 0)]).length ≤ _
      rw [e1]; have := h.nf; omega
  refine ⟨?_, h1.sure, ?_, pw_mput h.nd, h.nds, h1.full, h.room, Nat.le_succ_of_le h1.nf, ?_, ?_, Nat.le_trans h.nsure (by omega)⟩
  · intro p hp
    rcases mput_mem.1 hp with rfl | ⟨hp, _⟩
    · exact ⟨⟨by simp, by simp; omega⟩, hg'⟩
    · exact h1.dir p hp
  · intro l hl
    rcases List.mem_append.1 hl with hx | hx
    · exact h1.chg l hx
    · simp at hx; subst hx; exact ⟨fun p hp => by simp at hp; subst hp; exact ⟨by simp; omega, hg'⟩, by simp⟩
  · show (st.changes ++ [_]).length ≤ _
    have := h.nc; simp; omega
  · show (mput st.dir n _).length ≤ _
    have := mput_len st.dir n st.files.length
    have := h.ndir; omega
theorem Sound.grow (i : Nat) (b : List UInt8) (hb : ∀ f, st.files[i]? = some f → f.1.length + b.length ≤ 65536) : Sound { st with files := grow st.files i b } k := by
  unfold Fs.grow
  cases hf : st.files[i]? with
  | none => exact h
  | some f =>
    refine h.files (by simp) (fun g hg => ?_)
    rcases List.mem_or_eq_of_mem_set hg with hg | rfl
    · exact h.full g hg
    · have := h.full f (List.mem_of_getElem? hf)
      have := hb f hf
      simp; omega
theorem Sound.append (n b : List UInt8) : Sound (append st n b).1 k := by
  unfold Fs.append
  split
  · exact h
  split
  · exact h
  rename_i ho hl
  have hb : ∀ (c : List UInt8), c.length ≤ b.length → ∀ f, st.files[Fs.idx st n]? = some f → f.1.length + c.length ≤ 65536 := by
    intro c hc f hf
    unfold fileAt at hl
    rw [hf] at hl
    simp only at hl
    omega
  obtain ⟨s, l, p, e⟩ := step_eq st
  split
  · split
    · rw [e]
      exact (h.grow _ _ (hb _ (by simp; omega))).power s l p
    · exact h.step
  split
  · exact h.step
  · rw [e]
    exact (h.grow _ _ (hb _ (Nat.le_refl _))).power s l p
theorem Sound.flush (i : Nat) : Sound { st with files := flush st.files i } k := by
  unfold Fs.flush
  cases hf : st.files[i]? with
  | none => exact h
  | some f =>
    refine h.files (by simp) (fun g hg => ?_)
    rcases List.mem_or_eq_of_mem_set hg with hg | rfl
    · exact h.full g hg
    · have := h.full f (List.mem_of_getElem? hf)
      exact ⟨Nat.le_refl _, this.2⟩
theorem Sound.sync (n : List UInt8) : Sound (sync st n).1 k := by
  unfold Fs.sync
  split
  · exact h
  split
  · exact h.step
  · obtain ⟨s, l, p, e⟩ := step_eq st
    rw [e]
    exact (h.flush _).power s l p
theorem Sound.syncDir : Sound (syncDir st).1 k := by
  unfold Fs.syncDir
  split
  · exact h.step
  · obtain ⟨s, l, p, e⟩ := step_eq st
    rw [e]
    exact ⟨h.dir, h.dir, fun l hl => (by cases hl), h.nd, h.nd, h.full, h.room, h.nf, Nat.zero_le _, h.ndir, h.ndir⟩
theorem Sound.remove (n : List UInt8) : Sound (remove st n).1 (k + 2) := by
  unfold Fs.remove
  split
  · exact h.mono (by omega)
  rename_i ho
  split
  · exact h.step.mono (by omega)
  · have hg : good n = true := by
      cases hx : good n
      · exact absurd (by unfold openE; rw [if_pos hx]; decide) ho
      · rfl
    refine h.step.turned (fun p hp => ?_) (by simp)
    simp at hp; subst hp
    exact ⟨by simp only; omega, hg⟩
theorem Sound.rename (a b : List UInt8) : Sound (rename st a b).1 (k + 2) := by
  unfold Fs.rename
  split
  · exact h.mono (by omega)
  rename_i hg
  split
  · exact h.mono (by omega)
  rename_i hh
  split
  · exact h.step.mono (by omega)
  · have hg' : good a = true ∧ good b = true := by
      rw [Bool.not_eq_false, Bool.and_eq_true] at hg
      exact hg
    obtain ⟨p, hp1, hp2, hp3⟩ := mget_mem (l := st.dir) (k := a) (by simpa using hh)
    refine h.step.turned (fun q hq => ?_) (by simp)
    rw [step_files]
    simp at hq
    rcases hq with rfl | rfl
    · exact ⟨by simp only; omega, hg'.1⟩
    · exact ⟨by simp only; rw [← hp3]; exact (h.dir p hp1).1.2, hg'.2⟩
theorem Sound.arm (n : Int) : Sound (arm st n).1 k := by
  unfold Fs.arm
  split
  · exact h
  split
  · exact h
  · exact h.power st.steps n st.plan
theorem doAll_sound : ∀ (l d : Names), (∀ p ∈ l, p.2 < st.files.length ∧ good p.1 = true) → (∀ p ∈ d, (0 ≤ p.2 ∧ p.2 < st.files.length) ∧ good p.1 = true) → d.Pairwise (fun p q => p.1 ≠ q.1) →
    (∀ p ∈ doAll d l, (0 ≤ p.2 ∧ p.2 < st.files.length) ∧ good p.1 = true) ∧ (doAll d l).Pairwise (fun p q => p.1 ≠ q.1)
  | [], d, _, h1, h2 => ⟨h1, h2⟩
  | c :: l, d, hl, h1, h2 => by
    have hc := hl c List.mem_cons_self
    refine doAll_sound l (doOne d c) (fun p hp => hl p (List.mem_cons_of_mem _ hp)) ?_ ?_
    · unfold doOne
      split
      · exact fun p hp => h1 p (mdel_mem.1 hp).1
      · intro p hp
        rcases mput_mem.1 hp with rfl | ⟨hp, _⟩
        · exact ⟨⟨by simp only; omega, hc.1⟩, hc.2⟩
        · exact h1 p hp
    · unfold doOne
      split
      · exact pw_mdel h2
      · exact pw_mput h2
theorem Sound.crashDir (j : Nat) : (∀ p ∈ Fs.crashDir st j, (0 ≤ p.2 ∧ p.2 < st.files.length) ∧ good p.1 = true) ∧ (Fs.crashDir st j).Pairwise (fun p q => p.1 ≠ q.1) ∧ (Fs.crashDir st j).length ≤ k + 2 * j := by
  unfold Fs.crashDir
  have key : ∀ (L : List Names) (d : Names), (∀ l ∈ L, (∀ p ∈ l, p.2 < st.files.length ∧ good p.1 = true) ∧ l.length ≤ 2) → (∀ p ∈ d, (0 ≤ p.2 ∧ p.2 < st.files.length) ∧ good p.1 = true) → d.Pairwise (fun p q => p.1 ≠ q.1) →
      (∀ p ∈ L.foldl doAll d, (0 ≤ p.2 ∧ p.2 < st.files.length) ∧ good p.1 = true) ∧ (L.foldl doAll d).Pairwise (fun p q => p.1 ≠ q.1) ∧ (L.foldl doAll d).length ≤ d.length + 2 * L.length := by
    intro L
    induction L with
    | nil => intro d _ h1 h2; exact ⟨h1, h2, Nat.le_refl _⟩
    | cons l L ih =>
      intro d hL h1 h2
      obtain ⟨k1, k2⟩ := doAll_sound h l d (hL l List.mem_cons_self).1 h1 h2
      obtain ⟨a1, a2, a3⟩ := ih (doAll d l) (fun x hx => hL x (List.mem_cons_of_mem _ hx)) k1 k2
      refine ⟨a1, a2, Nat.le_trans a3 ?_⟩
      have := doAll_len l d
      have := (hL l List.mem_cons_self).2
      rw [List.length_cons]; omega
  obtain ⟨a1, a2, a3⟩ := key (st.changes.take j) st.sure (fun l hl => h.chg l (List.mem_of_mem_take hl)) h.sure h.nds
  refine ⟨a1, a2, Nat.le_trans a3 ?_⟩
  have := h.nsure
  have : (st.changes.take j).length ≤ j := by simp; omega
  omega
theorem Sound.crash (dirs : Int) (tails : List Int) : Sound (Fs.crash st dirs tails) (Fs.crashDir st (dirsOf st dirs)).length := by
  obtain ⟨a1, a2, _⟩ := h.crashDir (dirsOf st dirs)
  obtain ⟨c1, c2, c3, c4, c5, c6, _⟩ := crash_look (st := st) (dirs := dirs) (tails := tails) a2 (fun p hp => (a1 p hp).2)
  have hs : (Fs.crash st dirs tails).sure = (Fs.crash st dirs tails).dir := rfl
  have hc : (Fs.crash st dirs tails).changes = [] := rfl
  have hr : (Fs.crash st dirs tails).room = st.room := rfl
  refine ⟨fun p hp => ⟨c2.known p hp, c2.gd p hp⟩, by rw [hs]; exact fun p hp => ⟨c2.known p hp, c2.gd p hp⟩, by rw [hc]; exact fun l hl => by (cases hl), c2.nd, by rw [hs]; exact c2.nd, fun f hf => ⟨Nat.le_of_eq (c5 f hf), ?_⟩, by rw [hr]; exact h.room, by omega, by rw [hc]; exact Nat.zero_le _, by omega, by rw [hs]; omega⟩
  obtain ⟨n, e⟩ := c6 f hf
  rw [e]
  unfold cutOf cut
  rw [List.length_take]
  cases hx : st.files[(mget (Fs.crashDir st (dirsOf st dirs)) n).toNat]? with
  | none => simp
  | some g => have := h.full g (List.mem_of_getElem? hx); simp; omega
end
end Fs
end Go.Proofs.YtcinagglbkbmkaaGreatDoor
namespace Go.Proofs.YtcinagglbkbmkaaGreatDoor
set_option linter.unusedSimpArgs false
set_option linter.unusedVariables false
open Go Go.RowKit
namespace Mf
open Fs
/-- Behind a crash: the manifest that there is, perhaps a draft. -/
structure Round (st : St) (cur : Option (List UInt8)) : Prop where
  sound : Sound st 2
  sure : st.sure = st.dir
  chg : st.changes = []
  full : ∀ f ∈ st.files, f.2 = f.1.length
  two : ∀ p ∈ st.dir, p.1 = final ∨ p.1 = draft
  cur : (mhas st.dir final = false → cur = none) ∧ (mhas st.dir final = true → ∃ b, st.files[(mget st.dir final).toNat]? = some (b, b.length) ∧ cur = some b)
/-- Wherever the directory stands: the manifest is the elder one, or the new one. -/
def Sw (st : St) (cur : Option (List UInt8)) (new : List UInt8) (sure : Prop) : Prop :=
  ∀ j, (∀ p ∈ crashDir st j, p.1 = final ∨ p.1 = draft) ∧ (mhas (crashDir st j) final = false → cur = none ∧ ¬ sure) ∧
    (mhas (crashDir st j) final = true → ∃ b, st.files[(mget (crashDir st j) final).toNat]? = some (b, b.length) ∧ ((cur = some b ∧ ¬ sure) ∨ new = b))
/-- The draft alone has turned. -/
structure Mid (s0 st : St) : Prop where
  files : ∃ ex, st.files = s0.files ++ ex
  sure : st.sure = s0.dir
  chg : ∀ l ∈ st.changes, ∀ p ∈ l, p.1 = draft
theorem doAll_other {n : List UInt8} : ∀ (l d : Names), (∀ p ∈ l, p.1 ≠ n) → mhas (doAll d l) n = mhas d n ∧ mget (doAll d l) n = mget d n
  | [], d, _ => ⟨rfl, rfl⟩
  | c :: l, d, h => by
    have hc := h c List.mem_cons_self
    obtain ⟨h1, h2⟩ := doAll_other l (doOne d c) (fun p hp => h p (List.mem_cons_of_mem _ hp))
    have e : doAll d (c :: l) = doAll (doOne d c) l := rfl
    rw [e, h1, h2]
    unfold doOne
    split
    · rw [mhas_mdel, mget_mdel _ _ _ (fun x => hc x.symm), decide_eq_false (fun x => hc x.symm)]; exact ⟨rfl, rfl⟩
    · rw [mhas_mput, mget_mput, if_neg hc, decide_eq_false hc]; exact ⟨rfl, rfl⟩
theorem doAll_in {S : List UInt8 → Prop} : ∀ (l d : Names), (∀ p ∈ l, S p.1) → (∀ p ∈ d, S p.1) → ∀ p ∈ doAll d l, S p.1
  | [], d, _, h => h
  | c :: l, d, hl, h => by
    refine doAll_in l (doOne d c) (fun p hp => hl p (List.mem_cons_of_mem _ hp)) ?_
    unfold doOne
    split
    · exact fun p hp => h p (mdel_mem.1 hp).1
    · intro p hp
      rcases mput_mem.1 hp with rfl | ⟨hp, _⟩
      · exact hl c List.mem_cons_self
      · exact h p hp
theorem dirs_other {n : List UInt8} : ∀ (L : List Names) (d : Names), (∀ l ∈ L, ∀ p ∈ l, p.1 ≠ n) → mhas (L.foldl doAll d) n = mhas d n ∧ mget (L.foldl doAll d) n = mget d n
  | [], d, _ => ⟨rfl, rfl⟩
  | l :: L, d, h => by
    obtain ⟨h1, h2⟩ := dirs_other L (doAll d l) (fun x hx => h x (List.mem_cons_of_mem _ hx))
    obtain ⟨h3, h4⟩ := doAll_other l d (h l List.mem_cons_self)
    exact ⟨h1.trans h3, h2.trans h4⟩
theorem dirs_in {S : List UInt8 → Prop} : ∀ (L : List Names) (d : Names), (∀ l ∈ L, ∀ p ∈ l, S p.1) → (∀ p ∈ d, S p.1) → ∀ p ∈ L.foldl doAll d, S p.1
  | [], d, _, h => h
  | l :: L, d, hL, h => dirs_in L (doAll d l) (fun x hx => hL x (List.mem_cons_of_mem _ hx)) (doAll_in l d (hL l List.mem_cons_self) h)
theorem known_files {s0 : St} {cur : Option (List UInt8)} (hr : Round s0 cur) {st : St} (hf : ∃ ex, st.files = s0.files ++ ex) (hh : mhas s0.dir final = true) : ∃ b, st.files[(mget s0.dir final).toNat]? = some (b, b.length) ∧ cur = some b := by
  obtain ⟨b, h1, h2⟩ := hr.cur.2 hh
  obtain ⟨ex, e⟩ := hf
  refine ⟨b, ?_, h2⟩
  rw [e, List.getElem?_append_left (List.getElem?_eq_some_iff.1 h1).1, h1]
theorem Mid.sw {s0 st : St} {cur : Option (List UInt8)} (hr : Round s0 cur) (h : Mid s0 st) (new : List UInt8) : Sw st cur new False := by
  intro j
  have hne : ∀ l ∈ st.changes.take j, ∀ p ∈ l, p.1 ≠ final := fun l hl p hp e => by
    have := h.chg l (List.mem_of_mem_take hl) p hp
    rw [e] at this
    exact absurd this (by decide)
  unfold crashDir
  rw [h.sure]
  obtain ⟨h1, h2⟩ := dirs_other (st.changes.take j) s0.dir hne
  rw [h1, h2]
  refine ⟨dirs_in (S := fun n => n = final ∨ n = draft) _ _ (fun l hl p hp => .inr (h.chg l (List.mem_of_mem_take hl) p hp)) hr.two, fun hh => ⟨hr.cur.1 hh, id⟩, fun hh => ?_⟩
  obtain ⟨b, k1, k2⟩ := known_files hr h.files hh
  exact ⟨b, k1, .inl ⟨k2, id⟩⟩
theorem Mid.alike {s0 st st' : St} (h : Mid s0 st) (e1 : st'.files = st.files) (e2 : st'.sure = st.sure) (e3 : st'.changes = st.changes) : Mid s0 st' :=
  ⟨by rw [e1]; exact h.files, by rw [e2]; exact h.sure, by rw [e3]; exact h.chg⟩
theorem Mid.step {s0 st : St} (h : Mid s0 st) : Mid s0 (Fs.step st).1 := by
  obtain ⟨s, l, p, e⟩ := step_eq st
  exact h.alike (by rw [e]) (by rw [e]) (by rw [e])
theorem Mid.set {s0 st : St} (h : Mid s0 st) {i : Nat} (hi : s0.files.length ≤ i) (f : List UInt8 × Nat) : Mid s0 { st with files := st.files.set i f } := by
  obtain ⟨ex, e⟩ := h.files
  refine ⟨⟨ex.set (i - s0.files.length) f, ?_⟩, h.sure, h.chg⟩
  show st.files.set i f = _
  rw [e, List.set_append_right _ _ hi]
theorem Mid.turned {s0 st : St} (h : Mid s0 st) {l : Names} (hl : ∀ p ∈ l, p.1 = draft) : Mid s0 (turned st l) := by
  refine ⟨h.files, h.sure, fun x hx => ?_⟩
  rcases List.mem_append.1 hx with hx | hx
  · exact h.chg x hx
  · simp at hx; subst hx; exact hl
theorem Mid.clear {s0 st : St} (h : Mid s0 st) : Mid s0 (clear st).1 := by
  unfold Mf.clear
  split
  · unfold Fs.remove
    split
    · exact h
    split
    · exact h.step
    · exact h.step.turned (fun p hp => by simp at hp; rw [hp])
  · exact h
/-- The draft's file is a new one. -/
structure Drafted (s0 st : St) (N : Nat) : Prop extends Mid s0 st where
  new : s0.files.length ≤ N ∧ N < st.files.length
  there : mhas st.dir draft = true ∧ mget st.dir draft = (N : Int)
  two : ∀ p ∈ st.dir, p.1 = final ∨ p.1 = draft
theorem create_mid {s0 st : St} (h : Mid s0 st) (h2 : ∀ p ∈ st.dir, p.1 = final ∨ p.1 = draft) : Mid s0 (create st draft).1 ∧ ((create st draft).2 = 0 → ∃ N, Drafted s0 (create st draft).1 N) := by
  unfold Fs.create
  split
  · exact ⟨h, fun e => by cases e⟩
  split
  · exact ⟨h, fun e => by cases e⟩
  split
  · exact ⟨h, fun e => by cases e⟩
  split
  · rename_i hx; exact ⟨h.step, fun e => absurd e hx⟩
  · obtain ⟨s, l, p, e⟩ := step_eq st
    rw [e]
    obtain ⟨ex, ef⟩ := h.files
    have hM : Mid s0 { st with steps := s, left := l, plan := p, files := st.files ++ [([], 0)], dir := mput st.dir draft st.files.length, changes := st.changes ++ [[(draft, (st.files.length : Int))]] } := by
      refine ⟨⟨ex ++ [([], 0)], by show st.files ++ _ = _; rw [ef, List.append_assoc]⟩, h.sure, fun x hx => ?_⟩
      rcases List.mem_append.1 hx with hx | hx
      · exact h.chg x hx
      · simp at hx; subst hx; intro p hp; simp at hp; rw [hp]
    refine ⟨hM, fun _ => ⟨st.files.length, hM, ?_, ?_, ?_⟩⟩
    · show s0.files.length ≤ st.files.length ∧ st.files.length < (st.files ++ [_]).length
      rw [ef]; simp
    · show mhas (mput st.dir draft st.files.length) draft = true ∧ mget (mput st.dir draft st.files.length) draft = _
      rw [mhas_mput, mget_mput, if_pos rfl, decide_eq_true rfl]
      exact ⟨rfl, rfl⟩
    · intro p hp
      rcases mput_mem.1 hp with rfl | ⟨hp, _⟩
      · exact .inr rfl
      · exact h2 p hp
theorem Drafted.idx {s0 st : St} {N : Nat} (h : Drafted s0 st N) : Fs.idx st draft = N := by unfold Fs.idx; rw [h.there.2]; rfl
theorem Drafted.open {s0 st : St} {N : Nat} (h : Drafted s0 st N) : openE st draft = 0 := openE_of good_draft h.there.1
theorem Drafted.step {s0 st : St} {N : Nat} (h : Drafted s0 st N) : Drafted s0 (Fs.step st).1 N := by
  have hm := h.toMid.step
  obtain ⟨s, l, p, e⟩ := step_eq st
  refine ⟨hm, ?_, ?_, ?_⟩ <;> rw [e]
  · exact h.new
  · exact h.there
  · exact h.two
theorem Drafted.set {s0 st : St} {N : Nat} (h : Drafted s0 st N) (f : List UInt8 × Nat) : Drafted s0 { st with files := st.files.set N f } N :=
  ⟨h.toMid.set h.new.1 f, ⟨h.new.1, by show N < (st.files.set N f).length; rw [List.length_set]; exact h.new.2⟩, h.there, h.two⟩
theorem Drafted.grow {s0 st : St} {N : Nat} (h : Drafted s0 st N) (b : List UInt8) : ∃ f, st.files[N]? = some f ∧ grow st.files N b = st.files.set N (f.1 ++ b, f.2) := by
  obtain ⟨f, hf⟩ : ∃ f, st.files[N]? = some f := ⟨_, List.getElem?_eq_getElem h.new.2⟩
  exact ⟨f, hf, by unfold Fs.grow; rw [hf]⟩
theorem append_mid {s0 st : St} {N : Nat} (h : Drafted s0 st N) (b : List UInt8) : Drafted s0 (append st draft b).1 N ∧ ((append st draft b).2 = 0 → (append st draft b).1.files[N]?.map (·.1) = (st.files[N]?).map fun f => f.1 ++ b) := by
  unfold Fs.append
  rw [h.open, h.idx, if_neg (by simp)]
  split
  · exact ⟨h, fun e => by cases e⟩
  obtain ⟨s, l, p, e⟩ := step_eq st
  split
  · rename_i hx
    refine ⟨?_, fun e => absurd ?_ hx⟩
    · split
      · have hs := h.step
        obtain ⟨f, _, hg⟩ := h.grow (b.take (min (min ((Fs.step st).2.1 - 3) b.length) (max 0 (st.room - used st))).toNat)
        rw [hg]
        have := hs.set (f.1 ++ b.take (min (min ((Fs.step st).2.1 - 3) b.length) (max 0 (st.room - used st))).toNat, f.2)
        rw [step_files] at this
        exact this
      · exact h.step
    · split at e <;> exact e
  split
  · exact ⟨h.step, fun e => by cases e⟩
  · obtain ⟨f, hf, hg⟩ := h.grow b
    rw [hg]
    have := h.step.set (f.1 ++ b, f.2)
    rw [step_files] at this
    refine ⟨this, fun _ => ?_⟩
    show ((st.files.set N (f.1 ++ b, f.2))[N]?).map _ = _
    rw [List.getElem?_set_self h.new.2, hf]
    rfl
theorem sync_mid {s0 st : St} {N : Nat} (h : Drafted s0 st N) : Drafted s0 (sync st draft).1 N ∧ ((sync st draft).2 = 0 → (sync st draft).1.files[N]? = (st.files[N]?).map fun f => (f.1, f.1.length)) := by
  unfold Fs.sync
  rw [h.open, h.idx, if_neg (by simp)]
  split
  · rename_i hx; exact ⟨h.step, fun e => absurd e hx⟩
  · obtain ⟨f, hf⟩ : ∃ f, st.files[N]? = some f := ⟨_, List.getElem?_eq_getElem h.new.2⟩
    have hg : flush st.files N = st.files.set N (f.1, f.1.length) := by unfold flush; rw [hf]
    rw [hg]
    have := h.step.set (f.1, f.1.length)
    rw [step_files] at this
    refine ⟨this, fun _ => ?_⟩
    show (st.files.set N (f.1, f.1.length))[N]? = _
    rw [List.getElem?_set_self h.new.2, hf]
    rfl
/-- The new manifest has its name, perhaps not surely. -/
structure Named (s0 st : St) (new : List UInt8) (N : Nat) : Prop where
  files : ∃ ex, st.files = s0.files ++ ex
  file : st.files[N]? = some (new, new.length)
  sure : st.sure = s0.dir
  chg : ∃ ch, st.changes = ch ++ [[(draft, -1), (final, (N : Int))]] ∧ ∀ l ∈ ch, ∀ p ∈ l, p.1 = draft
  dir : mhas st.dir final = true ∧ mget st.dir final = (N : Int)
  two : ∀ p ∈ st.dir, p.1 = final ∨ p.1 = draft
theorem rename_mid {s0 st : St} {N : Nat} (h : Drafted s0 st N) {new : List UInt8} (hf : st.files[N]? = some (new, new.length)) :
    ((rename st draft final).2 ≠ 0 → Mid s0 (rename st draft final).1) ∧ ((rename st draft final).2 = 0 → Named s0 (rename st draft final).1 new N) := by
  unfold Fs.rename
  rw [good_draft, good_final, h.there.1, if_neg (by simp), if_neg (by simp)]
  split
  · rename_i hx; exact ⟨fun _ => h.toMid.step, fun e => absurd e hx⟩
  · refine ⟨fun e => absurd rfl e, fun _ => ?_⟩
    obtain ⟨s, l, p, e⟩ := step_eq st
    rw [e]
    have hdir : doAll st.dir [(draft, -1), (final, mget st.dir draft)] = mput (mdel st.dir draft) final N := by
      show doOne (doOne st.dir (draft, -1)) (final, mget st.dir draft) = _
      have e1 : doOne st.dir (draft, -1) = mdel st.dir draft := by unfold doOne; exact if_pos (show (-1 : Int) < 0 by decide)
      rw [e1, h.there.2]
      unfold doOne
      rw [if_neg (show ¬ ((N : Nat) : Int) < 0 by omega)]
    refine ⟨h.files, hf, h.sure, ⟨st.changes, ?_, h.chg⟩, ?_, ?_⟩
    · show st.changes ++ [[(draft, -1), (final, mget st.dir draft)]] = _
      rw [h.there.2]
    · show mhas (doAll st.dir _) final = true ∧ mget (doAll st.dir _) final = _
      rw [hdir, mhas_mput, mget_mput, if_pos rfl, decide_eq_true rfl]
      exact ⟨rfl, rfl⟩
    · show ∀ p ∈ doAll st.dir _, _
      rw [hdir]
      intro p hp
      rcases mput_mem.1 hp with rfl | ⟨hp, _⟩
      · exact .inl rfl
      · exact h.two p (mdel_mem.1 hp).1
theorem Named.sw {s0 st : St} {cur : Option (List UInt8)} (hr : Round s0 cur) {new : List UInt8} {N : Nat} (h : Named s0 st new N) : Sw st cur new False := by
  intro j
  obtain ⟨ch, hch, hd⟩ := h.chg
  have hne : ∀ l ∈ ch, ∀ p ∈ l, p.1 ≠ final := fun l hl p hp e => by
    have := hd l hl p hp
    rw [e] at this
    exact absurd this (by decide)
  unfold crashDir
  rw [h.sure, hch]
  by_cases hj : j ≤ ch.length
  · rw [List.take_append_of_le_length hj]
    obtain ⟨h1, h2⟩ := dirs_other (ch.take j) s0.dir (fun l hl => hne l (List.mem_of_mem_take hl))
    rw [h1, h2]
    refine ⟨dirs_in (S := fun n => n = final ∨ n = draft) _ _ (fun l hl p hp => .inr (hd l (List.mem_of_mem_take hl) p hp)) hr.two, fun hh => ⟨hr.cur.1 hh, id⟩, fun hh => ?_⟩
    obtain ⟨b, k1, k2⟩ := known_files hr h.files hh
    exact ⟨b, k1, .inl ⟨k2, id⟩⟩
  · rw [List.take_of_length_le (by simp; omega), List.foldl_append]
    have hin := dirs_in (S := fun n => n = final ∨ n = draft) ch s0.dir (fun l hl p hp => .inr (hd l hl p hp)) hr.two
    generalize List.foldl doAll s0.dir ch = D at hin
    have e : List.foldl doAll D [[(draft, -1), (final, (N : Int))]] = mput (mdel D draft) final N := by
      show doOne (doOne D (draft, -1)) (final, (N : Int)) = _
      have e1 : doOne D (draft, -1) = mdel D draft := by unfold doOne; exact if_pos (show (-1 : Int) < 0 by decide)
      rw [e1]
      unfold doOne
      rw [if_neg (show ¬ ((N : Nat) : Int) < 0 by omega)]
    rw [e, mhas_mput, mget_mput, if_pos rfl, decide_eq_true rfl]
    refine ⟨fun p hp => ?_, fun hh => (by cases hh), fun _ => ⟨new, h.file, .inr rfl⟩⟩
    rcases mput_mem.1 hp with rfl | ⟨hp, _⟩
    · exact .inl rfl
    · exact hin p (mdel_mem.1 hp).1
theorem syncDir_sw {s0 st : St} {cur : Option (List UInt8)} (hr : Round s0 cur) {new : List UInt8} {N : Nat} (h : Named s0 st new N) : Sw (syncDir st).1 cur new ((syncDir st).2 = 0) := by
  unfold Fs.syncDir
  obtain ⟨s, l, p, e⟩ := step_eq st
  split
  · rename_i hx
    have h2 : Named s0 (Fs.step st).1 new N := by
      rw [e]
      exact ⟨h.files, h.file, h.sure, h.chg, h.dir, h.two⟩
    have := h2.sw hr
    intro j
    obtain ⟨a, b, c⟩ := this j
    exact ⟨a, fun hh => ⟨(b hh).1, hx⟩, fun hh => by obtain ⟨b, k1, k2⟩ := c hh; exact ⟨b, k1, k2.imp (fun q => ⟨q.1, hx⟩) id⟩⟩
  · intro j
    rw [e]
    have hd : crashDir { st with steps := s, left := l, plan := p, sure := st.dir, changes := [] } j = st.dir := by unfold crashDir; simp
    rw [hd, h.dir.1, h.dir.2]
    exact ⟨h.two, fun hh => (by cases hh), fun _ => ⟨new, h.file, .inr rfl⟩⟩
theorem Sw.fail {st : St} {cur : Option (List UInt8)} {new : List UInt8} {A : Prop} (h : Sw st cur new False) (hA : ¬ A) : Sw st cur new A := fun j => by
  obtain ⟨a, b, c⟩ := h j
  exact ⟨a, fun hh => ⟨(b hh).1, hA⟩, fun hh => by obtain ⟨b, k1, k2⟩ := c hh; exact ⟨b, k1, k2.imp (fun q => ⟨q.1, hA⟩) id⟩⟩
/-- A save, wherever it ends. -/
theorem save_sw {s0 : St} {cur : Option (List UInt8)} (hr : Round s0 cur) {v : Int} {l : List Int} (hg : good v l = true) (s1 : St) (hs1 : ∃ a b c, s1 = { s0 with steps := a, left := b, plan := c }) :
    Sw (save s1 v l).1 cur (enc v l) ((save s1 v l).2 = 0) := by
  have hs : save s1 v l = Fs.first (steps (enc v l)) s1 := by unfold save; rw [if_neg (by rw [hg]; simp)]
  rw [hs]
  clear hs
  have hm0 : Mid s0 s1 := by
    obtain ⟨a, b, c, e⟩ := hs1
    rw [e]
    exact ⟨⟨[], by simp⟩, hr.sure, fun l hl => by rw [hr.chg] at hl; cases hl⟩
  have ht0 : ∀ p ∈ s1.dir, p.1 = final ∨ p.1 = draft := by
    obtain ⟨a, b, c, e⟩ := hs1
    rw [e]; exact hr.two
  unfold steps
  rw [first]
  by_cases h1 : (clear s1).2 = 0
  rotate_left
  · rw [if_pos h1]
    exact (hm0.clear.sw hr _).fail h1
  rw [if_neg (by simp [h1])]
  have hm1 := hm0.clear
  have ht1 : ∀ p ∈ (clear s1).1.dir, p.1 = final ∨ p.1 = draft := by
    unfold clear
    split
    · unfold Fs.remove
      split
      · exact ht0
      obtain ⟨a, b, c, e⟩ := step_eq s1
      split
      · rw [e]; exact ht0
      · rw [e]
        show ∀ p ∈ doAll s1.dir [(draft, -1)], _
        exact doAll_in (S := fun n => n = final ∨ n = draft) _ _ (fun p hp => by simp at hp; rw [hp]; exact .inr rfl) ht0
    · exact ht0
  generalize (clear s1).1 = s2 at *
  rw [first]
  obtain ⟨hm2, hd2⟩ := create_mid hm1 ht1
  by_cases h2 : (create s2 draft).2 = 0
  rotate_left
  · rw [if_pos h2]
    exact (hm2.sw hr _).fail h2
  rw [if_neg (by simp [h2])]
  have hnew : (create s2 draft).1.files[s2.files.length]? = some ([], 0) ∧ Drafted s0 (create s2 draft).1 s2.files.length := by
    obtain ⟨N, hN⟩ := hd2 h2
    have hc : (create s2 draft).1.files = s2.files ++ [([], 0)] ∧ (create s2 draft).1.dir = mput s2.dir draft s2.files.length := by
      unfold Fs.create at h2 ⊢
      split at h2
      · cases h2
      split at h2
      · cases h2
      split at h2
      · cases h2
      split at h2
      · rename_i hx; exact absurd h2 hx
      rename_i a b c d
      rw [if_neg a, if_neg b, if_neg c, if_neg d]
      exact ⟨rfl, rfl⟩
    have hNe : N = s2.files.length := by
      have := hN.there.2
      rw [hc.2, mget_mput, if_pos rfl] at this
      omega
    subst hNe
    exact ⟨by rw [hc.1]; simp, hN⟩
  generalize hs3 : (create s2 draft).1 = s3 at *
  generalize s2.files.length = N at *
  obtain ⟨hf3, hd3⟩ := hnew
  rw [first]
  obtain ⟨hd4, hf4⟩ := append_mid hd3 (enc v l)
  by_cases h3 : (append s3 draft (enc v l)).2 = 0
  rotate_left
  · rw [if_pos h3]
    exact (hd4.toMid.sw hr _).fail h3
  rw [if_neg (by simp [h3])]
  have hf4 := hf4 h3
  generalize (append s3 draft (enc v l)).1 = s4 at *
  rw [hf3] at hf4
  rw [first]
  obtain ⟨hd5, hf5⟩ := sync_mid hd4
  by_cases h4 : (sync s4 draft).2 = 0
  rotate_left
  · rw [if_pos h4]
    exact (hd5.toMid.sw hr _).fail h4
  rw [if_neg (by simp [h4])]
  have hf5 := hf5 h4
  generalize (sync s4 draft).1 = s5 at *
  have hf6 : s5.files[N]? = some (enc v l, (enc v l).length) := by
    rw [hf5]
    cases hx : s4.files[N]? with
    | none => rw [hx] at hf4; cases hf4
    | some f =>
      rw [hx] at hf4
      have e : f.1 = enc v l := by simpa using hf4
      show some (f.1, f.1.length) = _
      rw [e]
  rw [first]
  obtain ⟨hm7, hn7⟩ := rename_mid hd5 hf6
  by_cases h5 : (rename s5 draft final).2 = 0
  rotate_left
  · rw [if_pos h5]
    exact ((hm7 h5).sw hr _).fail h5
  rw [if_neg (by simp [h5])]
  have hn7 := hn7 h5
  generalize (rename s5 draft final).1 = s6 at *
  rw [first]
  by_cases h6 : (syncDir s6).2 = 0
  rotate_left
  · rw [if_pos h6]
    exact syncDir_sw hr hn7
  rw [if_neg (by simp [h6]), first]
  have := syncDir_sw hr hn7
  rw [h6] at this
  exact this
/-- Behind the crash. -/
theorem crash_round {st : St} {k : Nat} (hs : Sound st k) {cur : Option (List UInt8)} {new : List UInt8} {A : Prop} (h : Sw st cur new A) (dirs : Int) (tails : List Int) :
    ∃ cur', Round (crash st dirs tails) cur' ∧ ((cur' = cur ∧ ¬ A) ∨ cur' = some new) := by
  obtain ⟨a1, a2, a3⟩ := h (dirsOf st dirs)
  obtain ⟨b1, b2, _⟩ := hs.crashDir (dirsOf st dirs)
  obtain ⟨c1, c2, c3, c4, c5, c6, c7⟩ := crash_look (st := st) (dirs := dirs) (tails := tails) b2 (fun p hp => (b1 p hp).2)
  have hso := hs.crash dirs tails
  have hlen : (crashDir st (dirsOf st dirs)).length ≤ 2 := by
    have key : ∀ (D : Names), (∀ p ∈ D, p.1 = final ∨ p.1 = draft) → D.Pairwise (fun p q => p.1 ≠ q.1) → D.length ≤ 2 := by
      intro D hD hP
      match D, hP with
      | [], _ => simp
      | [a], _ => simp
      | [a, b], _ => simp
      | a :: b :: c :: r, hP =>
        exfalso
        simp only [List.pairwise_cons, List.mem_cons] at hP
        have h1 := hP.1 b (.inl rfl)
        have h2 := hP.1 c (.inr (.inl rfl))
        have h3 := hP.2.1 c (.inl rfl)
        rcases hD a (by simp) with e1 | e1 <;> rcases hD b (by simp) with e2 | e2 <;> rcases hD c (by simp) with e3 | e3 <;> simp_all
    exact key _ a1 b2
  have hdm : ∀ n, mhas (crash st dirs tails).dir n = mhas (crashDir st (dirsOf st dirs)) n := fun n => by
    have := c7 n
    cases h1 : mhas (crash st dirs tails).dir n <;> cases h2 : mhas (crashDir st (dirsOf st dirs)) n <;> rw [h2] at this <;> unfold Fs.look at this <;> rw [h1] at this <;> simp at this <;> rfl
  have htwo : ∀ p ∈ (crash st dirs tails).dir, p.1 = final ∨ p.1 = draft := fun p hp => by
    have h1 := hdm p.1
    rw [mhas_mem.2 ⟨p, hp, rfl⟩] at h1
    obtain ⟨q, hq, e⟩ := mhas_mem.1 h1.symm
    rw [← e]; exact a1 q hq
  generalize hD : crashDir st (dirsOf st dirs) = D at *
  cases hh : mhas D final
  · obtain ⟨e1, e2⟩ := a2 hh
    exact ⟨none, ⟨hso.mono hlen, rfl, rfl, c5, htwo, fun _ => rfl, fun x => (by rw [hdm, hh] at x; cases x)⟩, .inl ⟨e1.symm, e2⟩⟩
  · obtain ⟨b, e1, e2⟩ := a3 hh
    have hl := c7 final
    rw [hh, if_pos rfl] at hl
    obtain ⟨g1, g2⟩ := look_some hl
    obtain ⟨f, f1, f2, _⟩ := c2.idx g1
    have hb : cutOf st D tails final = b := by
      unfold cutOf
      rw [e1]
      exact cut_full rfl _
    have hf : f = (b, b.length) := by
      have := c5 f (List.mem_of_getElem? f1)
      have e : f.1 = b := by rw [← f2, g2, hb]
      exact Prod.ext e (by rw [this, e])
    refine ⟨some b, ⟨hso.mono hlen, rfl, rfl, c5, htwo, fun x => (by rw [g1] at x; cases x), fun _ => ⟨b, ?_, rfl⟩⟩, ?_⟩
    · rw [← hf]; exact f1
    · rcases e2 with ⟨e2, e3⟩ | e2
      · exact .inl ⟨e2.symm, e3⟩
      · exact .inr (by rw [e2])
theorem Round.new {room : Int} (h : 0 ≤ room ∧ room ≤ 1048576) : Round (Fs.new room) none :=
  ⟨Sound.new h 2, rfl, rfl, fun f hf => by (cases hf), fun p hp => by (cases hp), fun _ => rfl, fun x => (by cases x)⟩
theorem Round.load {st : St} {cur : Option (List UInt8)} (h : Round st cur) : (cur = none → load st = ((0, []), 3)) ∧ (∀ v l, good v l = true → cur = some (enc v l) → load st = ((v, l), 0)) := by
  constructor
  · intro hc
    have h1 : mhas st.dir final = false := by
      cases hx : mhas st.dir final
      · rfl
      · obtain ⟨b, _, e⟩ := h.cur.2 hx; rw [hc] at e; cases e
    exact load_none (by unfold Fs.look; rw [h1]; rfl)
  · intro v l hg hc
    have h1 : mhas st.dir final = true := by
      cases hx : mhas st.dir final
      · have := h.cur.1 hx; rw [hc] at this; cases this
      · rfl
    obtain ⟨b, e1, e2⟩ := h.cur.2 h1
    refine load_look hg ?_
    have hb : b = enc v l := by rw [hc] at e2; exact (Option.some.inj e2).symm
    unfold Fs.look
    rw [if_pos h1]
    unfold fileAt Fs.idx
    rw [e1, hb]
end Mf
end Go.Proofs.YtcinagglbkbmkaaGreatDoor
