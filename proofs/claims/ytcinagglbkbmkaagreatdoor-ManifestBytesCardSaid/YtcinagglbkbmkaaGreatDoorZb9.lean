/-
  Frames and segments: what is read of what was written (no program in sight). The file system as names and their bytes, in calm weather (plain). Manifests: what is good, its bytes, and that both ways of reading them are one (plain). Manifests: numbers in memory; Check, walked.
-/
import Derived.Test.YtcinagglbkbmkaaGreatDoorZb8
import Derived.Test.YtcinagglbkbmkaaGreatDoorZb6
import Derived.Lib.Join
namespace Go.Proofs.YtcinagglbkbmkaaGreatDoor
set_option linter.unusedSimpArgs false
set_option linter.unusedVariables false
open Go Go.RowKit

namespace Fr
theorem sum_bounds (l : List UInt8) : 0 ≤ sum l ∧ sum l < 4294967296 := bits_u32 _ _ _
theorem four_app (n : Int) (r : List UInt8) : (four n ++ r).length = 4 + r.length := by rw [List.length_append]; rfl
theorem num_bytes {k : Int} {p : List UInt8} (hp : p.length ≤ 8192) (r : List UInt8) : num (bytes k p ++ r) = p.length := by
  have := num_four (p.length : Int) (by omega) (by omega) ((inner k p ++ four (sum (inner k p))) ++ r)
  unfold bytes
  rw [List.append_assoc]
  omega
theorem bytes_take {k : Int} {p : List UInt8} (r : List UInt8) : (bytes k p ++ r).take (9 + p.length) = bytes k p := by
  have h : 9 + p.length = (bytes k p).length := by rw [bytes_len]; omega
  rw [h, List.take_left]
theorem bytes_drop {k : Int} {p : List UInt8} (r : List UInt8) : (bytes k p ++ r).drop (9 + p.length) = r := by
  have h : 9 + p.length = (bytes k p).length := by rw [bytes_len]; omega
  rw [h, List.drop_left]
theorem kind_bytes {k : Int} {p : List UInt8} (hk : 1 ≤ k ∧ k ≤ 9) : kind (bytes k p) = k := by
  unfold kind
  have : (bytes k p).getD 4 0 = byte k := rfl
  rw [this, byte_val]
  omega
theorem pay_bytes {k : Int} {p : List UInt8} : pay (bytes k p) = p := by
  unfold pay
  rw [bytes_len, show p.length + 9 - 9 = p.length by omega]
  have : (bytes k p).drop 5 = p ++ four (sum (inner k p)) := rfl
  rw [this, List.take_left]
theorem body_bytes {k : Int} {p : List UInt8} : body (bytes k p) = inner k p := by
  unfold body
  rw [bytes_len, show p.length + 9 - 8 = (inner k p).length by unfold inner; simp]
  have : (bytes k p).drop 4 = inner k p ++ four (sum (inner k p)) := rfl
  rw [this, List.take_left]
theorem tail_bytes {k : Int} {p : List UInt8} : (bytes k p).drop ((bytes k p).length - 4) = four (sum (inner k p)) := by
  rw [bytes_len, show p.length + 9 - 4 = (four (p.length : Int) ++ inner k p).length by rw [four_app]; unfold inner; simp; omega]
  unfold bytes
  rw [← List.append_assoc, List.drop_left]
/-- What is encoded is decoded. -/
theorem dec_bytes {k : Int} {p : List UInt8} (h : encE k p = 0) : decE (bytes k p) = 0 ∧ (1 ≤ k ∧ k ≤ 9) ∧ p.length ≤ 8192 := by
  unfold encE at h
  by_cases h1 : k < 1 ∨ 9 < k
  · rw [if_pos h1] at h; cases h
  · rw [if_neg h1] at h
    by_cases h2 : 8192 < p.length
    · rw [if_pos h2] at h; cases h
    · have hk : 1 ≤ k ∧ k ≤ 9 := by omega
      have hp : p.length ≤ 8192 := by omega
      refine ⟨?_, hk, hp⟩
      have hn := num_bytes (k := k) hp []
      rw [List.append_nil] at hn
      have hs := sum_bounds (inner k p)
      have hnf := num_four (sum (inner k p)) hs.1 hs.2 []
      rw [List.append_nil] at hnf
      unfold decE
      rw [hn, kind_bytes hk, body_bytes, tail_bytes, hnf, bytes_len, if_neg (by omega), if_neg (by omega), if_neg (by simp)]
theorem go_frame {k : Int} {p : List UInt8} (h : encE k p = 0) (r : List UInt8) : stop (bytes k p ++ r) = false ∧ first (bytes k p ++ r) = (k, p) ∧ (bytes k p ++ r).drop (9 + num (bytes k p ++ r)) = r ∧ 9 + num (bytes k p ++ r) = (bytes k p).length := by
  obtain ⟨h1, h2, h3⟩ := dec_bytes h
  have hn := num_bytes (k := k) h3 r
  refine ⟨?_, ?_, ?_, ?_⟩
  · unfold stop
    rw [hn, bytes_take, h1, List.length_append, bytes_len]
    simp
    omega
  · unfold first
    rw [hn, bytes_take, kind_bytes h2, pay_bytes]
  · rw [hn, bytes_drop]
  · rw [hn, bytes_len]; omega
/-- Frames behind one another. -/
def flat (fs : List F) : List UInt8 := fs.flatMap fun f => bytes f.1 f.2
theorem flat_app (a b : List F) : flat (a ++ b) = flat a ++ flat b := List.flatMap_append ..
theorem flat_one (f : F) : flat [f] = bytes f.1 f.2 := by simp [flat]
theorem scanGo_flat (t : List UInt8) (ht : stop t = true) : ∀ (fs : List F) (k : Nat) (out : List F) (a : Nat), (∀ f ∈ fs, encE f.1 f.2 = 0) → fs.length < k →
    scanGo k (flat fs ++ t) out a = (out ++ fs, a + (flat fs).length)
  | [], k, out, a, _, hk => by
    obtain ⟨k', rfl⟩ : ∃ k', k = k' + 1 := ⟨k - 1, by simp at hk; omega⟩
    show (if stop ([] ++ t) then _ else _) = _
    rw [List.nil_append, if_pos ht]
    simp [flat]
  | f :: fs, k, out, a, hf, hk => by
    obtain ⟨k', rfl⟩ : ∃ k', k = k' + 1 := ⟨k - 1, by simp at hk; omega⟩
    have hfl : flat (f :: fs) = bytes f.1 f.2 ++ flat fs := by simp [flat]
    obtain ⟨h1, h2, h3, h4⟩ := go_frame (hf f List.mem_cons_self) (flat fs ++ t)
    rw [hfl, List.append_assoc]
    unfold scanGo
    rw [if_neg (by rw [h1]; simp), h2, h3, h4, scanGo_flat t ht fs k' (out ++ [(f.1, f.2)]) _ (fun g hg => hf g (List.mem_cons_of_mem _ hg)) (by simp at hk; omega), List.append_assoc, List.length_append, Nat.add_assoc]
    rfl
theorem flat_len (fs : List F) : fs.length ≤ (flat fs).length := by
  induction fs with
  | nil => simp
  | cons f fs ih =>
    have hfl : flat (f :: fs) = bytes f.1 f.2 ++ flat fs := by simp [flat]
    rw [hfl, List.length_append, bytes_len, List.length_cons]
    omega
theorem scan_flat (t : List UInt8) (ht : stop t = true) (fs : List F) (hf : ∀ f ∈ fs, encE f.1 f.2 = 0) : scan (flat fs ++ t) = (fs, (flat fs).length) := by
  unfold scan
  rw [scanGo_flat t ht fs _ [] 0 hf (by have := flat_len fs; rw [List.length_append]; omega)]
  simp
theorem stop_nil : stop [] = true := rfl
end Fr

namespace Sg
theorem good_name {id : Int} (h : nameE id = 0) : Fs.good (nameB id) = true := by
  obtain ⟨h1, h2, h3⟩ := name_of h
  obtain ⟨_, hd⟩ := dval_dec id.toNat 0
  have hl := nameB_len id
  have hlen : (nameB id).length ≤ 20 := by
    have hr := (id_name h).2
    have hne : refId (nameB id) ≠ 0 := by rw [hr]; omega
    unfold refId at hne
    by_cases hc : (nameB id).length < 5 ∨ 14 < (nameB id).length ∨ (nameB id).take 4 ≠ seg
    · rw [if_pos hc] at hne; exact absurd rfl hne
    · omega
  unfold Fs.good
  rw [h3] at hlen ⊢
  have hall : (seg ++ Lib.decDigits id.toNat).all Fs.goodB = true := by
    rw [List.all_append, Bool.and_eq_true]
    refine ⟨by decide, List.all_eq_true.2 fun c hc => ?_⟩
    have := List.all_eq_true.1 hd c hc
    unfold isDig at this
    simp only [Bool.and_eq_true, decide_eq_true_eq] at this
    unfold Fs.goodB
    simp [this.1, this.2]
  rw [hall, decide_eq_true (p := 1 ≤ (seg ++ Lib.decDigits id.toNat).length) (by rw [List.length_append]; show 1 ≤ 4 + _; omega), decide_eq_true hlen]
  rfl
theorem name_inj {a b : Int} (ha : nameE a = 0) (hb : nameE b = 0) (h : nameB a = nameB b) : a = b := by
  have h1 := (id_name ha).1
  have h2 := (id_name hb).1
  rw [h] at h1
  omega

/-- Segments: their ids, their frames. -/
abbrev Seg := Int × List Fr.F
def segs (l : List Seg) : Fs.Segs := l.map fun s => (nameB s.1, Fr.flat s.2)
structure RepS (st : Fs.St) (l : List Seg) : Prop where
  rep : Fs.Rep st (segs l)
  ok : ∀ s ∈ l, nameE s.1 = 0
  enc : ∀ s ∈ l, ∀ f ∈ s.2, Fr.encE f.1 f.2 = 0
def size (l : List Seg) : Nat := (l.map fun s => (Fr.flat s.2).length).sum
theorem segs_size (l : List Seg) : ((segs l).map (·.2.length)).sum = size l := by
  unfold segs size
  rw [List.map_map]
  rfl
theorem seg_at {l : List Seg} {i : Nat} {s : Seg} (h : l[i]? = some s) : (segs l)[i]? = some (nameB s.1, Fr.flat s.2) := by
  unfold segs
  rw [List.getElem?_map, h]
  rfl
section
variable {st : Fs.St} {l : List Seg}
theorem RepS.create (h : RepS st l) {id : Int} (hid : nameE id = 0) (hn : ∀ s ∈ l, s.1 ≠ id) (hl : l.length < 64) :
    (Sg.create st id).2 = 0 ∧ RepS (Sg.create st id).1 (l ++ [(id, [])]) ∧ (Sg.create st id).1.room = st.room ∧ (Sg.create st id).1.changes = [] := by
  obtain ⟨h1, h2, h3, _⟩ := h.rep.create (good_name hid) (fun s hs e => by
    unfold segs at hs
    obtain ⟨t, ht, rfl⟩ := List.mem_map.1 hs
    exact hn t ht (name_inj (h.ok t ht) hid e)) (by unfold segs; simpa using hl)
  obtain ⟨h5, h6, h7, h8⟩ := h2.syncDir
  have he : Sg.create st id = Fs.syncDir (Fs.create st (nameB id)).1 := by
    unfold Sg.create
    rw [if_neg (by rw [hid]; simp), if_neg (by rw [h1]; simp)]
  rw [he]
  refine ⟨h5, ⟨?_, fun s hs => ?_, fun s hs => ?_⟩, h7.trans h3, h8⟩
  · have : segs (l ++ [(id, [])]) = segs l ++ [(nameB id, [])] := by unfold segs; rw [List.map_append]; rfl
    rw [this]
    exact h6
  · rcases List.mem_append.1 hs with hs | hs
    · exact h.ok s hs
    · simp at hs; subst hs; exact hid
  · rcases List.mem_append.1 hs with hs | hs
    · exact h.enc s hs
    · simp at hs; subst hs; intro f hf; simp at hf
theorem RepS.append (h : RepS st l) {i : Nat} {s : Seg} (hi : l[i]? = some s) {k : Int} {p : List UInt8} (hk : Fr.encE k p = 0) (hb : (Fr.flat s.2).length + (p.length + 9) ≤ 65536) (hr : (size l : Int) + (p.length + 9 : Nat) ≤ st.room) :
    (Sg.append st s.1 k p).2 = 0 ∧ RepS (Sg.append st s.1 k p).1 (l.set i (s.1, s.2 ++ [(k, p)])) ∧ (Sg.append st s.1 k p).1.room = st.room ∧ (Sg.append st s.1 k p).1.changes = st.changes := by
  have hid := h.ok s (List.mem_of_getElem? hi)
  have hg := good_name hid
  obtain ⟨h1, h2, h3, h4⟩ := h.rep.append (s := (nameB s.1, Fr.flat s.2)) (seg_at hi) hg (Fr.bytes k p) (by rw [Fr.bytes_len]; exact hb) (by rw [segs_size, Fr.bytes_len]; exact hr)
  have hlt : i < (segs l).length := (List.getElem?_eq_some_iff.1 (seg_at hi)).1
  obtain ⟨h5, h6, h7, h8⟩ := h2.sync (i := i) (s := (nameB s.1, Fr.flat s.2 ++ Fr.bytes k p)) (List.getElem?_set_self hlt) hg
  have he : Sg.append st s.1 k p = Fs.sync (Fs.append st (nameB s.1) (Fr.bytes k p)).1 (nameB s.1) := by
    unfold Sg.append
    rw [if_neg (by rw [hid]; simp), if_neg (by rw [hk]; simp), if_neg (by rw [h1]; simp)]
  rw [he]
  refine ⟨h5, ⟨?_, fun t ht => ?_, fun t ht => ?_⟩, h7.trans h3, h8.trans h4⟩
  · have : segs (l.set i (s.1, s.2 ++ [(k, p)])) = (segs l).set i (nameB s.1, Fr.flat s.2 ++ Fr.bytes k p) := by
      unfold segs
      rw [List.map_set, Fr.flat_app, Fr.flat_one]
    rw [this]
    exact h6
  · rcases List.mem_or_eq_of_mem_set ht with ht | rfl
    · exact h.ok t ht
    · exact hid
  · rcases List.mem_or_eq_of_mem_set ht with ht | rfl
    · exact h.enc t ht
    · intro f hf
      rcases List.mem_append.1 hf with hf | hf
      · exact h.enc s (List.mem_of_getElem? hi) f hf
      · simp at hf; subst hf; exact hk
/-- All segments, in their order. -/
theorem read_go (hS : ∀ s ∈ l, Fs.openE st (nameB s.1) = 0) (hF : ∀ s ∈ l, Fr.scan (Fs.fileAt st (nameB s.1)) = (s.2, (Fs.fileAt st (nameB s.1)).length)) :
    ∀ (out : List En), readGo st (l.map (·.1)) out true = (out ++ l.flatMap (fun s => s.2.map fun f => (s.1, f)), true, 0) := by
  induction l with
  | nil => intro out; simp [readGo]
  | cons s l ih =>
    intro out
    rw [List.map_cons, readGo_cons, if_neg (by rw [hS s List.mem_cons_self]; simp), hF s List.mem_cons_self]
    simp only [decide_true]
    rw [ih (fun t ht => hS t (List.mem_cons_of_mem _ ht)) (fun t ht => hF t (List.mem_cons_of_mem _ ht)), List.append_assoc, List.flatMap_cons]
theorem bad_none : ∀ (l : List Seg), (∀ s ∈ l, nameE s.1 = 0) → badE (l.map (·.1)) = 0
  | [], _ => rfl
  | s :: l, h => by
    rw [List.map_cons, badE_cons, if_neg (by rw [h s List.mem_cons_self]; simp)]
    exact bad_none l (fun t ht => h t (List.mem_cons_of_mem _ ht))
theorem RepS.read (h : RepS st l) : Sg.read st (l.map (·.1)) = (l.flatMap (fun s => s.2.map fun f => (s.1, f)), true, 0) := by
  unfold Sg.read
  rw [if_neg (by rw [bad_none l h.ok]; simp), read_go (l := l)]
  · rfl
  · intro s hs
    obtain ⟨i, hi⟩ := List.getElem?_of_mem hs
    exact (h.rep.at (seg_at hi)).2.2 (good_name (h.ok s hs))
  · intro s hs
    obtain ⟨i, hi⟩ := List.getElem?_of_mem hs
    have := (h.rep.at (seg_at hi)).2.1
    show Fr.scan (Fs.fileAt st (nameB s.1)) = (s.2, (Fs.fileAt st (nameB s.1)).length)
    rw [show Fs.fileAt st (nameB s.1) = Fr.flat s.2 from this]
    have h2 := Fr.scan_flat [] Fr.stop_nil s.2 (h.enc s hs)
    rwa [List.append_nil] at h2
end
end Sg
end Go.Proofs.YtcinagglbkbmkaaGreatDoor
namespace Go.Proofs.YtcinagglbkbmkaaGreatDoor
set_option linter.unusedSimpArgs false
set_option linter.unusedVariables false
open Go Go.RowKit
namespace Fs
theorem find_mins (x : List UInt8 × Int) (n : List UInt8) : ∀ l : Names, mhas l x.1 = false → (mins x l).find? (fun p => p.1 == n) = if x.1 = n then some x else l.find? (fun p => p.1 == n)
  | [], _ => by
    unfold mins
    by_cases h : x.1 = n
    · rw [if_pos h, List.find?_cons_of_pos (by simpa using h)]
    · rw [if_neg h, List.find?_cons_of_neg (by simpa using h)]
  | y :: r, hh => by
    have hh2 : mhas r x.1 = false := by unfold mhas at hh ⊢; rw [List.any_cons, Bool.or_eq_false_iff] at hh; exact hh.2
    have hy : y.1 ≠ x.1 := by unfold mhas at hh; rw [List.any_cons, Bool.or_eq_false_iff] at hh; simpa using hh.1
    unfold mins
    split
    · by_cases h : x.1 = n
      · rw [if_pos h, List.find?_cons_of_pos (by simpa using h)]
      · rw [if_neg h, List.find?_cons_of_neg (by simpa using h)]
    · by_cases h : y.1 = n
      · rw [List.find?_cons_of_pos (by simpa using h), if_neg (fun e => hy (by rw [h, e])), List.find?_cons_of_pos (by simpa using h)]
      · rw [List.find?_cons_of_neg (by simpa using h), find_mins x n r hh2, List.find?_cons_of_neg (by simpa using h)]
theorem mhas_find (l : Names) (n : List UInt8) : mhas l n = (l.find? (fun p => p.1 == n)).isSome := by
  unfold mhas
  rw [Bool.eq_iff_iff, List.any_eq_true]
  constructor
  · rintro ⟨p, h1, h2⟩; rw [List.find?_isSome]; exact ⟨p, h1, h2⟩
  · intro h; rw [List.find?_isSome] at h; obtain ⟨p, h1, h2⟩ := h; exact ⟨p, h1, h2⟩
theorem mdel_find (l : Names) (k n : List UInt8) : (mdel l k).find? (fun p => p.1 == n) = if n = k then none else l.find? (fun p => p.1 == n) := by
  unfold mdel
  induction l with
  | nil => simp
  | cons y r ih =>
    by_cases hk : y.1 = k
    · rw [List.filter_cons_of_neg (by simp [hk]), ih]
      by_cases h : n = k
      · rw [if_pos h, if_pos h]
      · rw [if_neg h, if_neg h, List.find?_cons_of_neg (by simp [hk]; exact fun e => h e.symm)]
    · rw [List.filter_cons_of_pos (by simp [hk])]
      by_cases h : y.1 = n
      · rw [List.find?_cons_of_pos (by simpa using h), if_neg (fun e => hk (h.trans e)), List.find?_cons_of_pos (by simpa using h)]
      · rw [List.find?_cons_of_neg (by simpa using h), ih, List.find?_cons_of_neg (by simpa using h)]
theorem mdel_hasnt (l : Names) (k : List UInt8) : mhas (mdel l k) k = false := by rw [mhas_find, mdel_find, if_pos rfl]; rfl
theorem mput_find (l : Names) (k n : List UInt8) (v : Int) : (mput l k v).find? (fun p => p.1 == n) = if k = n then some (k, v) else l.find? (fun p => p.1 == n) := by
  unfold mput
  rw [find_mins (k, v) n _ (mdel_hasnt l k)]
  by_cases h : k = n
  · rw [if_pos h, if_pos h]
  · rw [if_neg h, if_neg h, mdel_find, if_neg (fun e => h e.symm)]
theorem mhas_mput (l : Names) (k n : List UInt8) (v : Int) : mhas (mput l k v) n = (decide (k = n) || mhas l n) := by
  rw [mhas_find, mput_find, mhas_find]
  by_cases h : k = n
  · rw [if_pos h, decide_eq_true h]; rfl
  · rw [if_neg h, decide_eq_false h]; rfl
theorem mhas_mdel (l : Names) (k n : List UInt8) : mhas (mdel l k) n = (!decide (n = k) && mhas l n) := by
  rw [mhas_find, mdel_find, mhas_find]
  by_cases h : n = k
  · rw [if_pos h, decide_eq_true h]; rfl
  · rw [if_neg h, decide_eq_false h]; rfl
theorem mget_mput (l : Names) (k n : List UInt8) (v : Int) : mget (mput l k v) n = if k = n then v else mget l n := by
  unfold mget
  rw [mput_find]
  by_cases h : k = n
  · rw [if_pos h, if_pos h]
  · rw [if_neg h, if_neg h]
theorem mget_mdel (l : Names) (k n : List UInt8) (h : n ≠ k) : mget (mdel l k) n = mget l n := by
  unfold mget
  rw [mdel_find, if_neg h]
theorem mput_perm (l : Names) (k : List UInt8) (v : Int) : (mput l k v).Perm ((k, v) :: mdel l k) := mem_mins _ _
theorem mdel_mem {l : Names} {k : List UInt8} {p : List UInt8 × Int} : p ∈ mdel l k ↔ p ∈ l ∧ p.1 ≠ k := by
  unfold mdel
  rw [List.mem_filter]
  simp
theorem mput_mem {l : Names} {k : List UInt8} {v : Int} {p : List UInt8 × Int} : p ∈ mput l k v ↔ p = (k, v) ∨ (p ∈ l ∧ p.1 ≠ k) := by
  rw [(mput_perm l k v).mem_iff, List.mem_cons, mdel_mem]
theorem mhas_mem {l : Names} {k : List UInt8} : mhas l k = true ↔ ∃ p ∈ l, p.1 = k := by
  unfold mhas
  rw [List.any_eq_true]
  constructor
  · rintro ⟨p, h1, h2⟩; exact ⟨p, h1, by simpa using h2⟩
  · rintro ⟨p, h1, h2⟩; exact ⟨p, h1, by simpa using h2⟩
theorem mdel_len_has : ∀ {l : Names} {k : List UInt8}, mhas l k = true → (mdel l k).length + 1 ≤ l.length
  | [], k, h => by cases h
  | y :: r, k, h => by
    by_cases hy : y.1 = k
    · have := List.length_filter_le (fun p : List UInt8 × Int => !(p.1 == k)) r
      unfold mdel
      rw [List.filter_cons_of_neg (by simp [hy]), List.length_cons]
      omega
    · have hr : mhas r k = true := by
        unfold mhas at h ⊢
        rw [List.any_cons] at h
        simpa [hy] using h
      have := mdel_len_has hr
      unfold mdel at this ⊢
      rw [List.filter_cons_of_pos (by simp [hy]), List.length_cons, List.length_cons]
      omega
theorem mput_len2 (l : Names) (k : List UInt8) (v : Int) : (mput l k v).length = (mdel l k).length + 1 := mins_len _ _

/-- Names differ, files differ, each stands. -/
structure Inv (st : St) : Prop where
  nd : st.dir.Pairwise (fun p q => p.1 ≠ q.1)
  inj : ∀ p ∈ st.dir, ∀ q ∈ st.dir, p.2 = q.2 → p.1 = q.1
  known : ∀ p ∈ st.dir, 0 ≤ p.2 ∧ p.2 < st.files.length
  gd : ∀ p ∈ st.dir, good p.1 = true
/-- What a name's file holds. -/
def look (st : St) (n : List UInt8) : Option (List UInt8) := if mhas st.dir n then some (fileAt st n) else none
theorem pw_mdel {l : Names} {k : List UInt8} (h : l.Pairwise (fun p q => p.1 ≠ q.1)) : (mdel l k).Pairwise (fun p q => p.1 ≠ q.1) := h.sublist List.filter_sublist
theorem pw_mput {l : Names} {k : List UInt8} {v : Int} (h : l.Pairwise (fun p q => p.1 ≠ q.1)) : (mput l k v).Pairwise (fun p q => p.1 ≠ q.1) := by
  refine ((mput_perm l k v).pairwise_iff (fun {a b} h => h.symm)).2 ?_
  rw [List.pairwise_cons]
  exact ⟨fun p hp => (mdel_mem.1 hp).2.symm, pw_mdel h⟩
theorem look_some {st : St} {n b : List UInt8} (h : look st n = some b) : mhas st.dir n = true ∧ fileAt st n = b := by
  unfold look at h
  split at h
  · rename_i h2; exact ⟨h2, by simpa using h⟩
  · cases h
theorem look_none {st : St} {n : List UInt8} (h : look st n = none) : mhas st.dir n = false := by
  unfold look at h
  split at h
  · cases h
  · rename_i h2; simpa using h2
theorem Inv.new (room : Int) : Inv (new room) := ⟨List.Pairwise.nil, fun p hp => (by cases hp), fun p hp => (by cases hp), fun p hp => (by cases hp)⟩
theorem look_new (room : Int) (n : List UInt8) : look (new room) n = none := rfl
theorem Inv.idx {st : St} (h : Inv st) {n : List UInt8} (hn : mhas st.dir n = true) : ∃ f, st.files[Fs.idx st n]? = some f ∧ fileAt st n = f.1 ∧ (n, ((Fs.idx st n : Nat) : Int)) ∈ st.dir := by
  obtain ⟨p, h1, h2, h3⟩ := mget_mem hn
  have hk := h.known p h1
  have e : Fs.idx st n = p.2.toNat := by unfold Fs.idx; rw [h3]
  have hlt : Fs.idx st n < st.files.length := by omega
  refine ⟨_, List.getElem?_eq_getElem hlt, ?_, ?_⟩
  · unfold fileAt; rw [List.getElem?_eq_getElem hlt]
  · rw [e]
    have : p = (n, ((p.2.toNat : Nat) : Int)) := by rw [← h2]; exact Prod.ext rfl (by show p.2 = _; omega)
    rw [← this]; exact h1
theorem Inv.idx_ne {st : St} (h : Inv st) {n m : List UInt8} (hn : mhas st.dir n = true) (hm : mhas st.dir m = true) (hne : n ≠ m) : Fs.idx st n ≠ Fs.idx st m := by
  obtain ⟨_, _, _, h1⟩ := h.idx hn
  obtain ⟨_, _, _, h2⟩ := h.idx hm
  intro e
  exact hne (h.inj _ h1 _ h2 (by show ((Fs.idx st n : Nat) : Int) = ((Fs.idx st m : Nat) : Int); rw [e]))
theorem openE_of {st : St} {n : List UInt8} (hg : good n = true) (hn : mhas st.dir n = true) : openE st n = 0 := by
  unfold openE; rw [if_neg (by rw [hg]; simp), if_neg (by rw [hn]; simp)]

/-- What calm operations leave alone, and how they grow. -/
structure Next (st st' : St) (k : Nat) : Prop where
  calm : Calm st'
  inv : Inv st'
  room : st'.room = st.room
  files : st'.files.length ≤ st.files.length + k
  changes : st'.changes.length ≤ st.changes.length + k
theorem Next.trans {a b c : St} {i j : Nat} (h : Next a b i) (g : Next b c j) : Next a c (i + j) :=
  ⟨g.calm, g.inv, g.room.trans h.room, by have := h.files; have := g.files; omega, by have := h.changes; have := g.changes; omega⟩
theorem Next.refl {st : St} (hc : Calm st) (hi : Inv st) : Next st st 0 := ⟨hc, hi, rfl, Nat.le_refl _, Nat.le_refl _⟩
section
set_option linter.unusedSectionVars false
variable {st : St} {n : List UInt8} (hc : Calm st) (hi : Inv st)
include hc hi
theorem calm_create (hg : good n = true) (hn : mhas st.dir n = false) (hd : st.dir.length < 64) :
    (create st n).2 = 0 ∧ Next st (create st n).1 1 ∧ (create st n).1.dir.length = st.dir.length + 1 ∧ ∀ m, look (create st n).1 m = if m = n then some [] else look st m := by
  have he : create st n = ({ (step st).1 with files := st.files ++ [([], 0)], dir := mput st.dir n st.files.length, changes := st.changes ++ [[(n, (st.files.length : Int))]] }, 0) := by
    unfold create
    rw [if_neg (by rw [hg]; simp), if_neg (by rw [hn]; simp), if_neg (by omega), if_neg (by rw [step_calm hc]; simp)]
  rw [he, step_calm hc]
  refine ⟨rfl, ⟨⟨hc.1, hc.2⟩, ⟨pw_mput hi.nd, ?_, ?_, fun p hp => (mput_mem.1 hp).elim (fun e => by rw [e]; exact hg) (fun h => hi.gd p h.1)⟩, rfl, by simp, by simp⟩, ?_, fun m => ?_⟩
  · intro p hp q hq e
    rcases mput_mem.1 hp with rfl | ⟨hp1, _⟩ <;> rcases mput_mem.1 hq with rfl | ⟨hq1, _⟩
    · rfl
    · have := hi.known q hq1; simp only at e; omega
    · have := hi.known p hp1; simp only at e; omega
    · exact hi.inj p hp1 q hq1 e
  · intro p hp
    rcases mput_mem.1 hp with rfl | ⟨hp1, _⟩
    · simp; omega
    · have := hi.known p hp1; simp; omega
  · show (mput st.dir n st.files.length).length = _
    rw [mput_len2, mdel_none hn]
  · show (if mhas (mput st.dir n st.files.length) m then some (match (st.files ++ [(([] : List UInt8), 0)])[(mget (mput st.dir n st.files.length) m).toNat]? with | some f => f.1 | none => []) else none) = _
    rw [mhas_mput, mget_mput]
    by_cases hm : m = n
    · subst hm
      simp
    · have hm' : ¬ n = m := fun e => hm e.symm
      rw [if_neg hm, if_neg hm', decide_eq_false hm', Bool.false_or]
      cases hh : mhas st.dir m
      · unfold look; rw [hh]; rfl
      · obtain ⟨f, h1, h2, _⟩ := hi.idx hh
        have hlt : Fs.idx st m < st.files.length := (List.getElem?_eq_some_iff.1 h1).1
        unfold Fs.idx at h1 hlt
        rw [if_pos rfl, List.getElem?_append_left hlt, h1]
        unfold look; rw [hh, if_pos rfl, h2]
/-- A file turns. -/
theorem look_set {f' : List UInt8 × Nat} {st' : St} (hd : st'.dir = st.dir) (hf : st'.files = st.files.set (Fs.idx st n) f') (hn : mhas st.dir n = true) : Inv st' ∧ ∀ m, look st' m = if m = n then some f'.1 else look st m := by
  refine ⟨⟨by rw [hd]; exact hi.nd, by rw [hd]; exact hi.inj, by rw [hd, hf, List.length_set]; exact hi.known, by rw [hd]; exact hi.gd⟩, fun m => ?_⟩
  obtain ⟨f, h1, _, _⟩ := hi.idx hn
  have hlt : Fs.idx st n < st.files.length := (List.getElem?_eq_some_iff.1 h1).1
  have hix : Fs.idx st' m = Fs.idx st m := by unfold Fs.idx; rw [hd]
  unfold look fileAt
  rw [hd, hix, hf]
  by_cases hm : m = n
  · subst hm
    rw [hn, if_pos rfl, if_pos rfl, List.getElem?_set_self hlt]
  · rw [if_neg hm]
    cases hh : mhas st.dir m
    · rfl
    · rw [List.getElem?_set_ne (hi.idx_ne hn hh (fun e => hm e.symm))]
theorem calm_append {b old : List UInt8} (hg : good n = true) (hn : look st n = some old) (hl : old.length + b.length ≤ 65536) (hr : (used st : Int) + b.length ≤ st.room) :
    (append st n b).2 = 0 ∧ Next st (append st n b).1 0 ∧ (append st n b).1.dir = st.dir ∧ (∃ i, (append st n b).1.files = st.files.set i (old ++ b, ((st.files[i]?.map (·.2)).getD 0))) ∧ ∀ m, look (append st n b).1 m = if m = n then some (old ++ b) else look st m := by
  obtain ⟨hh, hfa⟩ := look_some hn
  obtain ⟨f, h1, h2, _⟩ := hi.idx hh
  have he : append st n b = ({ (step st).1 with files := grow st.files (Fs.idx st n) b }, 0) := by
    unfold append
    rw [if_neg (by rw [openE_of hg hh]; simp), hfa, if_neg (by omega), step_calm hc, if_neg (by simp), if_neg (by omega)]
  have hgr : grow st.files (Fs.idx st n) b = st.files.set (Fs.idx st n) (f.1 ++ b, f.2) := by unfold grow; rw [h1]
  have hfe : f.1 = old := by rw [← h2, hfa]
  rw [he, step_calm hc, hgr, hfe]
  obtain ⟨k1, k2⟩ := look_set (st' := { st with steps := wrap64 (st.steps + 1), files := st.files.set (Fs.idx st n) (old ++ b, f.2) }) (f' := (old ++ b, f.2)) hc hi rfl rfl hh
  exact ⟨rfl, ⟨⟨hc.1, hc.2⟩, k1, rfl, by simp, Nat.le_refl _⟩, rfl, ⟨Fs.idx st n, by rw [h1]; rfl⟩, k2⟩
theorem calm_sync (hg : good n = true) {old : List UInt8} (hn : look st n = some old) :
    (sync st n).2 = 0 ∧ Next st (sync st n).1 0 ∧ (sync st n).1.dir = st.dir ∧ (∃ i, (sync st n).1.files = st.files.set i (old, old.length)) ∧ ∀ m, look (sync st n).1 m = look st m := by
  obtain ⟨hh, hfa⟩ := look_some hn
  obtain ⟨f, h1, h2, _⟩ := hi.idx hh
  have he : sync st n = ({ (step st).1 with files := flush st.files (Fs.idx st n) }, 0) := by
    unfold sync
    rw [if_neg (by rw [openE_of hg hh]; simp), step_calm hc, if_neg (by simp)]
  have hfe : f.1 = old := by rw [← h2, hfa]
  have hgr : flush st.files (Fs.idx st n) = st.files.set (Fs.idx st n) (old, old.length) := by unfold flush; rw [h1]; simp only [hfe]
  rw [he, step_calm hc, hgr]
  obtain ⟨k1, k2⟩ := look_set (st' := { st with steps := wrap64 (st.steps + 1), files := st.files.set (Fs.idx st n) (old, old.length) }) (f' := (old, old.length)) hc hi rfl rfl hh
  refine ⟨rfl, ⟨⟨hc.1, hc.2⟩, k1, rfl, by simp, Nat.le_refl _⟩, rfl, ⟨_, rfl⟩, fun m => ?_⟩
  rw [k2 m]
  by_cases hm : m = n
  · rw [if_pos hm, hm, hn]
  · rw [if_neg hm]
theorem calm_syncDir : (syncDir st).2 = 0 ∧ Next st (syncDir st).1 0 ∧ (syncDir st).1.dir = st.dir ∧ (syncDir st).1.files = st.files ∧ ∀ m, look (syncDir st).1 m = look st m := by
  have he : syncDir st = ({ (step st).1 with sure := st.dir, changes := [] }, 0) := by
    unfold syncDir
    rw [step_calm hc, if_neg (by simp)]
  rw [he, step_calm hc]
  exact ⟨rfl, ⟨⟨hc.1, hc.2⟩, ⟨hi.nd, hi.inj, hi.known, hi.gd⟩, rfl, Nat.le_refl _, Nat.zero_le _⟩, rfl, rfl, fun m => rfl⟩
theorem calm_remove (hg : good n = true) (hn : mhas st.dir n = true) :
    (remove st n).2 = 0 ∧ Next st (remove st n).1 1 ∧ (remove st n).1.dir = mdel st.dir n ∧ (remove st n).1.files = st.files ∧ ∀ m, look (remove st n).1 m = if m = n then none else look st m := by
  have he : remove st n = (turned (step st).1 [(n, -1)], 0) := by
    unfold remove
    rw [if_neg (by rw [openE_of hg hn]; simp), step_calm hc, if_neg (by simp)]
  rw [he, step_calm hc]
  refine ⟨rfl, ⟨⟨hc.1, hc.2⟩, ⟨pw_mdel hi.nd, fun p hp q hq => hi.inj p (mdel_mem.1 hp).1 q (mdel_mem.1 hq).1, fun p hp => hi.known p (mdel_mem.1 hp).1, fun p hp => hi.gd p (mdel_mem.1 hp).1⟩, rfl, Nat.le_succ _, by simp [turned]⟩, rfl, rfl, fun m => ?_⟩
  show (if mhas (mdel st.dir n) m then some (match st.files[(mget (mdel st.dir n) m).toNat]? with | some f => f.1 | none => []) else none) = _
  rw [mhas_mdel]
  by_cases hm : m = n
  · rw [if_pos hm, decide_eq_true hm]; rfl
  · rw [if_neg hm, decide_eq_false hm, mget_mdel _ _ _ hm]; rfl
theorem calm_rename {nt old : List UInt8} (hg : good n = true) (hg2 : good nt = true) (hne : n ≠ nt) (hn : look st n = some old) :
    (rename st n nt).2 = 0 ∧ Next st (rename st n nt).1 1 ∧ (rename st n nt).1.dir.length ≤ st.dir.length ∧ (mhas st.dir nt = true → (rename st n nt).1.dir.length + 1 ≤ st.dir.length) ∧ (rename st n nt).1.files = st.files ∧
      ∀ m, look (rename st n nt).1 m = if m = nt then some old else if m = n then none else look st m := by
  obtain ⟨hh, hfa⟩ := look_some hn
  obtain ⟨f, h1, h2, hmem⟩ := hi.idx hh
  obtain ⟨p, hp1, hp2, hp3⟩ := mget_mem hh
  have hkn := hi.known p hp1
  have he : rename st n nt = (turned (step st).1 [(n, -1), (nt, mget st.dir n)], 0) := by
    unfold rename
    rw [if_neg (by rw [hg, hg2]; simp), if_neg (by rw [hh]; simp), step_calm hc, if_neg (by simp)]
  have hdir : doAll st.dir [(n, -1), (nt, mget st.dir n)] = mput (mdel st.dir n) nt (mget st.dir n) := by
    show doOne (doOne st.dir (n, -1)) (nt, mget st.dir n) = _
    have e1 : doOne st.dir (n, -1) = mdel st.dir n := by unfold doOne; exact if_pos (show (-1 : Int) < 0 by decide)
    rw [e1]
    unfold doOne
    rw [if_neg (show ¬ mget st.dir n < 0 by rw [← hp3]; omega)]
  have hl1 := mdel_len_has hh
  rw [he, step_calm hc]
  refine ⟨rfl, ⟨⟨hc.1, hc.2⟩, ⟨?_, ?_, ?_, ?_⟩, rfl, Nat.le_succ _, by simp [turned]⟩, ?_, fun ht => ?_, rfl, fun m => ?_⟩
  · show (doAll st.dir _).Pairwise _
    rw [hdir]; exact pw_mput (pw_mdel hi.nd)
  · show ∀ p ∈ doAll st.dir _, ∀ q ∈ doAll st.dir _, _
    rw [hdir]
    have key : ∀ q ∈ mdel st.dir n, q.2 ≠ mget st.dir n := fun q hq e => by
      obtain ⟨hq1, hq2⟩ := mdel_mem.1 hq
      exact hq2 (by rw [← hp2]; exact hi.inj q hq1 p hp1 (by rw [hp3]; exact e))
    intro a ha b hb e
    rcases mput_mem.1 ha with rfl | ⟨ha1, _⟩ <;> rcases mput_mem.1 hb with rfl | ⟨hb1, _⟩
    · rfl
    · exact absurd e.symm (key b hb1)
    · exact absurd e (key a ha1)
    · exact hi.inj a (mdel_mem.1 ha1).1 b (mdel_mem.1 hb1).1 e
  · show ∀ p ∈ doAll st.dir _, _
    rw [hdir]
    intro q hq
    rcases mput_mem.1 hq with rfl | ⟨hq1, _⟩
    · rw [hp3] at hkn; exact hkn
    · exact hi.known q (mdel_mem.1 hq1).1
  · show ∀ p ∈ doAll st.dir _, _
    rw [hdir]
    intro q hq
    rcases mput_mem.1 hq with rfl | ⟨hq1, _⟩
    · exact hg2
    · exact hi.gd q (mdel_mem.1 hq1).1
  · show (doAll st.dir _).length ≤ _
    rw [hdir, mput_len2]
    have := mdel_len (mdel st.dir n) nt
    omega
  · show (doAll st.dir _).length + 1 ≤ _
    rw [hdir, mput_len2]
    have : mhas (mdel st.dir n) nt = true := by rw [mhas_mdel, ht, decide_eq_false (fun e => hne e.symm)]; rfl
    have := mdel_len_has this
    omega
  · show (if mhas (doAll st.dir _) m then some (match st.files[(mget (doAll st.dir _) m).toNat]? with | some f => f.1 | none => []) else none) = _
    rw [hdir, mhas_mput, mget_mput, mhas_mdel]
    by_cases hm : m = nt
    · rw [if_pos hm, if_pos hm.symm, decide_eq_true hm.symm, Bool.true_or, if_pos rfl]
      have : st.files[(mget st.dir n).toNat]? = some f := h1
      rw [this, ← hfa, h2]
    · have hm' : ¬ nt = m := fun e => hm e.symm
      rw [if_neg hm, if_neg hm', decide_eq_false hm', Bool.false_or]
      by_cases hmn : m = n
      · rw [if_pos hmn, decide_eq_true hmn]; rfl
      · rw [if_neg hmn, decide_eq_false hmn, mget_mdel _ _ _ hmn]; rfl
end
/-- The bytes in use, by what the names' files hold. -/
theorem used_look {st : St} (hi : Inv st) {M : Nat} (hM : ∀ n b, look st n = some b → b.length ≤ M) : used st ≤ st.dir.length * M := by
  have : ∀ l : Names, (∀ p ∈ l, p ∈ st.dir) → usedL st l ≤ l.length * M := by
    intro l
    induction l with
    | nil => intro _; exact Nat.zero_le _
    | cons p l ih =>
      intro h
      have h1 := ih (fun q hq => h q (List.mem_cons_of_mem _ hq))
      have hp := h p List.mem_cons_self
      have hh : mhas st.dir p.1 = true := mhas_mem.2 ⟨p, hp, rfl⟩
      obtain ⟨f, f1, f2, f3⟩ := hi.idx hh
      have e : mget st.dir p.1 = p.2 := mget_of (fun a ha b hb e => by
        by_cases hab : a = b
        · rw [hab]
        · have := hi.nd
          rcases List.mem_iff_getElem.1 ha with ⟨i, hi1, rfl⟩
          rcases List.mem_iff_getElem.1 hb with ⟨j, hj1, rfl⟩
          rw [List.pairwise_iff_getElem] at this
          rcases Nat.lt_trichotomy i j with h | h | h
          · exact absurd e (this i j hi1 hj1 h)
          · subst h; rfl
          · exact absurd e.symm (this j i hj1 hi1 h)) (show (p.1, p.2) ∈ st.dir from hp)
      have h2 : lenAt st p.2 ≤ M := by
        have : lenAt st p.2 = f.1.length := by
          unfold lenAt
          unfold Fs.idx at f1
          rw [e] at f1
          rw [f1]
        rw [this, ← f2]
        exact hM p.1 _ (by unfold look; rw [if_pos hh])
      unfold usedL at h1 ⊢
      rw [List.map_cons, List.sum_cons, List.length_cons, Nat.succ_mul]
      omega
  exact this st.dir (fun _ h => h)
end Fs
end Go.Proofs.YtcinagglbkbmkaaGreatDoor
namespace Go.Proofs.YtcinagglbkbmkaaGreatDoor
set_option linter.unusedSimpArgs false
set_option linter.unusedVariables false
open Go Go.RowKit
theorem Sg.dec_len (n : Nat) (h : n < 10000000000) : (Lib.decDigits n).length ≤ 10 := by
  rw [Lib.decDigits_length]
  by_cases h1 : n < 10
  · rw [Lib.nDigits_small h1]; omega
  rw [Lib.nDigits_big h1]
  by_cases h2 : n / 10 < 10
  · rw [Lib.nDigits_small h2]; omega
  rw [Lib.nDigits_big h2]
  by_cases h3 : n / 10 / 10 < 10
  · rw [Lib.nDigits_small h3]; omega
  rw [Lib.nDigits_big h3]
  by_cases h4 : n / 10 / 10 / 10 < 10
  · rw [Lib.nDigits_small h4]; omega
  rw [Lib.nDigits_big h4]
  by_cases h5 : n / 10 / 10 / 10 / 10 < 10
  · rw [Lib.nDigits_small h5]; omega
  rw [Lib.nDigits_big h5]
  by_cases h6 : n / 10 / 10 / 10 / 10 / 10 < 10
  · rw [Lib.nDigits_small h6]; omega
  rw [Lib.nDigits_big h6]
  by_cases h7 : n / 10 / 10 / 10 / 10 / 10 / 10 < 10
  · rw [Lib.nDigits_small h7]; omega
  rw [Lib.nDigits_big h7]
  by_cases h8 : n / 10 / 10 / 10 / 10 / 10 / 10 / 10 < 10
  · rw [Lib.nDigits_small h8]; omega
  rw [Lib.nDigits_big h8]
  by_cases h9 : n / 10 / 10 / 10 / 10 / 10 / 10 / 10 / 10 < 10
  · rw [Lib.nDigits_small h9]; omega
  rw [Lib.nDigits_big h9]
  rw [Lib.nDigits_small (by omega)]; omega
namespace Mf
-- A manifest: what is good, its bytes.
def incr : Int → List Int → Bool
  | _, [] => true
  | last, n :: r => decide (last < n) && (decide (n ≤ 2147483647) && incr n r)
def good (v : Int) (l : List Int) : Bool := (decide (1 ≤ v) && decide (v ≤ 2147483647)) && ((decide (1 ≤ l.length) && decide (l.length ≤ 32)) && incr 0 l)
def pay (ns : List Int) : List UInt8 := ns.flatMap fun n => Lib.itoa n ++ [10]
def enc (v : Int) (l : List Int) : List UInt8 := Fr.bytes 9 (pay (v :: l))
theorem incr_pos : ∀ {l : List Int} {last : Int}, 0 ≤ last → incr last l = true → ∀ n ∈ l, 1 ≤ n ∧ n ≤ 2147483647
  | [], _, _, _, n, hn => by cases hn
  | x :: r, last, h0, h, n, hn => by
    rw [incr] at h
    simp only [Bool.and_eq_true, decide_eq_true_eq] at h
    rcases List.mem_cons.1 hn with rfl | hn
    · omega
    · exact incr_pos (by omega) h.2.2 n hn
theorem good_out {v : Int} {l : List Int} (h : good v l = true) : (1 ≤ v ∧ v ≤ 2147483647) ∧ (1 ≤ l.length ∧ l.length ≤ 32) ∧ incr 0 l = true := by
  unfold good at h
  simp only [Bool.and_eq_true, decide_eq_true_eq] at h
  exact ⟨h.1, h.2.1, h.2.2⟩
theorem good_all {v : Int} {l : List Int} (h : good v l = true) : ∀ n ∈ v :: l, 1 ≤ n ∧ n ≤ 2147483647 := by
  obtain ⟨h1, -, h3⟩ := good_out h
  intro n hn
  rcases List.mem_cons.1 hn with rfl | hn
  · exact h1
  · exact incr_pos (by omega) h3 n hn
theorem itoa_dec {n : Int} (h : 1 ≤ n) : Lib.itoa n = Lib.decDigits n.toNat := by
  have := Lib.itoa_nonneg n.toNat
  rwa [show ((n.toNat : Nat) : Int) = n by omega] at this
theorem pay_len : ∀ {l : List Int}, (∀ n ∈ l, 1 ≤ n ∧ n ≤ 2147483647) → (pay l).length ≤ 22 * l.length
  | [], _ => Nat.le_refl _
  | x :: r, h => by
    have := pay_len (l := r) (fun n hn => h n (by simp [hn]))
    have hx := h x (by simp)
    have := Lib.itoa_length_le x (by omega) (by omega)
    unfold pay at *
    rw [List.flatMap_cons, List.length_append, List.length_append, List.length_singleton, List.length_cons]
    omega
theorem enc_ok {v : Int} {l : List Int} (h : good v l = true) : Fr.encE 9 (pay (v :: l)) = 0 := by
  have h1 := pay_len (good_all h)
  have h2 := (good_out h).2.1
  unfold Fr.encE
  rw [if_neg (by omega), if_neg (by rw [List.length_cons] at h1; omega)]
-- Read back: by the library's parts.
def lines (p : List UInt8) : List (List UInt8) := Lib.splitK [10] 0 (p.count 10) p
def nums : List (List UInt8) → Option (List Int)
  | [] => some []
  | x :: r => match Lib.atoiAll x with
    | .ok n => (nums r).map (n :: ·)
    | _ => none
def fit (b : List UInt8) : List Int → Option (Int × List Int)
  | [] => none
  | v :: l => if good v l = true ∧ enc v l = b then some (v, l) else none
def read (b : List UInt8) : Option (Int × List Int) :=
  if Fr.decE b ≠ 0 ∨ Fr.kind b ≠ 9 then none else (nums (lines (Lib.trimSuffix (Fr.pay b) [10]))).bind (fit b)
theorem join_two (x y : List UInt8) (r : List (List UInt8)) (sep : List UInt8) : Lib.join (x :: y :: r) sep = x ++ (sep ++ Lib.join (y :: r) sep) := by
  simp [Lib.join, List.intercalate]
theorem index_line (x r : List UInt8) (h : (10 : UInt8) ∉ x) : Lib.index (x ++ 10 :: r) [10] = (x.length : Nat) := by
  apply Lib.index_first
  · simp
  · simp [Lib.occAt, List.isPrefixOf]
  · intro j hj
    unfold Lib.occAt
    have hd : (x ++ 10 :: r).drop j = x[j]'hj :: (x.drop (j + 1) ++ 10 :: r) := by
      rw [List.drop_append_of_le_length (by omega), List.drop_eq_getElem_cons hj]
      rfl
    rw [hd]
    have hne : (10 : UInt8) ≠ x[j]'hj := fun e => h (e ▸ List.getElem_mem hj)
    simp [List.isPrefixOf, hne]
theorem split_join : ∀ (x : List UInt8) (r : List (List UInt8)), (∀ l ∈ x :: r, (10 : UInt8) ∉ l) → lines (Lib.join (x :: r) [10]) = x :: r
  | x, [], h => by
    unfold lines
    rw [Lib.join_one, List.count_eq_zero_of_not_mem (h x (by simp))]
    rfl
  | x, y :: r, h => by
    have hx := h x (by simp)
    have ih := split_join y r (fun l hl => h l (by simp at hl ⊢; exact .inr hl))
    unfold lines at ih ⊢
    rw [join_two]
    show Lib.splitK [10] 0 ((x ++ 10 :: Lib.join (y :: r) [10]).count 10) (x ++ 10 :: Lib.join (y :: r) [10]) = _
    have hc : (x ++ 10 :: Lib.join (y :: r) [10]).count 10 = (Lib.join (y :: r) [10]).count 10 + 1 := by
      rw [List.count_append, List.count_eq_zero_of_not_mem hx, List.count_cons_self]
      omega
    rw [hc, Lib.splitK, index_line x _ hx, if_neg (by simp)]
    have e1 : ((x.length : Nat) : Int).toNat = x.length := by omega
    rw [e1]
    have e2 : (x ++ 10 :: Lib.join (y :: r) [10]).drop (x.length + ([10] : List UInt8).length) = Lib.join (y :: r) [10] := by
      rw [← List.drop_drop, List.drop_left]
      rfl
    rw [e2, ih]
    simp
theorem pay_join : ∀ (x : Int) (r : List Int), pay (x :: r) = Lib.join ((x :: r).map Lib.itoa) [10] ++ [10]
  | x, [] => by simp [pay, Lib.join_one]
  | x, y :: r => by
    have := pay_join y r
    unfold pay at this ⊢
    rw [List.flatMap_cons, this, show (x :: y :: r).map Lib.itoa = Lib.itoa x :: Lib.itoa y :: r.map Lib.itoa from rfl, join_two]
    simp
theorem trim_pay (x : Int) (r : List Int) : Lib.trimSuffix (pay (x :: r)) [10] = Lib.join ((x :: r).map Lib.itoa) [10] := by
  rw [pay_join]
  unfold Lib.trimSuffix
  rw [if_pos (by simp [Lib.hasSuffix, List.isSuffixOf])]
  simp
theorem dig_ne10 {c : UInt8} (h : Sg.isDig c = true) : c ≠ 10 := by
  intro e; rw [e] at h; revert h; decide
theorem itoa_no10 {n : Int} (h : 1 ≤ n) : (10 : UInt8) ∉ Lib.itoa n := by
  rw [itoa_dec h]
  intro hm
  have := List.all_eq_true.1 (Sg.dval_dec n.toNat 0).2 10 hm
  exact dig_ne10 this rfl
theorem nums_itoa : ∀ {l : List Int}, (∀ n ∈ l, 1 ≤ n ∧ n ≤ 2147483647) → nums (l.map Lib.itoa) = some l
  | [], _ => rfl
  | x :: r, h => by
    have hx := h x (by simp)
    have ih := nums_itoa (l := r) (fun n hn => h n (by simp [hn]))
    rw [List.map_cons, nums, itoa_dec hx.1, Sg.atoi_dec x.toNat (by omega), ih]
    show some (((x.toNat : Nat) : Int) :: r) = _
    rw [show ((x.toNat : Nat) : Int) = x by omega]
theorem fit_some {b : List UInt8} {ns : List Int} {v : Int} {l : List Int} (h : fit b ns = some (v, l)) : good v l = true ∧ enc v l = b ∧ ns = v :: l := by
  cases ns with
  | nil => cases h
  | cons x r =>
    rw [fit] at h
    split at h
    · rename_i hc
      obtain ⟨rfl, rfl⟩ : x = v ∧ r = l := by simpa using h
      exact ⟨hc.1, hc.2, rfl⟩
    · cases h
theorem read_some {b : List UInt8} {v : Int} {l : List Int} (h : read b = some (v, l)) : good v l = true ∧ enc v l = b := by
  unfold read at h
  split at h
  · cases h
  · cases hn : nums (lines (Lib.trimSuffix (Fr.pay b) [10])) with
    | none => rw [hn] at h; cases h
    | some ns =>
      rw [hn] at h
      have := fit_some (show fit b ns = some (v, l) from h)
      exact ⟨this.1, this.2.1⟩
theorem fit_good {v : Int} {l : List Int} (h : good v l = true) : fit (enc v l) (v :: l) = some (v, l) := by
  rw [fit, if_pos ⟨h, rfl⟩]
theorem split_join_map {l : List Int} {v : Int} (h : ∀ n ∈ v :: l, 1 ≤ n ∧ n ≤ 2147483647) : lines (Lib.join ((v :: l).map Lib.itoa) [10]) = (v :: l).map Lib.itoa := by
  rw [List.map_cons]
  refine split_join _ _ (fun x hx => ?_)
  rw [← List.map_cons (f := Lib.itoa)] at hx
  obtain ⟨n, hn, rfl⟩ := List.mem_map.1 hx
  exact itoa_no10 (h n hn).1
theorem read_enc {v : Int} {l : List Int} (h : good v l = true) : read (enc v l) = some (v, l) := by
  have hd := Fr.dec_bytes (enc_ok h)
  have hk : Fr.kind (enc v l) = 9 := Fr.kind_bytes (by decide)
  have hp : Fr.pay (enc v l) = pay (v :: l) := Fr.pay_bytes
  unfold read
  rw [if_neg (by rw [hk]; intro hc; rcases hc with hc | hc; exact hc hd.1; exact hc rfl), hp, trim_pay, split_join_map (good_all h), nums_itoa (good_all h)]
  exact fit_good h
-- Read back: by the reference.
def scan : Nat → Nat → List Int → List UInt8 → Option (List Int)
  | _, _, acc, [] => some acc
  | n, d, acc, c :: r => if c.toNat = 10 then scan 0 0 (acc ++ [(n : Int)]) r else if Sg.isDig c = false ∨ 9 < d then none else scan (n * 10 + (c.toNat - 48)) (d + 1) acc r
def refRead (b : List UInt8) : Option (Int × List Int) :=
  if Fr.decE b ≠ 0 ∨ Fr.kind b ≠ 9 then none else (scan 0 0 [] (Fr.pay b)).bind fun ns => if ns.length < 2 then none else fit b ns
theorem scan_digits : ∀ (x : List UInt8) (n d : Nat) (acc : List Int) (r : List UInt8), x.all Sg.isDig = true → d + x.length ≤ 10 → scan n d acc (x ++ r) = scan (x.foldl (fun n c => n * 10 + (c.toNat - 48)) n) (d + x.length) acc r
  | [], n, d, acc, r, _, _ => rfl
  | c :: x, n, d, acc, r, h, hd => by
    rw [List.all_cons, Bool.and_eq_true] at h
    rw [List.length_cons] at hd
    rw [List.cons_append, scan, if_neg (fun e => dig_ne10 h.1 (UInt8.toNat_inj.1 (by rw [e]; rfl))), if_neg (by rw [h.1]; intro hc; rcases hc with hc | hc; cases hc; omega), scan_digits x _ _ acc r h.2 (by omega), List.foldl_cons, List.length_cons]
    congr 1; omega
theorem scan_pay : ∀ (l acc : List Int), (∀ n ∈ l, 1 ≤ n ∧ n ≤ 2147483647) → scan 0 0 acc (pay l) = some (acc ++ l)
  | [], acc, _ => by show some acc = _; rw [List.append_nil]
  | x :: r, acc, h => by
    have hx := h x (by simp)
    have ih := scan_pay r (acc ++ [x]) (fun n hn => h n (by simp [hn]))
    obtain ⟨e1, e2⟩ := Sg.dval_dec x.toNat 0
    have hl := Sg.dec_len x.toNat (by omega)
    have e : pay (x :: r) = Lib.decDigits x.toNat ++ (10 :: pay r) := by
      unfold pay; rw [List.flatMap_cons, itoa_dec hx.1]; simp
    rw [e, scan_digits _ 0 0 acc _ e2 (by omega), e1, scan, if_pos (by decide), Nat.zero_mul, Nat.zero_add, show ((x.toNat : Nat) : Int) = x by omega, ih]
    simp
theorem refRead_enc {v : Int} {l : List Int} (h : good v l = true) : refRead (enc v l) = some (v, l) := by
  have hd := Fr.dec_bytes (enc_ok h)
  have hk : Fr.kind (enc v l) = 9 := Fr.kind_bytes (by decide)
  have hp : Fr.pay (enc v l) = pay (v :: l) := Fr.pay_bytes
  have h2 := (good_out h).2.1
  unfold refRead
  rw [if_neg (by rw [hk]; intro hc; rcases hc with hc | hc; exact hc hd.1; exact hc rfl), hp, scan_pay _ [] (good_all h)]
  show (if (v :: l).length < 2 then none else fit (enc v l) (v :: l)) = _
  rw [if_neg (by rw [List.length_cons]; omega), fit_good h]
theorem refRead_some {b : List UInt8} {v : Int} {l : List Int} (h : refRead b = some (v, l)) : good v l = true ∧ enc v l = b := by
  unfold refRead at h
  split at h
  · cases h
  · cases hn : scan 0 0 [] (Fr.pay b) with
    | none => rw [hn] at h; cases h
    | some ns =>
      rw [hn] at h
      have h : (if ns.length < 2 then none else fit b ns) = some (v, l) := h
      split at h
      · cases h
      · have := fit_some h
        exact ⟨this.1, this.2.1⟩
/-- Both read the same. -/
theorem read_ref (b : List UInt8) : read b = refRead b := by
  cases h1 : read b with
  | some m =>
    obtain ⟨v, l⟩ := m
    obtain ⟨hg, he⟩ := read_some h1
    rw [← he, refRead_enc hg]
  | none =>
    cases h2 : refRead b with
    | none => rfl
    | some m =>
      obtain ⟨v, l⟩ := m
      obtain ⟨hg, he⟩ := refRead_some h2
      rw [← he, read_enc hg] at h1
      cases h1
end Mf
end Go.Proofs.YtcinagglbkbmkaaGreatDoor
namespace Go.Proofs.YtcinagglbkbmkaaGreatDoor
set_option linter.unusedSimpArgs false
set_option linter.unusedVariables false
open Go Go.RowKit
open Go.Maps Go.WideMaps

/-- A slice of numbers, wherever it lies. -/
abbrev Nums (w : World) (v : Value) (l : List Int) : Prop := Ints w v l
theorem Mf.good_bad {v : Int} {l : List Int} (h : v < 1 ∨ 2147483647 < v ∨ l.length < 1 ∨ 32 < l.length) : Mf.good v l = false := by
  cases hg : Mf.good v l
  · rfl
  · have := Mf.good_out hg; omega
theorem Mf.good_incr {v : Int} {l : List Int} (h1 : 1 ≤ v) (h2 : v ≤ 2147483647) (h3 : 1 ≤ l.length) (h4 : l.length ≤ 32) : Mf.good v l = Mf.incr 0 l := by
  unfold Mf.good
  rw [decide_eq_true h1, decide_eq_true h2, decide_eq_true h3, decide_eq_true h4]
  rfl
theorem Mf.incr_drop {l : List Int} {j : Nat} {x : Int} (h : l[j]? = some x) (last : Int) : Mf.incr last (l.drop j) = (decide (last < x) && (decide (x ≤ 2147483647) && Mf.incr x (l.drop (j + 1)))) := by
  obtain ⟨h1, h2⟩ := List.getElem?_eq_some_iff.1 h
  rw [List.drop_eq_getElem_cons h1, h2, Mf.incr]
def Mf.chk (v : Int) (l : List Int) : Int := if Mf.good v l then 0 else 1
set_option maxHeartbeats 1000000 in
set_option maxRecDepth 100000 in
theorem check_any (ver : Int) (sv : Value) (l : List Int) (w : World) (hS : Nums w sv l) (hl : l.length ≤ 1000000000) :
    Calls Tryz.prog 17 #[.agg #[.int .i64 ver, sv]] w fun e w' => e = .returned (.int .i64 (Mf.chk ver l)) ∧ Below w.heap.size w w' := by
  obtain ⟨sa, sc, rfl⟩ := hS.form
  have hb : Below w.heap.size w (w.alloc (.cells #[.int .i64 ver, .slice sa l.length sc] 24)) := (Below.refl _ _).alloc (Nat.le_refl _) _
  have HS := Lib.hid (hS.below hb)
  have hr := heap_new w (.cells #[.int .i64 ver, .slice sa l.length sc] 24)
  have y0 := root_cell hr 0 _ rfl
  have y1 := root_cell hr 1 _ rfl
  have HB := Lib.hid hb
  have hl0 : (0 : Int) ≤ (l.length : Int) := Int.natCast_nonneg _
  clear hS hr hb
  go_enter Tryz.func17, Tryz.ntmps17
  by_cases h1 : ver < 1
  · skip
    have HE : Hid (Mf.chk ver l = 1) := by unfold Mf.chk; rw [Mf.good_bad (by omega)]; exact Lib.hid rfl
    go_wp2_with fail
    go_ret
    exact ⟨congrArg (fun x => Ending.returned (.int .i64 x)) HE.out.symm, (Below.refl _ _).alloc (Nat.le_refl _) _⟩
  have h1' : 1 ≤ ver := by omega
  by_cases h2 : 2147483647 < ver
  · skip
    have HE : Hid (Mf.chk ver l = 1) := by unfold Mf.chk; rw [Mf.good_bad (by omega)]; exact Lib.hid rfl
    go_wp2_with fail
    go_ret
    exact ⟨congrArg (fun x => Ending.returned (.int .i64 x)) HE.out.symm, (Below.refl _ _).alloc (Nat.le_refl _) _⟩
  have h2' : ver ≤ 2147483647 := by omega
  by_cases h3 : l.length < 1
  · have h3i : (l.length : Int) < 1 := by omega
    have HE : Hid (Mf.chk ver l = 1) := by unfold Mf.chk; rw [Mf.good_bad (by omega)]; exact Lib.hid rfl
    go_wp2_with fail
    go_ret
    exact ⟨congrArg (fun x => Ending.returned (.int .i64 x)) HE.out.symm, (Below.refl _ _).alloc (Nat.le_refl _) _⟩
  have h3' : (1 : Int) ≤ (l.length : Int) := by omega
  by_cases h4 : 32 < l.length
  · have h4i : (32 : Int) < (l.length : Int) := by omega
    have HE : Hid (Mf.chk ver l = 1) := by unfold Mf.chk; rw [Mf.good_bad (by omega)]; exact Lib.hid rfl
    go_wp2_with fail
    go_ret
    exact ⟨congrArg (fun x => Ending.returned (.int .i64 x)) HE.out.symm, (Below.refl _ _).alloc (Nat.le_refl _) _⟩
  have h4' : (l.length : Int) ≤ 32 := by omega
  have HG : Hid (Mf.good ver l = Mf.incr 0 l) := Lib.hid (Mf.good_incr h1' h2' (by omega) (by omega))
  clear h1 h2 h3 h4
  go_wp2_with fail
  go_loopg [3, 29] l.length (fun k s3 s29 wr => ∃ (j : Nat) (last : Int), j ≤ l.length ∧ k = l.length - j ∧ s29 = .int .i64 (j : Nat) ∧ s3 = .int .i64 last ∧ Mf.incr last (l.drop j) = Mf.incr 0 l ∧ wr = w.alloc (.cells #[.int .i64 ver, .slice sa l.length sc] 24))
  case atStart => exact ⟨0, 0, Nat.zero_le _, rfl, rfl, rfl, rfl, rfl⟩
  case round =>
    obtain ⟨j, last, hj, hk, rfl, rfl, hin, rfl⟩ := hrel
    have HK := Lib.hid hk
    have HIN := Lib.hid hin
    clear hk hin
    have hj0 : (0 : Int) ≤ (j : Int) := Int.natCast_nonneg _
    by_cases hjn : j < l.length
    · have hjn1 : (j : Int) < (l.length : Int) := by omega
      obtain ⟨x, hx⟩ : ∃ x, l[j]? = some x := ⟨_, List.getElem?_eq_getElem hjn⟩
      obtain ⟨g, o, rfl, hg, hc⟩ := HS.out.at hx
      have HD := Lib.hid (Mf.incr_drop hx last)
      clear hx
      by_cases hb : x ≤ last ∨ 2147483647 < x
      · have HE : Hid (Mf.chk ver l = 1) := by
          unfold Mf.chk
          rw [HG.out, ← HIN.out, HD.out]
          rcases hb with hb | hb
          · rw [decide_eq_false (by omega)]; exact Lib.hid rfl
          · rw [decide_eq_false (p := x ≤ 2147483647) (by omega), Bool.false_and, Bool.and_false]; exact Lib.hid rfl
        rcases hb with hb | hb
        · go_wp2_with fail
          go_ret
          exact ⟨congrArg (fun x => Ending.returned (.int .i64 x)) HE.out.symm, HB.out⟩
        · by_cases hb2 : x ≤ last
          · go_wp2_with fail
            go_ret
            exact ⟨congrArg (fun x => Ending.returned (.int .i64 x)) HE.out.symm, HB.out⟩
          · have hb3 : last < x := by omega
            go_wp2_with fail
            go_ret
            exact ⟨congrArg (fun x => Ending.returned (.int .i64 x)) HE.out.symm, HB.out⟩
      · have hb1 : last < x := by omega
        have hb2 : x ≤ 2147483647 := by omega
        clear hb
        go_wp2_with fail
        go_roundg (l.length - (j + 1))
        case measure => rw [HK.out]; omega
        case rel => exact ⟨j + 1, x, by omega, rfl, by simp, rfl, by rw [← HIN.out, HD.out, decide_eq_true hb1, decide_eq_true hb2]; rfl, rfl⟩
    · have hjn1 : (l.length : Int) ≤ (j : Int) := by omega
      have HE : Hid (Mf.chk ver l = 0) := by
        unfold Mf.chk
        rw [HG.out, ← HIN.out, List.drop_of_length_le (by omega)]
        exact Lib.hid rfl
      go_wp2_with fail
      go_ret
      exact ⟨congrArg (fun x => Ending.returned (.int .i64 x)) HE.out.symm, HB.out⟩
end Go.Proofs.YtcinagglbkbmkaaGreatDoor
