/-
  Frames and segments: what is read of what was written (no program in sight). Manifests: what is good, its bytes, and that both ways of reading them are one (plain). Saving and loading a manifest (plain); in calm weather. A crash: what is left (plain). What any operation of the file system keeps, in any weather (plain). Saving a manifest, in any weather, and a crash behind it (plain). Manifests: numbers in memory; Check, walked.
-/
import Derived.Test.YtcinagglbkbmkaaGreatDoorZc8
import Derived.Test.YtcinagglbkbmkaaGreatDoorZc6
import Derived.Lib.Join
namespace Go.Proofs.YtcinagglbkbmkaaGreatDoor
set_option linter.unusedSimpArgs false
set_option linter.unusedVariables false
open Go Go.RowKit

namespace Fr
theorem sum_bounds (l : List UInt8) : 0 ≤ sum l ∧ sum l < 4294967296 := bits_u32 _ _ _
theorem four_app (n : Int) (r : List UInt8) : (four n ++ r).length = 4 + r.length := by rw [List.length_append]; rfl
theorem num_bytes {k : Int} {p : List UInt8} (hp : p.length ≤ 8192) (r : List UInt8) : num (bytes k p ++ r) = p.length := by
  have := num_four (p.length : Int) (by omega) (by omega) ((inner k p ++ four (sum (inner k p))) ++ r)
  unfold bytes
  rw [List.append_assoc]
  omega
theorem bytes_take {k : Int} {p : List UInt8} (r : List UInt8) : (bytes k p ++ r).take (9 + p.length) = bytes k p := by
  have h : 9 + p.length = (bytes k p).length := by rw [bytes_len]; omega
  rw [h, List.take_left]
theorem bytes_drop {k : Int} {p : List UInt8} (r : List UInt8) : (bytes k p ++ r).drop (9 + p.length) = r := by
  have h : 9 + p.length = (bytes k p).length := by rw [bytes_len]; omega
  rw [h, List.drop_left]
theorem kind_bytes {k : Int} {p : List UInt8} (hk : 1 ≤ k ∧ k ≤ 9) : kind (bytes k p) = k := by
  unfold kind
  have : (bytes k p).getD 4 0 = byte k := rfl
  rw [this, byte_val]
  omega
theorem pay_bytes {k : Int} {p : List UInt8} : pay (bytes k p) = p := by
  unfold pay
  rw [bytes_len, show p.length + 9 - 9 = p.length by omega]
  have : (bytes k p).drop 5 = p ++ four (sum (inner k p)) := rfl
  rw [this, List.take_left]
theorem body_bytes {k : Int} {p : List UInt8} : body (bytes k p) = inner k p := by
  unfold body
  rw [bytes_len, show p.length + 9 - 8 = (inner k p).length by unfold inner; simp]
  have : (bytes k p).drop 4 = inner k p ++ four (sum (inner k p)) := rfl
  rw [this, List.take_left]
theorem tail_bytes {k : Int} {p : List UInt8} : (bytes k p).drop ((bytes k p).length - 4) = four (sum (inner k p)) := by
  rw [bytes_len, show p.length + 9 - 4 = (four (p.length : Int) ++ inner k p).length by rw [four_app]; unfold inner; simp; omega]
  unfold bytes
  rw [← List.append_assoc, List.drop_left]
/-- What is encoded is decoded. -/
theorem dec_bytes {k : Int} {p : List UInt8} (h : encE k p = 0) : decE (bytes k p) = 0 ∧ (1 ≤ k ∧ k ≤ 9) ∧ p.length ≤ 8192 := by
  unfold encE at h
  by_cases h1 : k < 1 ∨ 9 < k
  · rw [if_pos h1] at h; cases h
  · rw [if_neg h1] at h
    by_cases h2 : 8192 < p.length
    · rw [if_pos h2] at h; cases h
    · have hk : 1 ≤ k ∧ k ≤ 9 := by omega
      have hp : p.length ≤ 8192 := by omega
      refine ⟨?_, hk, hp⟩
      have hn := num_bytes (k := k) hp []
      rw [List.append_nil] at hn
      have hs := sum_bounds (inner k p)
      have hnf := num_four (sum (inner k p)) hs.1 hs.2 []
      rw [List.append_nil] at hnf
      unfold decE
      rw [hn, kind_bytes hk, body_bytes, tail_bytes, hnf, bytes_len, if_neg (by omega), if_neg (by omega), if_neg (by simp)]
theorem go_frame {k : Int} {p : List UInt8} (h : encE k p = 0) (r : List UInt8) : stop (bytes k p ++ r) = false ∧ first (bytes k p ++ r) = (k, p) ∧ (bytes k p ++ r).drop (9 + num (bytes k p ++ r)) = r ∧ 9 + num (bytes k p ++ r) = (bytes k p).length := by
  obtain ⟨h1, h2, h3⟩ := dec_bytes h
  have hn := num_bytes (k := k) h3 r
  refine ⟨?_, ?_, ?_, ?_⟩
  · unfold stop
    rw [hn, bytes_take, h1, List.length_append, bytes_len]
    simp
    omega
  · unfold first
    rw [hn, bytes_take, kind_bytes h2, pay_bytes]
  · rw [hn, bytes_drop]
  · rw [hn, bytes_len]; omega
/-- Frames behind one another. -/
def flat (fs : List F) : List UInt8 := fs.flatMap fun f => bytes f.1 f.2
theorem flat_app (a b : List F) : flat (a ++ b) = flat a ++ flat b := List.flatMap_append ..
theorem flat_one (f : F) : flat [f] = bytes f.1 f.2 := by simp [flat]
theorem scanGo_flat (t : List UInt8) (ht : stop t = true) : ∀ (fs : List F) (k : Nat) (out : List F) (a : Nat), (∀ f ∈ fs, encE f.1 f.2 = 0) → fs.length < k →
    scanGo k (flat fs ++ t) out a = (out ++ fs, a + (flat fs).length)
  | [], k, out, a, _, hk => by
    obtain ⟨k', rfl⟩ : ∃ k', k = k' + 1 := ⟨k - 1, by simp at hk; omega⟩
    show (if stop ([] ++ t) then _ else _) = _
    rw [List.nil_append, if_pos ht]
    simp [flat]
  | f :: fs, k, out, a, hf, hk => by
    obtain ⟨k', rfl⟩ : ∃ k', k = k' + 1 := ⟨k - 1, by simp at hk; omega⟩
    have hfl : flat (f :: fs) = bytes f.1 f.2 ++ flat fs := by simp [flat]
    obtain ⟨h1, h2, h3, h4⟩ := go_frame (hf f List.mem_cons_self) (flat fs ++ t)
    rw [hfl, List.append_assoc]
    unfold scanGo
    rw [if_neg (by rw [h1]; simp), h2, h3, h4, scanGo_flat t ht fs k' (out ++ [(f.1, f.2)]) _ (fun g hg => hf g (List.mem_cons_of_mem _ hg)) (by simp at hk; omega), List.append_assoc, List.length_append, Nat.add_assoc]
    rfl
theorem flat_len (fs : List F) : fs.length ≤ (flat fs).length := by
  induction fs with
  | nil => simp
  | cons f fs ih =>
    have hfl : flat (f :: fs) = bytes f.1 f.2 ++ flat fs := by simp [flat]
    rw [hfl, List.length_append, bytes_len, List.length_cons]
    omega
theorem scan_flat (t : List UInt8) (ht : stop t = true) (fs : List F) (hf : ∀ f ∈ fs, encE f.1 f.2 = 0) : scan (flat fs ++ t) = (fs, (flat fs).length) := by
  unfold scan
  rw [scanGo_flat t ht fs _ [] 0 hf (by have := flat_len fs; rw [List.length_append]; omega)]
  simp
theorem stop_nil : stop [] = true := rfl
end Fr

namespace Sg
theorem good_name {id : Int} (h : nameE id = 0) : Fs.good (nameB id) = true := by
  obtain ⟨h1, h2, h3⟩ := name_of h
  obtain ⟨_, hd⟩ := dval_dec id.toNat 0
  have hl := nameB_len id
  have hlen : (nameB id).length ≤ 20 := by
    have hr := (id_name h).2
    have hne : refId (nameB id) ≠ 0 := by rw [hr]; omega
    unfold refId at hne
    by_cases hc : (nameB id).length < 5 ∨ 14 < (nameB id).length ∨ (nameB id).take 4 ≠ seg
    · rw [if_pos hc] at hne; exact absurd rfl hne
    · omega
  unfold Fs.good
  rw [h3] at hlen ⊢
  have hall : (seg ++ Lib.decDigits id.toNat).all Fs.goodB = true := by
    rw [List.all_append, Bool.and_eq_true]
    refine ⟨by decide, List.all_eq_true.2 fun c hc => ?_⟩
    have := List.all_eq_true.1 hd c hc
    unfold isDig at this
    simp only [Bool.and_eq_true, decide_eq_true_eq] at this
    unfold Fs.goodB
    simp [this.1, this.2]
  rw [hall, decide_eq_true (p := 1 ≤ (seg ++ Lib.decDigits id.toNat).length) (by rw [List.length_append]; show 1 ≤ 4 + _; omega), decide_eq_true hlen]
  rfl
theorem name_inj {a b : Int} (ha : nameE a = 0) (hb : nameE b = 0) (h : nameB a = nameB b) : a = b := by
  have h1 := (id_name ha).1
  have h2 := (id_name hb).1
  rw [h] at h1
  omega

/-- Segments: their ids, their frames. -/
abbrev Seg := Int × List Fr.F
def segs (l : List Seg) : Fs.Segs := l.map fun s => (nameB s.1, Fr.flat s.2)
structure RepS (st : Fs.St) (l : List Seg) : Prop where
  rep : Fs.Rep st (segs l)
  ok : ∀ s ∈ l, nameE s.1 = 0
  enc : ∀ s ∈ l, ∀ f ∈ s.2, Fr.encE f.1 f.2 = 0
def size (l : List Seg) : Nat := (l.map fun s => (Fr.flat s.2).length).sum
theorem segs_size (l : List Seg) : ((segs l).map (·.2.length)).sum = size l := by
  unfold segs size
  rw [List.map_map]
  rfl
theorem seg_at {l : List Seg} {i : Nat} {s : Seg} (h : l[i]? = some s) : (segs l)[i]? = some (nameB s.1, Fr.flat s.2) := by
  unfold segs
  rw [List.getElem?_map, h]
  rfl
section
variable {st : Fs.St} {l : List Seg}
theorem RepS.create (h : RepS st l) {id : Int} (hid : nameE id = 0) (hn : ∀ s ∈ l, s.1 ≠ id) (hl : l.length < 64) :
    (Sg.create st id).2 = 0 ∧ RepS (Sg.create st id).1 (l ++ [(id, [])]) ∧ (Sg.create st id).1.room = st.room ∧ (Sg.create st id).1.changes = [] := by
  obtain ⟨h1, h2, h3, _⟩ := h.rep.create (good_name hid) (fun s hs e => by
    unfold segs at hs
    obtain ⟨t, ht, rfl⟩ := List.mem_map.1 hs
    exact hn t ht (name_inj (h.ok t ht) hid e)) (by unfold segs; simpa using hl)
  obtain ⟨h5, h6, h7, h8⟩ := h2.syncDir
  have he : Sg.create st id = Fs.syncDir (Fs.create st (nameB id)).1 := by
    unfold Sg.create
    rw [if_neg (by rw [hid]; simp), if_neg (by rw [h1]; simp)]
  rw [he]
  refine ⟨h5, ⟨?_, fun s hs => ?_, fun s hs => ?_⟩, h7.trans h3, h8⟩
  · have : segs (l ++ [(id, [])]) = segs l ++ [(nameB id, [])] := by unfold segs; rw [List.map_append]; rfl
    rw [this]
    exact h6
  · rcases List.mem_append.1 hs with hs | hs
    · exact h.ok s hs
    · simp at hs; subst hs; exact hid
  · rcases List.mem_append.1 hs with hs | hs
    · exact h.enc s hs
    · simp at hs; subst hs; intro f hf; simp at hf
theorem RepS.append (h : RepS st l) {i : Nat} {s : Seg} (hi : l[i]? = some s) {k : Int} {p : List UInt8} (hk : Fr.encE k p = 0) (hb : (Fr.flat s.2).length + (p.length + 9) ≤ 65536) (hr : (size l : Int) + (p.length + 9 : Nat) ≤ st.room) :
    (Sg.append st s.1 k p).2 = 0 ∧ RepS (Sg.append st s.1 k p).1 (l.set i (s.1, s.2 ++ [(k, p)])) ∧ (Sg.append st s.1 k p).1.room = st.room ∧ (Sg.append st s.1 k p).1.changes = st.changes := by
  have hid := h.ok s (List.mem_of_getElem? hi)
  have hg := good_name hid
  obtain ⟨h1, h2, h3, h4⟩ := h.rep.append (s := (nameB s.1, Fr.flat s.2)) (seg_at hi) hg (Fr.bytes k p) (by rw [Fr.bytes_len]; exact hb) (by rw [segs_size, Fr.bytes_len]; exact hr)
  have hlt : i < (segs l).length := (List.getElem?_eq_some_iff.1 (seg_at hi)).1
  obtain ⟨h5, h6, h7, h8⟩ := h2.sync (i := i) (s := (nameB s.1, Fr.flat s.2 ++ Fr.bytes k p)) (List.getElem?_set_self hlt) hg
  have he : Sg.append st s.1 k p = Fs.sync (Fs.append st (nameB s.1) (Fr.bytes k p)).1 (nameB s.1) := by
    unfold Sg.append
    rw [if_neg (by rw [hid]; simp), if_neg (by rw [hk]; simp), if_neg (by rw [h1]; simp)]
  rw [he]
  refine ⟨h5, ⟨?_, fun t ht => ?_, fun t ht => ?_⟩, h7.trans h3, h8.trans h4⟩
  · have : segs (l.set i (s.1, s.2 ++ [(k, p)])) = (segs l).set i (nameB s.1, Fr.flat s.2 ++ Fr.bytes k p) := by
      unfold segs
      rw [List.map_set, Fr.flat_app, Fr.flat_one]
    rw [this]
    exact h6
  · rcases List.mem_or_eq_of_mem_set ht with ht | rfl
    · exact h.ok t ht
    · exact hid
  · rcases List.mem_or_eq_of_mem_set ht with ht | rfl
    · exact h.enc t ht
    · intro f hf
      rcases List.mem_append.1 hf with hf | hf
      · exact h.enc s (List.mem_of_getElem? hi) f hf
      · simp at hf; subst hf; exact hk
/-- All segments, in their order. -/
theorem read_go (hS : ∀ s ∈ l, Fs.openE st (nameB s.1) = 0) (hF : ∀ s ∈ l, Fr.scan (Fs.fileAt st (nameB s.1)) = (s.2, (Fs.fileAt st (nameB s.1)).length)) :
    ∀ (out : List En), readGo st (l.map (·.1)) out true = (out ++ l.flatMap (fun s => s.2.map fun f => (s.1, f)), true, 0) := by
  induction l with
  | nil => intro out; simp [readGo]
  | cons s l ih =>
    intro out
    rw [List.map_cons, readGo_cons, if_neg (by rw [hS s List.mem_cons_self]; simp), hF s List.mem_cons_self]
    simp only [decide_true]
    rw [ih (fun t ht => hS t (List.mem_cons_of_mem _ ht)) (fun t ht => hF t (List.mem_cons_of_mem _ ht)), List.append_assoc, List.flatMap_cons]
theorem bad_none : ∀ (l : List Seg), (∀ s ∈ l, nameE s.1 = 0) → badE (l.map (·.1)) = 0
  | [], _ => rfl
  | s :: l, h => by
    rw [List.map_cons, badE_cons, if_neg (by rw [h s List.mem_cons_self]; simp)]
    exact bad_none l (fun t ht => h t (List.mem_cons_of_mem _ ht))
theorem RepS.read (h : RepS st l) : Sg.read st (l.map (·.1)) = (l.flatMap (fun s => s.2.map fun f => (s.1, f)), true, 0) := by
  unfold Sg.read
  rw [if_neg (by rw [bad_none l h.ok]; simp), read_go (l := l)]
  · rfl
  · intro s hs
    obtain ⟨i, hi⟩ := List.getElem?_of_mem hs
    exact (h.rep.at (seg_at hi)).2.2 (good_name (h.ok s hs))
  · intro s hs
    obtain ⟨i, hi⟩ := List.getElem?_of_mem hs
    have := (h.rep.at (seg_at hi)).2.1
    show Fr.scan (Fs.fileAt st (nameB s.1)) = (s.2, (Fs.fileAt st (nameB s.1)).length)
    rw [show Fs.fileAt st (nameB s.1) = Fr.flat s.2 from this]
    have h2 := Fr.scan_flat [] Fr.stop_nil s.2 (h.enc s hs)
    rwa [List.append_nil] at h2
end
end Sg
end Go.Proofs.YtcinagglbkbmkaaGreatDoor
namespace Go.Proofs.YtcinagglbkbmkaaGreatDoor
set_option linter.unusedSimpArgs false
set_option linter.unusedVariables false
open Go Go.RowKit
namespace Mf
-- A manifest: what is good, its bytes.
def incr : Int → List Int → Bool
  | _, [] => true
  | last, n :: r => decide (last < n) && (decide (n ≤ 2147483647) && incr n r)
def good (v : Int) (l : List Int) : Bool := (decide (1 ≤ v) && decide (v ≤ 2147483647)) && ((decide (1 ≤ l.length) && decide (l.length ≤ 32)) && incr 0 l)
def pay (ns : List Int) : List UInt8 := ns.flatMap fun n => Lib.itoa n ++ [10]
def enc (v : Int) (l : List Int) : List UInt8 := Fr.bytes 9 (pay (v :: l))
theorem incr_pos : ∀ {l : List Int} {last : Int}, 0 ≤ last → incr last l = true → ∀ n ∈ l, 1 ≤ n ∧ n ≤ 2147483647
  | [], _, _, _, n, hn => by cases hn
  | x :: r, last, h0, h, n, hn => by
    rw [incr] at h
    simp only [Bool.and_eq_true, decide_eq_true_eq] at h
    rcases List.mem_cons.1 hn with rfl | hn
    · omega
    · exact incr_pos (by omega) h.2.2 n hn
theorem good_out {v : Int} {l : List Int} (h : good v l = true) : (1 ≤ v ∧ v ≤ 2147483647) ∧ (1 ≤ l.length ∧ l.length ≤ 32) ∧ incr 0 l = true := by
  unfold good at h
  simp only [Bool.and_eq_true, decide_eq_true_eq] at h
  exact ⟨h.1, h.2.1, h.2.2⟩
theorem good_all {v : Int} {l : List Int} (h : good v l = true) : ∀ n ∈ v :: l, 1 ≤ n ∧ n ≤ 2147483647 := by
  obtain ⟨h1, -, h3⟩ := good_out h
  intro n hn
  rcases List.mem_cons.1 hn with rfl | hn
  · exact h1
  · exact incr_pos (by omega) h3 n hn
theorem itoa_dec {n : Int} (h : 1 ≤ n) : Lib.itoa n = Lib.decDigits n.toNat := by
  have := Lib.itoa_nonneg n.toNat
  rwa [show ((n.toNat : Nat) : Int) = n by omega] at this
theorem pay_len : ∀ {l : List Int}, (∀ n ∈ l, 1 ≤ n ∧ n ≤ 2147483647) → (pay l).length ≤ 22 * l.length
  | [], _ => Nat.le_refl _
  | x :: r, h => by
    have := pay_len (l := r) (fun n hn => h n (by simp [hn]))
    have hx := h x (by simp)
    have := Lib.itoa_length_le x (by omega) (by omega)
    unfold pay at *
    rw [List.flatMap_cons, List.length_append, List.length_append, List.length_singleton, List.length_cons]
    omega
theorem enc_ok {v : Int} {l : List Int} (h : good v l = true) : Fr.encE 9 (pay (v :: l)) = 0 := by
  have h1 := pay_len (good_all h)
  have h2 := (good_out h).2.1
  unfold Fr.encE
  rw [if_neg (by omega), if_neg (by rw [List.length_cons] at h1; omega)]
-- Read back: by the library's parts.
def lines (p : List UInt8) : List (List UInt8) := Lib.splitK [10] 0 (p.count 10) p
def nums : List (List UInt8) → Option (List Int)
  | [] => some []
  | x :: r => match Lib.atoiAll x with
    | .ok n => (nums r).map (n :: ·)
    | _ => none
def fit (b : List UInt8) : List Int → Option (Int × List Int)
  | [] => none
  | v :: l => if good v l = true ∧ enc v l = b then some (v, l) else none
def read (b : List UInt8) : Option (Int × List Int) :=
  if Fr.decE b ≠ 0 ∨ Fr.kind b ≠ 9 then none else (nums (lines (Lib.trimSuffix (Fr.pay b) [10]))).bind (fit b)
theorem join_two (x y : List UInt8) (r : List (List UInt8)) (sep : List UInt8) : Lib.join (x :: y :: r) sep = x ++ (sep ++ Lib.join (y :: r) sep) := by
  simp [Lib.join, List.intercalate]
theorem index_line (x r : List UInt8) (h : (10 : UInt8) ∉ x) : Lib.index (x ++ 10 :: r) [10] = (x.length : Nat) := by
  apply Lib.index_first
  · simp
  · simp [Lib.occAt, List.isPrefixOf]
  · intro j hj
    unfold Lib.occAt
    have hd : (x ++ 10 :: r).drop j = x[j]'hj :: (x.drop (j + 1) ++ 10 :: r) := by
      rw [List.drop_append_of_le_length (by omega), List.drop_eq_getElem_cons hj]
      rfl
    rw [hd]
    have hne : (10 : UInt8) ≠ x[j]'hj := fun e => h (e ▸ List.getElem_mem hj)
    simp [List.isPrefixOf, hne]
theorem split_join : ∀ (x : List UInt8) (r : List (List UInt8)), (∀ l ∈ x :: r, (10 : UInt8) ∉ l) → lines (Lib.join (x :: r) [10]) = x :: r
  | x, [], h => by
    unfold lines
    rw [Lib.join_one, List.count_eq_zero_of_not_mem (h x (by simp))]
    rfl
  | x, y :: r, h => by
    have hx := h x (by simp)
    have ih := split_join y r (fun l hl => h l (by simp at hl ⊢; exact .inr hl))
    unfold lines at ih ⊢
    rw [join_two]
    show Lib.splitK [10] 0 ((x ++ 10 :: Lib.join (y :: r) [10]).count 10) (x ++ 10 :: Lib.join (y :: r) [10]) = _
    have hc : (x ++ 10 :: Lib.join (y :: r) [10]).count 10 = (Lib.join (y :: r) [10]).count 10 + 1 := by
      rw [List.count_append, List.count_eq_zero_of_not_mem hx, List.count_cons_self]
      omega
    rw [hc, Lib.splitK, index_line x _ hx, if_neg (by simp)]
    have e1 : ((x.length : Nat) : Int).toNat = x.length := by omega
    rw [e1]
    have e2 : (x ++ 10 :: Lib.join (y :: r) [10]).drop (x.length + ([10] : List UInt8).length) = Lib.join (y :: r) [10] := by
      rw [← List.drop_drop, List.drop_left]
      rfl
    rw [e2, ih]
    simp
theorem pay_join : ∀ (x : Int) (r : List Int), pay (x :: r) = Lib.join ((x :: r).map Lib.itoa) [10] ++ [10]
  | x, [] => by simp [pay, Lib.join_one]
  | x, y :: r => by
    have := pay_join y r
    unfold pay at this ⊢
    rw [List.flatMap_cons, this, show (x :: y :: r).map Lib.itoa = Lib.itoa x :: Lib.itoa y :: r.map Lib.itoa from rfl, join_two]
    simp
theorem trim_pay (x : Int) (r : List Int) : Lib.trimSuffix (pay (x :: r)) [10] = Lib.join ((x :: r).map Lib.itoa) [10] := by
  rw [pay_join]
  unfold Lib.trimSuffix
  rw [if_pos (by simp [Lib.hasSuffix, List.isSuffixOf])]
  simp
theorem dig_ne10 {c : UInt8} (h : Sg.isDig c = true) : c ≠ 10 := by
  intro e; rw [e] at h; revert h; decide
theorem itoa_no10 {n : Int} (h : 1 ≤ n) : (10 : UInt8) ∉ Lib.itoa n := by
  rw [itoa_dec h]
  intro hm
  have := List.all_eq_true.1 (Sg.dval_dec n.toNat 0).2 10 hm
  exact dig_ne10 this rfl
theorem nums_itoa : ∀ {l : List Int}, (∀ n ∈ l, 1 ≤ n ∧ n ≤ 2147483647) → nums (l.map Lib.itoa) = some l
  | [], _ => rfl
  | x :: r, h => by
    have hx := h x (by simp)
    have ih := nums_itoa (l := r) (fun n hn => h n (by simp [hn]))
    rw [List.map_cons, nums, itoa_dec hx.1, Sg.atoi_dec x.toNat (by omega), ih]
    show some (((x.toNat : Nat) : Int) :: r) = _
    rw [show ((x.toNat : Nat) : Int) = x by omega]
theorem fit_good {v : Int} {l : List Int} (h : good v l = true) : fit (enc v l) (v :: l) = some (v, l) := by
  rw [fit, if_pos ⟨h, rfl⟩]
theorem split_join_map {l : List Int} {v : Int} (h : ∀ n ∈ v :: l, 1 ≤ n ∧ n ≤ 2147483647) : lines (Lib.join ((v :: l).map Lib.itoa) [10]) = (v :: l).map Lib.itoa := by
  rw [List.map_cons]
  refine split_join _ _ (fun x hx => ?_)
  rw [← List.map_cons (f := Lib.itoa)] at hx
  obtain ⟨n, hn, rfl⟩ := List.mem_map.1 hx
  exact itoa_no10 (h n hn).1
theorem read_enc {v : Int} {l : List Int} (h : good v l = true) : read (enc v l) = some (v, l) := by
  have hd := Fr.dec_bytes (enc_ok h)
  have hk : Fr.kind (enc v l) = 9 := Fr.kind_bytes (by decide)
  have hp : Fr.pay (enc v l) = pay (v :: l) := Fr.pay_bytes
  unfold read
  rw [if_neg (by rw [hk]; intro hc; rcases hc with hc | hc; exact hc hd.1; exact hc rfl), hp, trim_pay, split_join_map (good_all h), nums_itoa (good_all h)]
  exact fit_good h
-- Read back: by the reference.
def scan : Nat → Nat → List Int → List UInt8 → Option (List Int)
  | _, _, acc, [] => some acc
  | n, d, acc, c :: r => if c.toNat = 10 then scan 0 0 (acc ++ [(n : Int)]) r else if Sg.isDig c = false ∨ 9 < d then none else scan (n * 10 + (c.toNat - 48)) (d + 1) acc r
end Mf
end Go.Proofs.YtcinagglbkbmkaaGreatDoor
namespace Go.Proofs.YtcinagglbkbmkaaGreatDoor
set_option linter.unusedSimpArgs false
set_option linter.unusedVariables false
open Go Go.RowKit
namespace Fs
/-- Steps one behind the other, to the first error. -/
def first : List (St → St × Int) → St → St × Int
  | [], st => (st, 0)
  | f :: r, st => if (f st).2 ≠ 0 then f st else first r (f st).1
theorem first_ok {f : St → St × Int} {r : List (St → St × Int)} {st st' : St} (h : f st = (st', 0)) : first (f :: r) st = first r st' := by
  rw [first, h, if_neg (by simp)]
end Fs
namespace Mf
def final : List UInt8 := [109, 97, 110, 105, 102, 101, 115, 116]
def draft : List UInt8 := [109, 97, 110, 105, 102, 101, 115, 116, 46, 116, 109, 112]
def clear (st : Fs.St) : Fs.St × Int := if Fs.mhas st.dir draft then Fs.remove st draft else (st, 0)
def steps (b : List UInt8) : List (Fs.St → Fs.St × Int) :=
  [clear, fun st => Fs.create st draft, fun st => Fs.append st draft b, fun st => Fs.sync st draft, fun st => Fs.rename st draft final, Fs.syncDir]
def save (st : Fs.St) (v : Int) (l : List Int) : Fs.St × Int := if good v l = false then (st, 1) else Fs.first (steps (enc v l)) st
def load (st : Fs.St) : (Int × List Int) × Int :=
  if Fs.openE st final ≠ 0 then ((0, []), Fs.openE st final) else match read (Fs.fileAt st final) with
    | some m => (m, 0)
    | none => ((0, []), 2)
theorem good_final : Fs.good final = true := by decide
theorem good_draft : Fs.good draft = true := by decide
theorem enc_len {v : Int} {l : List Int} (h : good v l = true) : (enc v l).length ≤ 800 := by
  have h1 := pay_len (good_all h)
  have h2 := (good_out h).2.1
  rw [List.length_cons] at h1
  unfold enc
  rw [Fr.bytes_len]
  omega
theorem load_look {st : Fs.St} {v : Int} {l : List Int} (h : good v l = true) (hf : Fs.look st final = some (enc v l)) : load st = ((v, l), 0) := by
  obtain ⟨h1, h2⟩ := Fs.look_some hf
  unfold load
  rw [if_neg (by rw [Fs.openE_of good_final h1]; simp), h2, read_enc h]
theorem load_none {st : Fs.St} (hf : Fs.look st final = none) : load st = ((0, []), 3) := by
  have h1 := Fs.look_none hf
  have : Fs.openE st final = 3 := by unfold Fs.openE; rw [if_neg (by rw [good_final]; simp), if_pos h1]
  unfold load
  rw [this, if_pos (by simp)]
/-- A manifest is saved, in calm weather. -/
theorem save_calm {st : Fs.St} (hc : Fs.Calm st) (hi : Fs.Inv st) {v : Int} {l : List Int} (hg : good v l = true) (hd : st.dir.length < 64) {M : Nat} (hM : ∀ n b, Fs.look st n = some b → b.length ≤ M)
    (hr : ((st.dir.length + 1) * M + 800 : Nat) ≤ st.room) (hfl : ∀ f ∈ st.files, f.1.length ≤ 65536) :
    (save st v l).2 = 0 ∧ Fs.Next st (save st v l).1 3 ∧ (save st v l).1.dir.length ≤ st.dir.length + 1 ∧ (Fs.mhas st.dir final = true → (save st v l).1.dir.length ≤ st.dir.length) ∧
      (∀ f ∈ (save st v l).1.files, f.1.length ≤ 65536) ∧ ∀ m, Fs.look (save st v l).1 m = if m = final then some (enc v l) else if m = draft then none else Fs.look st m := by
  have hel := enc_len hg
  have hs : save st v l = Fs.first (steps (enc v l)) st := by unfold save; rw [if_neg (by rw [hg]; simp)]
  rw [hs]
  clear hs
  have hfd : ¬ final = draft := by decide
  -- the draft's absence
  obtain ⟨s1, e1, n1, d1, d1', g1, f1, k1⟩ : ∃ s1, clear st = (s1, 0) ∧ Fs.Next st s1 1 ∧ s1.dir.length ≤ st.dir.length ∧ s1.dir.length + 1 ≤ 64 ∧ (Fs.mhas s1.dir final = Fs.mhas st.dir final) ∧ s1.files = st.files ∧ ∀ m, Fs.look s1 m = if m = draft then none else Fs.look st m := by
    cases hh : Fs.mhas st.dir draft
    · refine ⟨st, by unfold clear; rw [hh]; rfl, ⟨hc, hi, rfl, Nat.le_succ _, Nat.le_succ _⟩, Nat.le_refl _, hd, rfl, rfl, fun m => ?_⟩
      by_cases hm : m = draft
      · rw [if_pos hm, hm]; unfold Fs.look; rw [hh]; rfl
      · rw [if_neg hm]
    · obtain ⟨h1, h2, h3, h4, h5⟩ := Fs.calm_remove hc hi good_draft hh
      refine ⟨(Fs.remove st draft).1, by unfold clear; rw [if_pos hh]; exact Prod.ext rfl h1, h2, by rw [h3]; exact Fs.mdel_len _ _, by rw [h3]; have := Fs.mdel_len st.dir draft; omega, ?_, h4, h5⟩
      rw [h3, Fs.mhas_mdel, decide_eq_false hfd]; rfl
  have hnd : Fs.mhas s1.dir draft = false := Fs.look_none (by rw [k1, if_pos rfl])
  obtain ⟨c1, n2, dl2, k2⟩ := Fs.calm_create n1.calm n1.inv good_draft hnd (by omega)
  have f2 : (Fs.create s1 draft).1.files = s1.files ++ [([], 0)] := by
    unfold Fs.create
    rw [if_neg (by rw [good_draft]; simp), if_neg (by rw [hnd]; simp), if_neg (by omega), if_neg (by rw [Fs.step_calm n1.calm]; simp)]
  have e2 : (fun st => Fs.create st draft) s1 = ((Fs.create s1 draft).1, 0) := Prod.ext rfl c1
  generalize hs2 : (Fs.create s1 draft).1 = s2 at *
  have u2 : Fs.used s2 ≤ s2.dir.length * M := Fs.used_look n2.inv (fun n b hb => by
    rw [k2] at hb
    by_cases hn : n = draft
    · rw [if_pos hn] at hb; simp at hb; subst hb; exact Nat.zero_le _
    · rw [if_neg hn, k1, if_neg hn] at hb; exact hM n b hb)
  have u2' : s2.dir.length * M ≤ (st.dir.length + 1) * M := Nat.mul_le_mul_right M (by omega)
  obtain ⟨c3, n3, dl3, ⟨i3, f3⟩, k3⟩ := Fs.calm_append (b := enc v l) n2.calm n2.inv good_draft (old := []) (by rw [k2, if_pos rfl]) (by simp; omega) (by have h4 := n2.room; have h5 := n1.room; omega)
  have e3 : (fun st => Fs.append st draft (enc v l)) s2 = ((Fs.append s2 draft (enc v l)).1, 0) := Prod.ext rfl c3
  generalize hs3 : (Fs.append s2 draft (enc v l)).1 = s3 at *
  obtain ⟨c4, n4, dl4, ⟨i4, f4⟩, k4⟩ := Fs.calm_sync n3.calm n3.inv good_draft (old := [] ++ enc v l) (by rw [k3, if_pos rfl])
  have e4 : (fun st => Fs.sync st draft) s3 = ((Fs.sync s3 draft).1, 0) := Prod.ext rfl c4
  generalize hs4 : (Fs.sync s3 draft).1 = s4 at *
  obtain ⟨c5, n5, dl5, dl5', f5, k5⟩ := Fs.calm_rename (nt := final) n4.calm n4.inv good_draft good_final (by decide) (old := [] ++ enc v l) (by rw [k4, k3, if_pos rfl])
  have e5 : (fun st => Fs.rename st draft final) s4 = ((Fs.rename s4 draft final).1, 0) := Prod.ext rfl c5
  generalize hs5 : (Fs.rename s4 draft final).1 = s5 at *
  obtain ⟨c6, n6, dl6, f6, k6⟩ := Fs.calm_syncDir n5.calm n5.inv
  have e6 : Fs.syncDir s5 = ((Fs.syncDir s5).1, 0) := Prod.ext rfl c6
  generalize hs6 : (Fs.syncDir s5).1 = s6 at *
  have hall : Fs.first (steps (enc v l)) st = (s6, 0) := by
    unfold steps
    rw [Fs.first_ok e1, Fs.first_ok e2, Fs.first_ok e3, Fs.first_ok e4, Fs.first_ok e5, Fs.first_ok e6, Fs.first]
  rw [hall]
  refine ⟨rfl, ((((((n1.trans n2).trans n3).trans n4).trans n5).trans n6) : _), ?_, ?_, ?_, ?_⟩
  · show s6.dir.length ≤ _
    rw [dl6]; rw [dl4, dl3, dl2] at dl5; omega
  · intro hf
    show s6.dir.length ≤ _
    have h4 : Fs.mhas s4.dir final = true := by
      have : (Fs.look s4 final).isSome := by
        rw [k4, k3, if_neg hfd, k2, if_neg hfd, k1, if_neg hfd]
        unfold Fs.look; rw [if_pos hf]; rfl
      cases hx : Fs.mhas s4.dir final
      · unfold Fs.look at this; rw [hx] at this; cases this
      · rfl
    have := dl5' h4
    rw [dl6]; rw [dl4, dl3, dl2] at this; omega
  · show ∀ f ∈ s6.files, _
    rw [f6, f5, f4, f3, f2, f1]
    intro f hf
    rcases List.mem_or_eq_of_mem_set hf with hf | rfl
    · rcases List.mem_or_eq_of_mem_set hf with hf | rfl
      · rcases List.mem_append.1 hf with hf | hf
        · exact hfl f hf
        · simp at hf; subst hf; exact Nat.zero_le _
      · show ([] ++ enc v l).length ≤ _; simp; omega
    · show ([] ++ enc v l).length ≤ _; simp; omega
  · intro m
    show Fs.look s6 m = _
    rw [k6, k5]
    by_cases hm : m = final
    · rw [if_pos hm, if_pos hm]; rfl
    · rw [if_neg hm, if_neg hm]
      by_cases hd2 : m = draft
      · rw [if_pos hd2, if_pos hd2]
      · rw [if_neg hd2, if_neg hd2, k4, k3, if_neg hd2, k2, if_neg hd2, k1, if_neg hd2]
end Mf
end Go.Proofs.YtcinagglbkbmkaaGreatDoor
namespace Go.Proofs.YtcinagglbkbmkaaGreatDoor
set_option linter.unusedSimpArgs false
set_option linter.unusedVariables false
open Go Go.RowKit
namespace Fs
/-- The names' order. -/
def keys (D : Names) : List (List UInt8) := (D.map (·.1)).mergeSort (fun x y => decide (x ≤ y))
/-- The directory behind the first changes. -/
def crashDir (st : St) (k : Nat) : Names := (st.changes.take k).foldl doAll st.sure
/-- Names and files, one for one. -/
structure InvA (fs : List (List UInt8 × Nat)) (d : Names) : Prop where
  nd : d.Pairwise (fun p q => p.1 ≠ q.1)
  inj : ∀ p ∈ d, ∀ q ∈ d, p.2 = q.2 → p.1 = q.1
  known : ∀ p ∈ d, 0 ≤ p.2 ∧ p.2 < fs.length
  gd : ∀ p ∈ d, good p.1 = true
  full : ∀ f ∈ fs, f.2 = f.1.length
theorem keys_mem {D : Names} {n : List UInt8} : n ∈ keys D ↔ mhas D n = true := by
  unfold keys
  rw [List.mem_mergeSort, mhas_mem, List.mem_map]
theorem keys_nodup {D : Names} (h : D.Pairwise (fun p q => p.1 ≠ q.1)) : (keys D).Nodup := by
  unfold keys
  refine (List.mergeSort_perm _ _).nodup_iff.2 ?_
  rw [List.nodup_iff_pairwise_ne, List.pairwise_map]
  exact h
theorem keys_len (D : Names) : (keys D).length = D.length := by unfold keys; rw [List.length_mergeSort, List.length_map]
end Fs
end Go.Proofs.YtcinagglbkbmkaaGreatDoor
namespace Go.Proofs.YtcinagglbkbmkaaGreatDoor
set_option linter.unusedSimpArgs false
set_option linter.unusedVariables false
open Go Go.RowKit
namespace Fs
structure Sound (st : St) (k : Nat) : Prop where
  dir : ∀ p ∈ st.dir, (0 ≤ p.2 ∧ p.2 < st.files.length) ∧ good p.1 = true
  sure : ∀ p ∈ st.sure, (0 ≤ p.2 ∧ p.2 < st.files.length) ∧ good p.1 = true
  chg : ∀ l ∈ st.changes, (∀ p ∈ l, p.2 < st.files.length ∧ good p.1 = true) ∧ l.length ≤ 2
  nd : st.dir.Pairwise (fun p q => p.1 ≠ q.1)
  nds : st.sure.Pairwise (fun p q => p.1 ≠ q.1)
  full : ∀ f ∈ st.files, f.2 ≤ f.1.length ∧ f.1.length ≤ 65536
  room : 0 ≤ st.room ∧ st.room ≤ 1048576
  nf : st.files.length ≤ k
  nc : st.changes.length ≤ k
  ndir : st.dir.length ≤ k
  nsure : st.sure.length ≤ k
theorem Sound.mono {st : St} {k j : Nat} (h : Sound st k) (hj : k ≤ j) : Sound st j := { h with nf := Nat.le_trans h.nf hj, nc := Nat.le_trans h.nc hj, ndir := Nat.le_trans h.ndir hj, nsure := Nat.le_trans h.nsure hj }
theorem Sound.new {room : Int} (h : 0 ≤ room ∧ room ≤ 1048576) (k : Nat) : Sound (new room) k :=
  ⟨fun p hp => by (cases hp), fun p hp => by (cases hp), fun p hp => by (cases hp), List.Pairwise.nil, List.Pairwise.nil, fun p hp => by (cases hp), h, Nat.zero_le _, Nat.zero_le _, Nat.zero_le _, Nat.zero_le _⟩
/-- Only the power has turned. -/
theorem step_eq (st : St) : ∃ s l p, (step st).1 = { st with steps := s, left := l, plan := p } := by
  unfold step
  split
  · exact ⟨st.steps, st.left, st.plan, rfl⟩
  · exact ⟨_, _, _, rfl⟩
theorem good_len {n : List UInt8} (h : good n = true) : n.length ≤ 20 := by
  unfold good at h
  simp only [Bool.and_eq_true, decide_eq_true_eq] at h
  exact h.1.2
section
set_option linter.unusedSectionVars false
variable {st : St} {k : Nat} (h : Sound st k)
include h
theorem Sound.power (s l : Int) (p : List Int) : Sound { st with steps := s, left := l, plan := p } k := ⟨h.dir, h.sure, h.chg, h.nd, h.nds, h.full, h.room, h.nf, h.nc, h.ndir, h.nsure⟩
theorem Sound.step : Sound (Fs.step st).1 k := by
  obtain ⟨s, l, p, e⟩ := step_eq st
  rw [e]
  exact h.power s l p
theorem Sound.turned {l : Names} (hl : ∀ p ∈ l, p.2 < st.files.length ∧ good p.1 = true) (hl2 : l.length ≤ 2) : Sound (turned st l) (k + 2) := by
  have key : ∀ (l d : Names), (∀ p ∈ l, p.2 < st.files.length ∧ good p.1 = true) → (∀ p ∈ d, (0 ≤ p.2 ∧ p.2 < st.files.length) ∧ good p.1 = true) → d.Pairwise (fun p q => p.1 ≠ q.1) →
      (∀ p ∈ doAll d l, (0 ≤ p.2 ∧ p.2 < st.files.length) ∧ good p.1 = true) ∧ (doAll d l).Pairwise (fun p q => p.1 ≠ q.1) := by
    intro l
    induction l with
    | nil => intro d _ h1 h2; exact ⟨h1, h2⟩
    | cons c l ih =>
      intro d hl h1 h2
      have hc := hl c List.mem_cons_self
      refine ih (doOne d c) (fun p hp => hl p (List.mem_cons_of_mem _ hp)) ?_ ?_
      · unfold doOne
        split
        · exact fun p hp => h1 p (mdel_mem.1 hp).1
        · intro p hp
          rcases mput_mem.1 hp with rfl | ⟨hp, _⟩
          · exact ⟨⟨by simp only; omega, hc.1⟩, hc.2⟩
          · exact h1 p hp
      · unfold doOne
        split
        · exact pw_mdel h2
        · exact pw_mput h2
  obtain ⟨k1, k2⟩ := key l st.dir hl h.dir h.nd
  have := doAll_len l st.dir
  refine ⟨k1, h.sure, fun l' hl' => ?_, k2, h.nds, h.full, h.room, Nat.le_trans h.nf (by omega), ?_, ?_, Nat.le_trans h.nsure (by omega)⟩
  · rcases List.mem_append.1 hl' with hx | hx
    · exact h.chg l' hx
    · simp at hx; subst hx; exact ⟨hl, hl2⟩
  · show (st.changes ++ [l]).length ≤ _
    have := h.nc
    simp; omega
  · show (doAll st.dir l).length ≤ _
    have := h.ndir
    omega
theorem Sound.files {fs : List (List UInt8 × Nat)} (hn : fs.length = st.files.length) (hf : ∀ f ∈ fs, f.2 ≤ f.1.length ∧ f.1.length ≤ 65536) : Sound { st with files := fs } k :=
  ⟨by rw [hn]; exact h.dir, by rw [hn]; exact h.sure, by rw [hn]; exact h.chg, h.nd, h.nds, hf, h.room, by rw [hn]; exact h.nf, h.nc, h.ndir, h.nsure⟩
theorem Sound.create (n : List UInt8) : Sound (create st n).1 (k + 2) := by
  unfold Fs.create
  split
  · exact h.mono (by omega)
  split
  · exact h.mono (by omega)
  split
  · exact h.mono (by omega)
  split
  · exact h.step.mono (by omega)
  rename_i hg _ _ _
  have hg' : good n = true := by simpa using hg
  obtain ⟨s, l, p, e⟩ := step_eq st
  rw [e]
  have h1 : Sound { st with steps := s, left := l, plan := p, files := st.files ++ [([], 0)] } (k + 1) := by
    have e1 : (st.files ++ [(([] : List UInt8), 0)]).length = st.files.length + 1 := by simp
    refine ⟨?_, ?_, ?_, h.nd, h.nds, ?_, h.room, ?_, Nat.le_succ_of_le h.nc, Nat.le_succ_of_le h.ndir, Nat.le_succ_of_le h.nsure⟩
    · intro p hp; have := h.dir p hp; exact ⟨⟨this.1.1, by show p.2 < ((st.files ++ [(([] : List UInt8), 0)]).length : Int); rw [e1]; omega⟩, this.2⟩
    · intro p hp; have := h.sure p hp; exact ⟨⟨this.1.1, by show p.2 < ((st.files ++ [(([] : List UInt8), 0)]).length : Int); rw [e1]; omega⟩, this.2⟩
    · intro l hl; exact ⟨fun p hp => ⟨by show p.2 < ((st.files ++ [(([] : List UInt8), 0)]).length : Int); rw [e1]; have := ((h.chg l hl).1 p hp).1; omega, ((h.chg l hl).1 p hp).2⟩, (h.chg l hl).2⟩
    · intro f hf
      rcases List.mem_append.1 hf with hf | hf
      · exact h.full f hf
      · simp at hf; subst hf; simp
    · show (st.files ++ [(([] : List UInt8), 0)]).length ≤ _
      rw [e1]; have := h.nf; omega
  refine ⟨?_, h1.sure, ?_, pw_mput h.nd, h.nds, h1.full, h.room, Nat.le_succ_of_le h1.nf, ?_, ?_, Nat.le_trans h.nsure (by omega)⟩
  · intro p hp
    rcases mput_mem.1 hp with rfl | ⟨hp, _⟩
    · exact ⟨⟨by simp, by simp; omega⟩, hg'⟩
    · exact h1.dir p hp
  · intro l hl
    rcases List.mem_append.1 hl with hx | hx
    · exact h1.chg l hx
    · simp at hx; subst hx; exact ⟨fun p hp => by simp at hp; subst hp; exact ⟨by simp; omega, hg'⟩, by simp⟩
  · show (st.changes ++ [_]).length ≤ _
    have := h.nc; simp; omega
  · show (mput st.dir n _).length ≤ _
    have := mput_len st.dir n st.files.length
    have := h.ndir; omega
theorem Sound.grow (i : Nat) (b : List UInt8) (hb : ∀ f, st.files[i]? = some f → f.1.length + b.length ≤ 65536) : Sound { st with files := grow st.files i b } k := by
  unfold Fs.grow
  cases hf : st.files[i]? with
  | none => exact h
  | some f =>
    refine h.files (by simp) (fun g hg => ?_)
    rcases List.mem_or_eq_of_mem_set hg with hg | rfl
    · exact h.full g hg
    · have := h.full f (List.mem_of_getElem? hf)
      have := hb f hf
      simp; omega
theorem Sound.append (n b : List UInt8) : Sound (append st n b).1 k := by
  unfold Fs.append
  split
  · exact h
  split
  · exact h
  rename_i ho hl
  have hb : ∀ (c : List UInt8), c.length ≤ b.length → ∀ f, st.files[Fs.idx st n]? = some f → f.1.length + c.length ≤ 65536 := by
    intro c hc f hf
    unfold fileAt at hl
    rw [hf] at hl
    simp only at hl
    omega
  obtain ⟨s, l, p, e⟩ := step_eq st
  split
  · split
    · rw [e]
      exact (h.grow _ _ (hb _ (by simp; omega))).power s l p
    · exact h.step
  split
  · exact h.step
  · rw [e]
    exact (h.grow _ _ (hb _ (Nat.le_refl _))).power s l p
theorem Sound.flush (i : Nat) : Sound { st with files := flush st.files i } k := by
  unfold Fs.flush
  cases hf : st.files[i]? with
  | none => exact h
  | some f =>
    refine h.files (by simp) (fun g hg => ?_)
    rcases List.mem_or_eq_of_mem_set hg with hg | rfl
    · exact h.full g hg
    · have := h.full f (List.mem_of_getElem? hf)
      exact ⟨Nat.le_refl _, this.2⟩
theorem Sound.sync (n : List UInt8) : Sound (sync st n).1 k := by
  unfold Fs.sync
  split
  · exact h
  split
  · exact h.step
  · obtain ⟨s, l, p, e⟩ := step_eq st
    rw [e]
    exact (h.flush _).power s l p
theorem Sound.syncDir : Sound (syncDir st).1 k := by
  unfold Fs.syncDir
  split
  · exact h.step
  · obtain ⟨s, l, p, e⟩ := step_eq st
    rw [e]
    exact ⟨h.dir, h.dir, fun l hl => (by cases hl), h.nd, h.nd, h.full, h.room, h.nf, Nat.zero_le _, h.ndir, h.ndir⟩
theorem Sound.remove (n : List UInt8) : Sound (remove st n).1 (k + 2) := by
  unfold Fs.remove
  split
  · exact h.mono (by omega)
  rename_i ho
  split
  · exact h.step.mono (by omega)
  · have hg : good n = true := by
      cases hx : good n
      · exact absurd (by unfold openE; rw [if_pos hx]; decide) ho
      · rfl
    refine h.step.turned (fun p hp => ?_) (by simp)
    simp at hp; subst hp
    exact ⟨by simp only; omega, hg⟩
theorem Sound.rename (a b : List UInt8) : Sound (rename st a b).1 (k + 2) := by
  unfold Fs.rename
  split
  · exact h.mono (by omega)
  rename_i hg
  split
  · exact h.mono (by omega)
  rename_i hh
  split
  · exact h.step.mono (by omega)
  · have hg' : good a = true ∧ good b = true := by
      rw [Bool.not_eq_false, Bool.and_eq_true] at hg
      exact hg
    obtain ⟨p, hp1, hp2, hp3⟩ := mget_mem (l := st.dir) (k := a) (by simpa using hh)
    refine h.step.turned (fun q hq => ?_) (by simp)
    rw [step_files]
    simp at hq
    rcases hq with rfl | rfl
    · exact ⟨by simp only; omega, hg'.1⟩
    · exact ⟨by simp only; rw [← hp3]; exact (h.dir p hp1).1.2, hg'.2⟩
theorem doAll_sound : ∀ (l d : Names), (∀ p ∈ l, p.2 < st.files.length ∧ good p.1 = true) → (∀ p ∈ d, (0 ≤ p.2 ∧ p.2 < st.files.length) ∧ good p.1 = true) → d.Pairwise (fun p q => p.1 ≠ q.1) →
    (∀ p ∈ doAll d l, (0 ≤ p.2 ∧ p.2 < st.files.length) ∧ good p.1 = true) ∧ (doAll d l).Pairwise (fun p q => p.1 ≠ q.1)
  | [], d, _, h1, h2 => ⟨h1, h2⟩
  | c :: l, d, hl, h1, h2 => by
    have hc := hl c List.mem_cons_self
    refine doAll_sound l (doOne d c) (fun p hp => hl p (List.mem_cons_of_mem _ hp)) ?_ ?_
    · unfold doOne
      split
      · exact fun p hp => h1 p (mdel_mem.1 hp).1
      · intro p hp
        rcases mput_mem.1 hp with rfl | ⟨hp, _⟩
        · exact ⟨⟨by simp only; omega, hc.1⟩, hc.2⟩
        · exact h1 p hp
    · unfold doOne
      split
      · exact pw_mdel h2
      · exact pw_mput h2
theorem Sound.crashDir (j : Nat) : (∀ p ∈ Fs.crashDir st j, (0 ≤ p.2 ∧ p.2 < st.files.length) ∧ good p.1 = true) ∧ (Fs.crashDir st j).Pairwise (fun p q => p.1 ≠ q.1) ∧ (Fs.crashDir st j).length ≤ k + 2 * j := by
  unfold Fs.crashDir
  have key : ∀ (L : List Names) (d : Names), (∀ l ∈ L, (∀ p ∈ l, p.2 < st.files.length ∧ good p.1 = true) ∧ l.length ≤ 2) → (∀ p ∈ d, (0 ≤ p.2 ∧ p.2 < st.files.length) ∧ good p.1 = true) → d.Pairwise (fun p q => p.1 ≠ q.1) →
      (∀ p ∈ L.foldl doAll d, (0 ≤ p.2 ∧ p.2 < st.files.length) ∧ good p.1 = true) ∧ (L.foldl doAll d).Pairwise (fun p q => p.1 ≠ q.1) ∧ (L.foldl doAll d).length ≤ d.length + 2 * L.length := by
    intro L
    induction L with
    | nil => intro d _ h1 h2; exact ⟨h1, h2, Nat.le_refl _⟩
    | cons l L ih =>
      intro d hL h1 h2
      obtain ⟨k1, k2⟩ := doAll_sound h l d (hL l List.mem_cons_self).1 h1 h2
      obtain ⟨a1, a2, a3⟩ := ih (doAll d l) (fun x hx => hL x (List.mem_cons_of_mem _ hx)) k1 k2
      refine ⟨a1, a2, Nat.le_trans a3 ?_⟩
      have := doAll_len l d
      have := (hL l List.mem_cons_self).2
      rw [List.length_cons]; omega
  obtain ⟨a1, a2, a3⟩ := key (st.changes.take j) st.sure (fun l hl => h.chg l (List.mem_of_mem_take hl)) h.sure h.nds
  refine ⟨a1, a2, Nat.le_trans a3 ?_⟩
  have := h.nsure
  have : (st.changes.take j).length ≤ j := by simp; omega
  omega
end
end Fs
end Go.Proofs.YtcinagglbkbmkaaGreatDoor
namespace Go.Proofs.YtcinagglbkbmkaaGreatDoor
set_option linter.unusedSimpArgs false
set_option linter.unusedVariables false
open Go Go.RowKit
namespace Mf
open Fs
/-- Behind a crash: the manifest that there is, perhaps a draft. -/
structure Round (st : St) (cur : Option (List UInt8)) : Prop where
  sound : Sound st 2
  sure : st.sure = st.dir
  chg : st.changes = []
  full : ∀ f ∈ st.files, f.2 = f.1.length
  two : ∀ p ∈ st.dir, p.1 = final ∨ p.1 = draft
  cur : (mhas st.dir final = false → cur = none) ∧ (mhas st.dir final = true → ∃ b, st.files[(mget st.dir final).toNat]? = some (b, b.length) ∧ cur = some b)
/-- Wherever the directory stands: the manifest is the elder one, or the new one. -/
def Sw (st : St) (cur : Option (List UInt8)) (new : List UInt8) (sure : Prop) : Prop :=
  ∀ j, (∀ p ∈ crashDir st j, p.1 = final ∨ p.1 = draft) ∧ (mhas (crashDir st j) final = false → cur = none ∧ ¬ sure) ∧
    (mhas (crashDir st j) final = true → ∃ b, st.files[(mget (crashDir st j) final).toNat]? = some (b, b.length) ∧ ((cur = some b ∧ ¬ sure) ∨ new = b))
/-- The draft alone has turned. -/
structure Mid (s0 st : St) : Prop where
  files : ∃ ex, st.files = s0.files ++ ex
  sure : st.sure = s0.dir
  chg : ∀ l ∈ st.changes, ∀ p ∈ l, p.1 = draft
theorem Mid.alike {s0 st st' : St} (h : Mid s0 st) (e1 : st'.files = st.files) (e2 : st'.sure = st.sure) (e3 : st'.changes = st.changes) : Mid s0 st' :=
  ⟨by rw [e1]; exact h.files, by rw [e2]; exact h.sure, by rw [e3]; exact h.chg⟩
theorem Mid.step {s0 st : St} (h : Mid s0 st) : Mid s0 (Fs.step st).1 := by
  obtain ⟨s, l, p, e⟩ := step_eq st
  exact h.alike (by rw [e]) (by rw [e]) (by rw [e])
theorem Mid.set {s0 st : St} (h : Mid s0 st) {i : Nat} (hi : s0.files.length ≤ i) (f : List UInt8 × Nat) : Mid s0 { st with files := st.files.set i f } := by
  obtain ⟨ex, e⟩ := h.files
  refine ⟨⟨ex.set (i - s0.files.length) f, ?_⟩, h.sure, h.chg⟩
  show st.files.set i f = _
  rw [e, List.set_append_right _ _ hi]
theorem Mid.turned {s0 st : St} (h : Mid s0 st) {l : Names} (hl : ∀ p ∈ l, p.1 = draft) : Mid s0 (turned st l) := by
  refine ⟨h.files, h.sure, fun x hx => ?_⟩
  rcases List.mem_append.1 hx with hx | hx
  · exact h.chg x hx
  · simp at hx; subst hx; exact hl
theorem Mid.clear {s0 st : St} (h : Mid s0 st) : Mid s0 (clear st).1 := by
  unfold Mf.clear
  split
  · unfold Fs.remove
    split
    · exact h
    split
    · exact h.step
    · exact h.step.turned (fun p hp => by simp at hp; rw [hp])
  · exact h
/-- The draft's file is a new one. -/
structure Drafted (s0 st : St) (N : Nat) : Prop extends Mid s0 st where
  new : s0.files.length ≤ N ∧ N < st.files.length
  there : mhas st.dir draft = true ∧ mget st.dir draft = (N : Int)
  two : ∀ p ∈ st.dir, p.1 = final ∨ p.1 = draft
theorem Drafted.idx {s0 st : St} {N : Nat} (h : Drafted s0 st N) : Fs.idx st draft = N := by unfold Fs.idx; rw [h.there.2]; rfl
theorem Drafted.open {s0 st : St} {N : Nat} (h : Drafted s0 st N) : openE st draft = 0 := openE_of good_draft h.there.1
theorem Drafted.step {s0 st : St} {N : Nat} (h : Drafted s0 st N) : Drafted s0 (Fs.step st).1 N := by
  have hm := h.toMid.step
  obtain ⟨s, l, p, e⟩ := step_eq st
  refine ⟨hm, ?_, ?_, ?_⟩ <;> rw [e]
  · exact h.new
  · exact h.there
  · exact h.two
theorem Drafted.set {s0 st : St} {N : Nat} (h : Drafted s0 st N) (f : List UInt8 × Nat) : Drafted s0 { st with files := st.files.set N f } N :=
  ⟨h.toMid.set h.new.1 f, ⟨h.new.1, by show N < (st.files.set N f).length; rw [List.length_set]; exact h.new.2⟩, h.there, h.two⟩
theorem Drafted.grow {s0 st : St} {N : Nat} (h : Drafted s0 st N) (b : List UInt8) : ∃ f, st.files[N]? = some f ∧ grow st.files N b = st.files.set N (f.1 ++ b, f.2) := by
  obtain ⟨f, hf⟩ : ∃ f, st.files[N]? = some f := ⟨_, List.getElem?_eq_getElem h.new.2⟩
  exact ⟨f, hf, by unfold Fs.grow; rw [hf]⟩
/-- The new manifest has its name, perhaps not surely. -/
structure Named (s0 st : St) (new : List UInt8) (N : Nat) : Prop where
  files : ∃ ex, st.files = s0.files ++ ex
  file : st.files[N]? = some (new, new.length)
  sure : st.sure = s0.dir
  chg : ∃ ch, st.changes = ch ++ [[(draft, -1), (final, (N : Int))]] ∧ ∀ l ∈ ch, ∀ p ∈ l, p.1 = draft
  dir : mhas st.dir final = true ∧ mget st.dir final = (N : Int)
  two : ∀ p ∈ st.dir, p.1 = final ∨ p.1 = draft
theorem Sw.fail {st : St} {cur : Option (List UInt8)} {new : List UInt8} {A : Prop} (h : Sw st cur new False) (hA : ¬ A) : Sw st cur new A := fun j => by
  obtain ⟨a, b, c⟩ := h j
  exact ⟨a, fun hh => ⟨(b hh).1, hA⟩, fun hh => by obtain ⟨b, k1, k2⟩ := c hh; exact ⟨b, k1, k2.imp (fun q => ⟨q.1, hA⟩) id⟩⟩
theorem Round.new {room : Int} (h : 0 ≤ room ∧ room ≤ 1048576) : Round (Fs.new room) none :=
  ⟨Sound.new h 2, rfl, rfl, fun f hf => by (cases hf), fun p hp => by (cases hp), fun _ => rfl, fun x => (by cases x)⟩
theorem Round.load {st : St} {cur : Option (List UInt8)} (h : Round st cur) : (cur = none → load st = ((0, []), 3)) ∧ (∀ v l, good v l = true → cur = some (enc v l) → load st = ((v, l), 0)) := by
  constructor
  · intro hc
    have h1 : mhas st.dir final = false := by
      cases hx : mhas st.dir final
      · rfl
      · obtain ⟨b, _, e⟩ := h.cur.2 hx; rw [hc] at e; cases e
    exact load_none (by unfold Fs.look; rw [h1]; rfl)
  · intro v l hg hc
    have h1 : mhas st.dir final = true := by
      cases hx : mhas st.dir final
      · have := h.cur.1 hx; rw [hc] at this; cases this
      · rfl
    obtain ⟨b, e1, e2⟩ := h.cur.2 h1
    refine load_look hg ?_
    have hb : b = enc v l := by rw [hc] at e2; exact (Option.some.inj e2).symm
    unfold Fs.look
    rw [if_pos h1]
    unfold fileAt Fs.idx
    rw [e1, hb]
end Mf
end Go.Proofs.YtcinagglbkbmkaaGreatDoor
namespace Go.Proofs.YtcinagglbkbmkaaGreatDoor
set_option linter.unusedSimpArgs false
set_option linter.unusedVariables false
open Go Go.RowKit
open Go.Maps Go.WideMaps

/-- A slice of numbers, wherever it lies. -/
abbrev Nums (w : World) (v : Value) (l : List Int) : Prop := Ints w v l
theorem Nums.ints {w : World} {v : Value} {l : List Int} (h : Nums w v l) : Ints w v l := h
theorem Mf.good_bad {v : Int} {l : List Int} (h : v < 1 ∨ 2147483647 < v ∨ l.length < 1 ∨ 32 < l.length) : Mf.good v l = false := by
  cases hg : Mf.good v l
  · rfl
  · have := Mf.good_out hg; omega
theorem Mf.good_incr {v : Int} {l : List Int} (h1 : 1 ≤ v) (h2 : v ≤ 2147483647) (h3 : 1 ≤ l.length) (h4 : l.length ≤ 32) : Mf.good v l = Mf.incr 0 l := by
  unfold Mf.good
  rw [decide_eq_true h1, decide_eq_true h2, decide_eq_true h3, decide_eq_true h4]
  rfl
theorem Mf.incr_drop {l : List Int} {j : Nat} {x : Int} (h : l[j]? = some x) (last : Int) : Mf.incr last (l.drop j) = (decide (last < x) && (decide (x ≤ 2147483647) && Mf.incr x (l.drop (j + 1)))) := by
  obtain ⟨h1, h2⟩ := List.getElem?_eq_some_iff.1 h
  rw [List.drop_eq_getElem_cons h1, h2, Mf.incr]
def Mf.chk (v : Int) (l : List Int) : Int := if Mf.good v l then 0 else 1
set_option maxHeartbeats 1000000 in
set_option maxRecDepth 100000 in
theorem check_any (ver : Int) (sv : Value) (l : List Int) (w : World) (hS : Nums w sv l) (hl : l.length ≤ 1000000000) :
    Calls Tryz.prog 17 #[.agg #[.int .i64 ver, sv]] w fun e w' => e = .returned (.int .i64 (Mf.chk ver l)) ∧ Below w.heap.size w w' := by
  obtain ⟨sa, sc, rfl⟩ := hS.form
  have hb : Below w.heap.size w (w.alloc (.cells #[.int .i64 ver, .slice sa l.length sc] 24)) := (Below.refl _ _).alloc (Nat.le_refl _) _
  have HS := Lib.hid (hS.below hb)
  have hr := heap_new w (.cells #[.int .i64 ver, .slice sa l.length sc] 24)
  have y0 := root_cell hr 0 _ rfl
  have y1 := root_cell hr 1 _ rfl
  have HB := Lib.hid hb
  have hl0 : (0 : Int) ≤ (l.length : Int) := Int.natCast_nonneg _
  clear hS hr hb
  go_enter Tryz.func17, Tryz.ntmps17
  by_cases h1 : ver < 1
  · skip
    have HE : Hid (Mf.chk ver l = 1) := by unfold Mf.chk; rw [Mf.good_bad (by omega)]; exact Lib.hid rfl
    go_wp2_with fail
    go_ret
    exact ⟨congrArg (fun x => Ending.returned (.int .i64 x)) HE.out.symm, (Below.refl _ _).alloc (Nat.le_refl _) _⟩
  have h1' : 1 ≤ ver := by omega
  by_cases h2 : 2147483647 < ver
  · skip
    have HE : Hid (Mf.chk ver l = 1) := by unfold Mf.chk; rw [Mf.good_bad (by omega)]; exact Lib.hid rfl
    go_wp2_with fail
    go_ret
    exact ⟨congrArg (fun x => Ending.returned (.int .i64 x)) HE.out.symm, (Below.refl _ _).alloc (Nat.le_refl _) _⟩
  have h2' : ver ≤ 2147483647 := by omega
  by_cases h3 : l.length < 1
  · have h3i : (l.length : Int) < 1 := by omega
    have HE : Hid (Mf.chk ver l = 1) := by unfold Mf.chk; rw [Mf.good_bad (by omega)]; exact Lib.hid rfl
    go_wp2_with fail
    go_ret
    exact ⟨congrArg (fun x => Ending.returned (.int .i64 x)) HE.out.symm, (Below.refl _ _).alloc (Nat.le_refl _) _⟩
  have h3' : (1 : Int) ≤ (l.length : Int) := by omega
  by_cases h4 : 32 < l.length
  · have h4i : (32 : Int) < (l.length : Int) := by omega
    have HE : Hid (Mf.chk ver l = 1) := by unfold Mf.chk; rw [Mf.good_bad (by omega)]; exact Lib.hid rfl
    go_wp2_with fail
    go_ret
    exact ⟨congrArg (fun x => Ending.returned (.int .i64 x)) HE.out.symm, (Below.refl _ _).alloc (Nat.le_refl _) _⟩
  have h4' : (l.length : Int) ≤ 32 := by omega
  have HG : Hid (Mf.good ver l = Mf.incr 0 l) := Lib.hid (Mf.good_incr h1' h2' (by omega) (by omega))
  clear h1 h2 h3 h4
  go_wp2_with fail
  go_loopg [3, 29] l.length (fun k s3 s29 wr => ∃ (j : Nat) (last : Int), j ≤ l.length ∧ k = l.length - j ∧ s29 = .int .i64 (j : Nat) ∧ s3 = .int .i64 last ∧ Mf.incr last (l.drop j) = Mf.incr 0 l ∧ wr = w.alloc (.cells #[.int .i64 ver, .slice sa l.length sc] 24))
  case atStart => exact ⟨0, 0, Nat.zero_le _, rfl, rfl, rfl, rfl, rfl⟩
  case round =>
    obtain ⟨j, last, hj, hk, rfl, rfl, hin, rfl⟩ := hrel
    have HK := Lib.hid hk
    have HIN := Lib.hid hin
    clear hk hin
    have hj0 : (0 : Int) ≤ (j : Int) := Int.natCast_nonneg _
    by_cases hjn : j < l.length
    · have hjn1 : (j : Int) < (l.length : Int) := by omega
      obtain ⟨x, hx⟩ : ∃ x, l[j]? = some x := ⟨_, List.getElem?_eq_getElem hjn⟩
      obtain ⟨g, o, rfl, hg, hc⟩ := HS.out.at hx
      have HD := Lib.hid (Mf.incr_drop hx last)
      clear hx
      by_cases hb : x ≤ last ∨ 2147483647 < x
      · have HE : Hid (Mf.chk ver l = 1) := by
          unfold Mf.chk
          rw [HG.out, ← HIN.out, HD.out]
          rcases hb with hb | hb
          · rw [decide_eq_false (by omega)]; exact Lib.hid rfl
          · rw [decide_eq_false (p := x ≤ 2147483647) (by omega), Bool.false_and, Bool.and_false]; exact Lib.hid rfl
        rcases hb with hb | hb
        · go_wp2_with fail
          go_ret
          exact ⟨congrArg (fun x => Ending.returned (.int .i64 x)) HE.out.symm, HB.out⟩
        · by_cases hb2 : x ≤ last
          · go_wp2_with fail
            go_ret
            exact ⟨congrArg (fun x => Ending.returned (.int .i64 x)) HE.out.symm, HB.out⟩
          · have hb3 : last < x := by omega
            go_wp2_with fail
            go_ret
            exact ⟨congrArg (fun x => Ending.returned (.int .i64 x)) HE.out.symm, HB.out⟩
      · have hb1 : last < x := by omega
        have hb2 : x ≤ 2147483647 := by omega
        clear hb
        go_wp2_with fail
        go_roundg (l.length - (j + 1))
        case measure => rw [HK.out]; omega
        case rel => exact ⟨j + 1, x, by omega, rfl, by simp, rfl, by rw [← HIN.out, HD.out, decide_eq_true hb1, decide_eq_true hb2]; rfl, rfl⟩
    · have hjn1 : (l.length : Int) ≤ (j : Int) := by omega
      have HE : Hid (Mf.chk ver l = 0) := by
        unfold Mf.chk
        rw [HG.out, ← HIN.out, List.drop_of_length_le (by omega)]
        exact Lib.hid rfl
      go_wp2_with fail
      go_ret
      exact ⟨congrArg (fun x => Ending.returned (.int .i64 x)) HE.out.symm, HB.out⟩
end Go.Proofs.YtcinagglbkbmkaaGreatDoor
