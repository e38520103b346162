/-
  Frames and segments: what is read of what was written (no program in sight).
-/
import Derived.Test.YtcimobbppmpmgaaDoorSg7
namespace Go.Proofs.YtcimobbppmpmgaaDoor
set_option linter.unusedSimpArgs false
set_option linter.unusedVariables false
open Go Go.RowKit

namespace Fr
theorem sum_bounds (l : List UInt8) : 0 ≤ sum l ∧ sum l < 4294967296 := bits_u32 _ _ _
theorem four_app (n : Int) (r : List UInt8) : (four n ++ r).length = 4 + r.length := by rw [List.length_append]; rfl
theorem num_bytes {k : Int} {p : List UInt8} (hp : p.length ≤ 8192) (r : List UInt8) : num (bytes k p ++ r) = p.length := by
  have := num_four (p.length : Int) (by omega) (by omega) ((inner k p ++ four (sum (inner k p))) ++ r)
  unfold bytes
  rw [List.append_assoc]
  omega
theorem bytes_take {k : Int} {p : List UInt8} (r : List UInt8) : (bytes k p ++ r).take (9 + p.length) = bytes k p := by
  have h : 9 + p.length = (bytes k p).length := by rw [bytes_len]; omega
  rw [h, List.take_left]
theorem bytes_drop {k : Int} {p : List UInt8} (r : List UInt8) : (bytes k p ++ r).drop (9 + p.length) = r := by
  have h : 9 + p.length = (bytes k p).length := by rw [bytes_len]; omega
  rw [h, List.drop_left]
theorem bytes_shape (k : Int) (p : List UInt8) : bytes k p = four p.length ++ (byte k :: (p ++ four (sum (inner k p)))) := rfl
theorem kind_bytes {k : Int} {p : List UInt8} (hk : 1 ≤ k ∧ k ≤ 9) : kind (bytes k p) = k := by
  unfold kind
  have : (bytes k p).getD 4 0 = byte k := rfl
  rw [this, byte_val]
  omega
theorem pay_bytes {k : Int} {p : List UInt8} : pay (bytes k p) = p := by
  unfold pay
  rw [bytes_len, show p.length + 9 - 9 = p.length by omega]
  have : (bytes k p).drop 5 = p ++ four (sum (inner k p)) := rfl
  rw [this, List.take_left]
theorem body_bytes {k : Int} {p : List UInt8} : body (bytes k p) = inner k p := by
  unfold body
  rw [bytes_len, show p.length + 9 - 8 = (inner k p).length by unfold inner; simp]
  have : (bytes k p).drop 4 = inner k p ++ four (sum (inner k p)) := rfl
  rw [this, List.take_left]
theorem tail_bytes {k : Int} {p : List UInt8} : (bytes k p).drop ((bytes k p).length - 4) = four (sum (inner k p)) := by
  rw [bytes_len, show p.length + 9 - 4 = (four (p.length : Int) ++ inner k p).length by rw [four_app]; unfold inner; simp; omega]
  unfold bytes
  rw [← List.append_assoc, List.drop_left]
/-- What is encoded is decoded. -/
theorem dec_bytes {k : Int} {p : List UInt8} (h : encE k p = 0) : decE (bytes k p) = 0 ∧ (1 ≤ k ∧ k ≤ 9) ∧ p.length ≤ 8192 := by
  unfold encE at h
  by_cases h1 : k < 1 ∨ 9 < k
  · rw [if_pos h1] at h; cases h
  · rw [if_neg h1] at h
    by_cases h2 : 8192 < p.length
    · rw [if_pos h2] at h; cases h
    · have hk : 1 ≤ k ∧ k ≤ 9 := by omega
      have hp : p.length ≤ 8192 := by omega
      refine ⟨?_, hk, hp⟩
      have hn := num_bytes (k := k) hp []
      rw [List.append_nil] at hn
      have hs := sum_bounds (inner k p)
      have hnf := num_four (sum (inner k p)) hs.1 hs.2 []
      rw [List.append_nil] at hnf
      unfold decE
      rw [hn, kind_bytes hk, body_bytes, tail_bytes, hnf, bytes_len, if_neg (by omega), if_neg (by omega), if_neg (by simp)]
theorem go_frame {k : Int} {p : List UInt8} (h : encE k p = 0) (r : List UInt8) : stop (bytes k p ++ r) = false ∧ first (bytes k p ++ r) = (k, p) ∧ (bytes k p ++ r).drop (9 + num (bytes k p ++ r)) = r ∧ 9 + num (bytes k p ++ r) = (bytes k p).length := by
  obtain ⟨h1, h2, h3⟩ := dec_bytes h
  have hn := num_bytes (k := k) h3 r
  refine ⟨?_, ?_, ?_, ?_⟩
  · unfold stop
    rw [hn, bytes_take, h1, List.length_append, bytes_len]
    simp
    omega
  · unfold first
    rw [hn, bytes_take, kind_bytes h2, pay_bytes]
  · rw [hn, bytes_drop]
  · rw [hn, bytes_len]; omega
/-- Frames behind one another. -/
def flat (fs : List F) : List UInt8 := fs.flatMap fun f => bytes f.1 f.2
theorem flat_app (a b : List F) : flat (a ++ b) = flat a ++ flat b := List.flatMap_append ..
theorem flat_one (f : F) : flat [f] = bytes f.1 f.2 := by simp [flat]
theorem scanGo_flat (t : List UInt8) (ht : stop t = true) : ∀ (fs : List F) (k : Nat) (out : List F) (a : Nat), (∀ f ∈ fs, encE f.1 f.2 = 0) → fs.length < k →
    scanGo k (flat fs ++ t) out a = (out ++ fs, a + (flat fs).length)
  | [], k, out, a, _, hk => by
    obtain ⟨k', rfl⟩ : ∃ k', k = k' + 1 := ⟨k - 1, by simp at hk; omega⟩
    show (if stop ([] ++ t) then _ else _) = _
    rw [List.nil_append, if_pos ht]
    simp [flat]
  | f :: fs, k, out, a, hf, hk => by
    obtain ⟨k', rfl⟩ : ∃ k', k = k' + 1 := ⟨k - 1, by simp at hk; omega⟩
    have hfl : flat (f :: fs) = bytes f.1 f.2 ++ flat fs := by simp [flat]
    obtain ⟨h1, h2, h3, h4⟩ := go_frame (hf f List.mem_cons_self) (flat fs ++ t)
    rw [hfl, List.append_assoc]
    unfold scanGo
    rw [if_neg (by rw [h1]; simp), h2, h3, h4, scanGo_flat t ht fs k' (out ++ [(f.1, f.2)]) _ (fun g hg => hf g (List.mem_cons_of_mem _ hg)) (by simp at hk; omega), List.append_assoc, List.length_append, Nat.add_assoc]
    rfl
theorem flat_len (fs : List F) : fs.length ≤ (flat fs).length := by
  induction fs with
  | nil => simp
  | cons f fs ih =>
    have hfl : flat (f :: fs) = bytes f.1 f.2 ++ flat fs := by simp [flat]
    rw [hfl, List.length_append, bytes_len, List.length_cons]
    omega
theorem scan_flat (t : List UInt8) (ht : stop t = true) (fs : List F) (hf : ∀ f ∈ fs, encE f.1 f.2 = 0) : scan (flat fs ++ t) = (fs, (flat fs).length) := by
  unfold scan
  rw [scanGo_flat t ht fs _ [] 0 hf (by have := flat_len fs; rw [List.length_append]; omega)]
  simp
theorem stop_nil : stop [] = true := rfl
/-- Four bytes of ones are no frame's. -/
theorem stop_ones (t : List UInt8) : stop ([255, 255, 255, 255] ++ t) = true := by
  have h : num ([255, 255, 255, 255] ++ t) = 4294967295 := by unfold num; simp
  unfold stop
  rw [h]
  simp
end Fr

namespace Sg
theorem good_name {id : Int} (h : nameE id = 0) : Fs.good (nameB id) = true := by
  obtain ⟨h1, h2, h3⟩ := name_of h
  obtain ⟨_, hd⟩ := dval_dec id.toNat 0
  have hl := nameB_len id
  have hlen : (nameB id).length ≤ 20 := by
    have hr := (id_name h).2
    have hne : refId (nameB id) ≠ 0 := by rw [hr]; omega
    unfold refId at hne
    by_cases hc : (nameB id).length < 5 ∨ 14 < (nameB id).length ∨ (nameB id).take 4 ≠ seg
    · rw [if_pos hc] at hne; exact absurd rfl hne
    · omega
  unfold Fs.good
  rw [h3] at hlen ⊢
  have hall : (seg ++ Lib.decDigits id.toNat).all Fs.goodB = true := by
    rw [List.all_append, Bool.and_eq_true]
    refine ⟨by decide, List.all_eq_true.2 fun c hc => ?_⟩
    have := List.all_eq_true.1 hd c hc
    unfold isDig at this
    simp only [Bool.and_eq_true, decide_eq_true_eq] at this
    unfold Fs.goodB
    simp [this.1, this.2]
  rw [hall, decide_eq_true (p := 1 ≤ (seg ++ Lib.decDigits id.toNat).length) (by rw [List.length_append]; show 1 ≤ 4 + _; omega), decide_eq_true hlen]
  rfl
theorem name_inj {a b : Int} (ha : nameE a = 0) (hb : nameE b = 0) (h : nameB a = nameB b) : a = b := by
  have h1 := (id_name ha).1
  have h2 := (id_name hb).1
  rw [h] at h1
  omega

/-- Segments: their ids, their frames. -/
abbrev Seg := Int × List Fr.F
def segs (l : List Seg) : Fs.Segs := l.map fun s => (nameB s.1, Fr.flat s.2)
structure RepS (st : Fs.St) (l : List Seg) : Prop where
  rep : Fs.Rep st (segs l)
  ok : ∀ s ∈ l, nameE s.1 = 0
  enc : ∀ s ∈ l, ∀ f ∈ s.2, Fr.encE f.1 f.2 = 0
def size (l : List Seg) : Nat := (l.map fun s => (Fr.flat s.2).length).sum
theorem segs_size (l : List Seg) : ((segs l).map (·.2.length)).sum = size l := by
  unfold segs size
  rw [List.map_map]
  rfl
theorem seg_at {l : List Seg} {i : Nat} {s : Seg} (h : l[i]? = some s) : (segs l)[i]? = some (nameB s.1, Fr.flat s.2) := by
  unfold segs
  rw [List.getElem?_map, h]
  rfl
section
variable {st : Fs.St} {l : List Seg}
theorem RepS.create (h : RepS st l) {id : Int} (hid : nameE id = 0) (hn : ∀ s ∈ l, s.1 ≠ id) (hl : l.length < 64) :
    (Sg.create st id).2 = 0 ∧ RepS (Sg.create st id).1 (l ++ [(id, [])]) ∧ (Sg.create st id).1.room = st.room ∧ (Sg.create st id).1.changes = [] := by
  obtain ⟨h1, h2, h3, _⟩ := h.rep.create (good_name hid) (fun s hs e => by
    unfold segs at hs
    obtain ⟨t, ht, rfl⟩ := List.mem_map.1 hs
    exact hn t ht (name_inj (h.ok t ht) hid e)) (by unfold segs; simpa using hl)
  obtain ⟨h5, h6, h7, h8⟩ := h2.syncDir
  have he : Sg.create st id = Fs.syncDir (Fs.create st (nameB id)).1 := by
    unfold Sg.create
    rw [if_neg (by rw [hid]; simp), if_neg (by rw [h1]; simp)]
  rw [he]
  refine ⟨h5, ⟨?_, fun s hs => ?_, fun s hs => ?_⟩, h7.trans h3, h8⟩
  · have : segs (l ++ [(id, [])]) = segs l ++ [(nameB id, [])] := by unfold segs; rw [List.map_append]; rfl
    rw [this]
    exact h6
  · rcases List.mem_append.1 hs with hs | hs
    · exact h.ok s hs
    · simp at hs; subst hs; exact hid
  · rcases List.mem_append.1 hs with hs | hs
    · exact h.enc s hs
    · simp at hs; subst hs; intro f hf; simp at hf
theorem RepS.append (h : RepS st l) {i : Nat} {s : Seg} (hi : l[i]? = some s) {k : Int} {p : List UInt8} (hk : Fr.encE k p = 0) (hb : (Fr.flat s.2).length + (p.length + 9) ≤ 65536) (hr : (size l : Int) + (p.length + 9 : Nat) ≤ st.room) :
    (Sg.append st s.1 k p).2 = 0 ∧ RepS (Sg.append st s.1 k p).1 (l.set i (s.1, s.2 ++ [(k, p)])) ∧ (Sg.append st s.1 k p).1.room = st.room ∧ (Sg.append st s.1 k p).1.changes = st.changes := by
  have hid := h.ok s (List.mem_of_getElem? hi)
  have hg := good_name hid
  obtain ⟨h1, h2, h3, h4⟩ := h.rep.append (s := (nameB s.1, Fr.flat s.2)) (seg_at hi) hg (Fr.bytes k p) (by rw [Fr.bytes_len]; exact hb) (by rw [segs_size, Fr.bytes_len]; exact hr)
  have hlt : i < (segs l).length := (List.getElem?_eq_some_iff.1 (seg_at hi)).1
  obtain ⟨h5, h6, h7, h8⟩ := h2.sync (i := i) (s := (nameB s.1, Fr.flat s.2 ++ Fr.bytes k p)) (List.getElem?_set_self hlt) hg
  have he : Sg.append st s.1 k p = Fs.sync (Fs.append st (nameB s.1) (Fr.bytes k p)).1 (nameB s.1) := by
    unfold Sg.append
    rw [if_neg (by rw [hid]; simp), if_neg (by rw [hk]; simp), if_neg (by rw [h1]; simp)]
  rw [he]
  refine ⟨h5, ⟨?_, fun t ht => ?_, fun t ht => ?_⟩, h7.trans h3, h8.trans h4⟩
  · have : segs (l.set i (s.1, s.2 ++ [(k, p)])) = (segs l).set i (nameB s.1, Fr.flat s.2 ++ Fr.bytes k p) := by
      unfold segs
      rw [List.map_set, Fr.flat_app, Fr.flat_one]
    rw [this]
    exact h6
  · rcases List.mem_or_eq_of_mem_set ht with ht | rfl
    · exact h.ok t ht
    · exact hid
  · rcases List.mem_or_eq_of_mem_set ht with ht | rfl
    · exact h.enc t ht
    · intro f hf
      rcases List.mem_append.1 hf with hf | hf
      · exact h.enc s (List.mem_of_getElem? hi) f hf
      · simp at hf; subst hf; exact hk
/-- All segments, in their order. -/
theorem read_go (hS : ∀ s ∈ l, Fs.openE st (nameB s.1) = 0) (hF : ∀ s ∈ l, Fr.scan (Fs.fileAt st (nameB s.1)) = (s.2, (Fs.fileAt st (nameB s.1)).length)) :
    ∀ (out : List En), readGo st (l.map (·.1)) out true = (out ++ l.flatMap (fun s => s.2.map fun f => (s.1, f)), true, 0) := by
  induction l with
  | nil => intro out; simp [readGo]
  | cons s l ih =>
    intro out
    rw [List.map_cons, readGo_cons, if_neg (by rw [hS s List.mem_cons_self]; simp), hF s List.mem_cons_self]
    simp only [decide_true]
    rw [ih (fun t ht => hS t (List.mem_cons_of_mem _ ht)) (fun t ht => hF t (List.mem_cons_of_mem _ ht)), List.append_assoc, List.flatMap_cons]
theorem bad_none : ∀ (l : List Seg), (∀ s ∈ l, nameE s.1 = 0) → badE (l.map (·.1)) = 0
  | [], _ => rfl
  | s :: l, h => by
    rw [List.map_cons, badE_cons, if_neg (by rw [h s List.mem_cons_self]; simp)]
    exact bad_none l (fun t ht => h t (List.mem_cons_of_mem _ ht))
theorem RepS.read (h : RepS st l) : Sg.read st (l.map (·.1)) = (l.flatMap (fun s => s.2.map fun f => (s.1, f)), true, 0) := by
  unfold Sg.read
  rw [if_neg (by rw [bad_none l h.ok]; simp), read_go (l := l)]
  · rfl
  · intro s hs
    obtain ⟨i, hi⟩ := List.getElem?_of_mem hs
    exact (h.rep.at (seg_at hi)).2.2 (good_name (h.ok s hs))
  · intro s hs
    obtain ⟨i, hi⟩ := List.getElem?_of_mem hs
    have := (h.rep.at (seg_at hi)).2.1
    show Fr.scan (Fs.fileAt st (nameB s.1)) = (s.2, (Fs.fileAt st (nameB s.1)).length)
    rw [show Fs.fileAt st (nameB s.1) = Fr.flat s.2 from this]
    have h2 := Fr.scan_flat [] Fr.stop_nil s.2 (h.enc s hs)
    rwa [List.append_nil] at h2
end
end Sg
end Go.Proofs.YtcimobbppmpmgaaDoor
