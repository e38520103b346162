/-
  SeglogRows: what is written, what is read (no program in sight).
-/
import Derived.Test.YtcimobbppmpmgaaDoorSg8
namespace Go.Proofs.YtcimobbppmpmgaaDoor
set_option linter.unusedSimpArgs false
set_option linter.unusedVariables false
open Go Go.RowKit

namespace Sr
open Sg
def c (cs : List UInt8) (i : Nat) : Nat := (cs.getD i 0).toNat % 5
def fr (i m : Nat) : Fr.F := ((m : Int) + 1, [UInt8.ofNat i, UInt8.ofNat m])
def frs (i k : Nat) : List Fr.F := (List.range k).map (fr i)
def sgm (cs : List UInt8) (i : Nat) : Sg.Seg := (3 * (i : Int) + 1, frs i (c cs i))
def L (cs : List UInt8) (i : Nat) : List Sg.Seg := (List.range i).map (sgm cs)
def ents (l : List Sg.Seg) : List En := l.flatMap fun s => s.2.map fun f => (s.1, f)
theorem c_le (cs : List UInt8) (i : Nat) : c cs i ≤ 4 := by unfold c; omega
theorem frs_succ (i k : Nat) : frs i (k + 1) = frs i k ++ [fr i k] := by unfold frs; rw [List.range_succ, List.map_append]; rfl
theorem L_succ (cs : List UInt8) (i : Nat) : L cs (i + 1) = L cs i ++ [sgm cs i] := by unfold L; rw [List.range_succ, List.map_append]; rfl
theorem L_len (cs : List UInt8) (i : Nat) : (L cs i).length = i := by simp [L]
theorem ents_app (a b : List Sg.Seg) : ents (a ++ b) = ents a ++ ents b := List.flatMap_append ..
theorem ents_one (id : Int) (fs : List Fr.F) : ents [(id, fs)] = fs.map fun f => (id, f) := by simp [ents]
theorem enc_fr (i m : Nat) (hm : m < 5) : Fr.encE (fr i m).1 (fr i m).2 = 0 := by
  unfold Fr.encE fr
  rw [if_neg (by simp only; omega), if_neg (by simp)]
theorem frs_enc (i k : Nat) (hk : k ≤ 5) : ∀ f ∈ frs i k, Fr.encE f.1 f.2 = 0 := by
  intro f hf
  unfold frs at hf
  obtain ⟨m, hm, rfl⟩ := List.mem_map.1 hf
  exact enc_fr i m (by have := List.mem_range.1 hm; omega)
theorem flat_frs (i : Nat) : ∀ k, (Fr.flat (frs i k)).length = 11 * k
  | 0 => rfl
  | k + 1 => by
    rw [frs_succ, Fr.flat_app, List.length_append, flat_frs i k, Fr.flat_one, Fr.bytes_len]
    show 11 * k + (2 + 9) = _
    omega
theorem size_app (a b : List Sg.Seg) : size (a ++ b) = size a + size b := by unfold size; rw [List.map_append, List.sum_append_nat]
theorem size_one (id : Int) (fs : List Fr.F) : size [(id, fs)] = (Fr.flat fs).length := by simp [size]
theorem size_L (cs : List UInt8) : ∀ i, size (L cs i) ≤ 44 * i
  | 0 => Nat.le_refl _
  | i + 1 => by
    have h1 := size_L cs i
    have h2 := c_le cs i
    rw [L_succ, size_app]
    have h3 : size [sgm cs i] = 11 * c cs i := by
      show size [(3 * (i : Int) + 1, frs i (c cs i))] = _
      rw [size_one, flat_frs]
    omega
theorem ids_L (cs : List UInt8) (i : Nat) : ∀ s ∈ L cs i, s.1 ≠ 3 * (i : Int) + 1 := by
  intro s hs
  unfold L at hs
  obtain ⟨j, hj, rfl⟩ := List.mem_map.1 hs
  have := List.mem_range.1 hj
  show 3 * (j : Int) + 1 ≠ _
  omega
theorem nameE_id (i : Nat) (hi : i < 8) : nameE (3 * (i : Int) + 1) = 0 := by
  unfold nameE
  rw [if_neg (by omega)]
theorem ents_prop (cs : List UInt8) (n : Nat) : ∀ e ∈ ents (L cs n), e.2.2.length = 2 ∧ ∃ x, e.2.2[1]? = some x ∧ e.2.1 = (x.toNat : Int) + 1 := by
  intro e he
  unfold ents at he
  obtain ⟨s, hs, he⟩ := List.mem_flatMap.1 he
  unfold L at hs
  obtain ⟨j, hj, rfl⟩ := List.mem_map.1 hs
  obtain ⟨f, hf, rfl⟩ := List.mem_map.1 he
  unfold sgm frs at hf
  obtain ⟨m, hm, rfl⟩ := List.mem_map.1 hf
  have hm2 := List.mem_range.1 hm
  have h4 := c_le cs j
  refine ⟨rfl, UInt8.ofNat m, rfl, ?_⟩
  have : (UInt8.ofNat m).toNat = m := UInt8.toNat_ofNat_of_lt' (by show _ < 256; omega)
  rw [this]
  rfl
theorem ents_len (cs : List UInt8) : ∀ n, (ents (L cs n)).length ≤ 4 * n
  | 0 => Nat.le_refl _
  | n + 1 => by
    have h1 := ents_len cs n
    have h2 := c_le cs n
    rw [L_succ, ents_app, List.length_append]
    have : (ents [sgm cs n]).length = c cs n := by
      show (ents [(3 * (n : Int) + 1, frs n (c cs n))]).length = _
      rw [ents_one]
      simp [frs]
    omega
def LS (cs : List UInt8) (i k : Nat) : List Sg.Seg := L cs i ++ [(3 * (i : Int) + 1, frs i k)]
theorem LS_zero (cs : List UInt8) (i : Nat) : LS cs i 0 = L cs i ++ [(3 * (i : Int) + 1, [])] := rfl
theorem LS_full (cs : List UInt8) (i : Nat) : LS cs i (c cs i) = L cs (i + 1) := (L_succ cs i).symm
theorem LS_get (cs : List UInt8) (i k : Nat) : (LS cs i k)[i]? = some (3 * (i : Int) + 1, frs i k) := by
  unfold LS
  rw [List.getElem?_append_right (by rw [L_len]; omega), L_len, Nat.sub_self]
  rfl
theorem LS_set (cs : List UInt8) (i k : Nat) : (LS cs i k).set i (3 * (i : Int) + 1, frs i k ++ [fr i k]) = LS cs i (k + 1) := by
  unfold LS
  rw [List.set_append_right _ _ (by rw [L_len]; omega), L_len, Nat.sub_self, frs_succ]
  rfl
theorem LS_len (cs : List UInt8) (i k : Nat) : (LS cs i k).length = i + 1 := by simp [LS, L_len]
theorem LS_ids (cs : List UInt8) (i k : Nat) : (LS cs i k).map (·.1) = (L cs i).map (·.1) ++ [3 * (i : Int) + 1] := by simp [LS]
theorem LS_wants (cs : List UInt8) (i k : Nat) : (ents (LS cs i (k + 1))).map (·.1) = (ents (LS cs i k)).map (·.1) ++ [3 * (i : Int) + 1] := by
  unfold LS
  rw [ents_app, ents_app, ents_one, ents_one, frs_succ]
  simp
theorem LS_wants0 (cs : List UInt8) (i : Nat) : (ents (LS cs i 0)).map (·.1) = (ents (L cs i)).map (·.1) := by
  unfold LS
  rw [ents_app, ents_one]
  simp [frs]
theorem LS_size (cs : List UInt8) (i k : Nat) : size (LS cs i k) ≤ 44 * i + 11 * k := by
  have := size_L cs i
  unfold LS
  rw [size_app, size_one, flat_frs]
  omega
theorem LS_flat (cs : List UInt8) (i k : Nat) (hk : k ≤ 5) : ∀ s ∈ Sg.segs (LS cs i k), s.2.length ≤ 65536 := by
  intro s h
  unfold Sg.segs LS L at h
  obtain ⟨t, ht, rfl⟩ := List.mem_map.1 h
  rcases List.mem_append.1 ht with ht | ht
  · obtain ⟨j, hj, rfl⟩ := List.mem_map.1 ht
    show (Fr.flat (frs j (c cs j))).length ≤ _
    rw [flat_frs]
    have := c_le cs j
    omega
  · simp at ht
    subst ht
    show (Fr.flat (frs i k)).length ≤ _
    rw [flat_frs]
    omega
theorem L_flat (cs : List UInt8) (i : Nat) : ∀ s ∈ Sg.segs (L cs i), s.2.length ≤ 65536 := by
  intro s h
  unfold Sg.segs L at h
  obtain ⟨t, ht, rfl⟩ := List.mem_map.1 h
  obtain ⟨j, hj, rfl⟩ := List.mem_map.1 ht
  show (Fr.flat (frs j (c cs j))).length ≤ _
  rw [flat_frs]
  have := c_le cs j
  omega
theorem ents_LS_len (cs : List UInt8) (i k : Nat) : (ents (LS cs i k)).length ≤ 4 * i + k := by
  have := ents_len cs i
  unfold LS
  rw [ents_app, List.length_append, ents_one, List.length_map]
  simp [frs]
  omega
end Sr
namespace Sg
section
variable {st : Fs.St} {l : List Seg}
/-- The last one tells whether something is behind. -/
theorem read_last (s : Seg) (hS : ∀ t ∈ l ++ [s], Fs.openE st (nameB t.1) = 0) (hF : ∀ t ∈ l ++ [s], (Fr.scan (Fs.fileAt st (nameB t.1))).1 = t.2) :
    ∀ (out : List En) (wh : Bool), readGo st ((l ++ [s]).map (·.1)) out wh = (out ++ Sr.ents (l ++ [s]), decide ((Fr.scan (Fs.fileAt st (nameB s.1))).2 = (Fs.fileAt st (nameB s.1)).length), 0) := by
  induction l with
  | nil =>
    intro out wh
    have h1 := hS s (by simp)
    have h2 := hF s (by simp)
    show readGo st (s.1 :: []) out wh = _
    rw [readGo_cons, if_neg (by rw [h1]; simp), h2]
    show (_, _, _) = _
    rw [List.nil_append, show s = (s.1, s.2) from rfl, Sr.ents_one]
  | cons t l ih =>
    intro out wh
    have h1 := hS t (by simp)
    have h2 := hF t (by simp)
    rw [List.cons_append, List.map_cons, readGo_cons, if_neg (by rw [h1]; simp), h2, ih (fun u hu => hS u (by rw [List.cons_append]; exact List.mem_cons_of_mem _ hu)) (fun u hu => hF u (by rw [List.cons_append]; exact List.mem_cons_of_mem _ hu)), List.append_assoc]
    rfl
/-- Bytes behind the last segment's frames, which are no frame's. -/
theorem RepS.tail {s : Seg} (h : RepS st (l ++ [s])) {b : List UInt8} (hb : Fr.stop b = true) (hne : b ≠ []) (hlen : (Fr.flat s.2).length + b.length ≤ 65536) (hr : (size (l ++ [s]) : Int) + b.length ≤ st.room) :
    (Fs.append st (nameB s.1) b).2 = 0 ∧ Sg.read (Fs.append st (nameB s.1) b).1 ((l ++ [s]).map (·.1)) = (Sr.ents (l ++ [s]), false, 0) ∧
    (Fs.append st (nameB s.1) b).1.room = st.room ∧ (Fs.append st (nameB s.1) b).1.changes = st.changes ∧ Fs.Rep (Fs.append st (nameB s.1) b).1 ((segs (l ++ [s])).set l.length (nameB s.1, Fr.flat s.2 ++ b)) := by
  have hi : (l ++ [s])[l.length]? = some s := by simp
  have hid := h.ok s (by simp)
  obtain ⟨h1, h2, h3, h4⟩ := h.rep.append (s := (nameB s.1, Fr.flat s.2)) (seg_at hi) (good_name hid) b hlen (by rw [segs_size]; exact hr)
  refine ⟨h1, ?_, h3, h4, h2⟩
  obtain ⟨st', hst'⟩ : ∃ st', st' = (Fs.append st (nameB s.1) b).1 := ⟨_, rfl⟩
  rw [← hst'] at h2 ⊢
  have hlt : l.length < (segs (l ++ [s])).length := (List.getElem?_eq_some_iff.1 (seg_at hi)).1
  have key : ∀ (j : Nat) t, (l ++ [s])[j]? = some t → ∃ d, Fs.openE st' (nameB t.1) = 0 ∧ Fs.fileAt st' (nameB t.1) = Fr.flat t.2 ++ d ∧ Fr.stop d = true ∧ (j = l.length → d = b) := by
    intro j t hj
    have ht := h.ok t (List.mem_of_getElem? hj)
    by_cases hjl : j = l.length
    · subst hjl
      rw [hi] at hj
      simp at hj; subst hj
      have := h2.at (i := l.length) (s := (nameB s.1, Fr.flat s.2 ++ b)) (List.getElem?_set_self hlt)
      exact ⟨b, this.2.2 (good_name hid), this.2.1, hb, fun _ => rfl⟩
    · have := h2.at (i := j) (s := (nameB t.1, Fr.flat t.2)) (by rw [List.getElem?_set_ne (fun e => hjl e.symm)]; exact seg_at hj)
      exact ⟨[], this.2.2 (good_name ht), by rw [List.append_nil]; exact this.2.1, Fr.stop_nil, fun e => absurd e hjl⟩
  unfold Sg.read
  rw [if_neg (by rw [bad_none (l ++ [s]) h.ok]; simp), read_last (l := l) (st := st') s]
  · obtain ⟨d, e1, e2, e3, e4⟩ := key l.length s hi
    have hd := e4 rfl
    subst hd
    have hs := Fr.scan_flat d e3 s.2 (h.enc s (by simp))
    rw [e2, hs, List.length_append, List.nil_append]
    have : 0 < d.length := by
      cases d with
      | nil => exact absurd rfl hne
      | cons => simp
    rw [decide_eq_false (by simp only; omega)]
  · intro t ht
    obtain ⟨j, hj⟩ := List.getElem?_of_mem ht
    exact (key j t hj).choose_spec.1
  · intro t ht
    obtain ⟨j, hj⟩ := List.getElem?_of_mem ht
    obtain ⟨d, e1, e2, e3, _⟩ := key j t hj
    rw [e2, Fr.scan_flat d e3 t.2 (h.enc t ht)]
end
end Sg
end Go.Proofs.YtcimobbppmpmgaaDoor
