/-
  The file system: open, Sync, SyncDir, walked.
-/
import Derived.Test.YtcimobbppmpmgaaDoorFs2
namespace Go.Proofs.YtcimobbppmpmgaaDoor
set_option linter.unusedSimpArgs false
set_option linter.unusedVariables false
open Go Go.RowKit
open Go.Maps Go.WideMaps

namespace Fs
def openE (st : St) (n : List UInt8) : Int := if good n = false then 7 else if mhas st.dir n = false then 3 else 0
def idx (st : St) (n : List UInt8) : Nat := (mget st.dir n).toNat
theorem mget_mem {l : Names} {k : List UInt8} (h : mhas l k = true) : ∃ p ∈ l, p.1 = k ∧ p.2 = mget l k := by
  unfold mhas at h
  rw [List.any_eq_true] at h
  obtain ⟨q, hq, he⟩ := h
  unfold mget
  cases hf : l.find? (fun p => p.1 == k) with
  | none =>
    rw [List.find?_eq_none] at hf
    exact absurd he (hf q hq)
  | some p =>
    have h1 := List.find?_some hf
    exact ⟨p, List.mem_of_find?_eq_some hf, by simpa using h1, rfl⟩
end Fs

theorem strs_one {w : World} {g : Nat} {s : ByteArray} (hg : g < w.heap.size) (h : w.cell? ⟨g, 0, none⟩ = some (.string s)) : Strs w (.slice (some ⟨g, 0, none⟩) 1 1) [s] :=
  ⟨some ⟨g, 0, none⟩, 1, rfl, fun i x hi => by
    match i, hi with
    | 0, hi =>
      simp at hi
      subst hi
      exact ⟨g, 0, rfl, hg, h⟩
    | i + 1, hi => simp at hi⟩
theorem addr_add (g k : Nat) : (⟨g, 0, none⟩ : Addr).add k = ⟨g, k, none⟩ := by
  by_cases h : k = 0
  · subst h; simp [Addr.add]
  · simp [Addr.add, h]
theorem cellLt {w : World} {b k : Nat} {v : Value} (h : w.cell? ⟨b, k, none⟩ = some v) : b < w.heap.size := by
  rcases Nat.lt_or_ge b w.heap.size with h' | h'
  · exact h'
  · simp [World.cell?, Array.getElem?_eq_none h'] at h
theorem cell_new (w : World) (cs : Array Value) (t : TypeId) (k : Nat) (v : Value) (h : cs[k]? = some v) : (w.alloc (.cells cs t)).cell? ⟨w.heap.size, k, none⟩ = some v := by
  have hh : (w.alloc (.cells cs t)).heap[w.heap.size]? = some (.cells cs t (0, 0)) := by
    show (w.heap.push _)[w.heap.size]? = _
    simp
  rw [Lib.cell_of_heap hh]
  exact h

/-- What 'open' leaves. -/
def OpenPost (st : Fs.St) (V : FsV) (s : ByteArray) (w : World) (e : Ending) (w' : World) : Prop :=
  Below w.heap.size w w' ∧
  ((Fs.openE st s.data.toList = 0 ∧ ∃ f b d, st.files[Fs.idx st s.data.toList]? = some f ∧ V.fb[Fs.idx st s.data.toList]? = some b ∧ V.dv[Fs.idx st s.data.toList]? = some d ∧ e = .returned (.tuple #[.pointer (some ⟨b, 0, none⟩), .int .i64 0])) ∨
   (Fs.openE st s.data.toList ≠ 0 ∧ e = .returned (.tuple #[.pointer none, .int .i64 (Fs.openE st s.data.toList)])))

theorem ptr_cells (fb : List Nat) (i b : Nat) (h : fb[i]? = some b) : (fb.map fun b => (Value.pointer (some ⟨b, 0, none⟩) : Value))[i]? = some (.pointer (some ⟨b, 0, none⟩)) := by
  rw [List.getElem?_map, h]; rfl

set_option maxHeartbeats 1000000 in
set_option maxRecDepth 100000 in
theorem open_any (base B : Nat) (st : Fs.St) (V : FsV) (own : Nat → Tag) (s : ByteArray) (w : World) (h : FsAt base B st V own w) (hs : s.size ≤ 1000000) :
    Calls Tryd.prog 29 #[.pointer (some ⟨B, 0, none⟩), .string s] w (OpenPost st V s w) := by
  have c4 : w.cell? ⟨B, 4, none⟩ = some V.fv := root_cell h.root 4 _ rfl
  have c5 : w.cell? ⟨B, 5, none⟩ = some (.map (some V.md)) := root_cell h.root 5 _ rfl
  have hb1 : Below w.heap.size w (w.alloc (.cells #[.string s] 9)) := (Below.refl _ _).alloc (Nat.le_refl _) _
  have c5' : (w.alloc (.cells #[.string s] 9)).cell? ⟨B, 5, none⟩ = some (.map (some V.md)) := by rw [hb1.cell (cellLt c5)]; exact c5
  have HN := Lib.hid (named_any _ [s] (w.alloc (.cells #[.string s] 9)) (strs_one (by simp) (cell_new w _ _ 0 _ rfl)) (by simp) (by intro x hx; simp at hx; subst hx; omega))
  have hga : goodAll [s] = Fs.good s.data.toList := by simp [goodAll]
  rw [hga] at HN
  have hkey := keyOf_string_mk Tryd.underlying9 (s := s) (show s.size ≤ maxLen by unfold maxLen; omega)
  have HD := Lib.hid h.dir
  have HD1 := Lib.hid (h.dir.heap (hb1.block _ h.dir.lt))
  have H := Lib.hid h
  clear h
  go_enter Tryd.func29, Tryd.ntmps29
  cases hgd : Fs.good s.data.toList
  · have HE : Hid (Fs.openE st s.data.toList = 7) := by unfold Fs.openE; rw [if_pos hgd]; exact Lib.hid rfl
    rw [hgd] at HN
    go_wp2_with fail
    refine HN.out.mono ?_
    rintro e w2 ⟨rfl, hw2⟩
    obtain rfl := hw2.symm
    go_wp2
    refine bodyPost_ret (v := .tuple #[.pointer none, .int .i64 7]) (by simp [results, Tryd.results29, go_sem]) rfl ?_
    unfold OpenPost
    rw [HE.out]
    exact ⟨hb1, .inr ⟨by decide, rfl⟩⟩
  · rw [hgd] at HN
    cases hhas : Fs.mhas st.dir s.data.toList
    · have HE : Hid (Fs.openE st s.data.toList = 3) := by unfold Fs.openE; rw [if_neg (by rw [hgd]; simp), if_pos hhas]; exact Lib.hid rfl
      have HH : Hid (Maps.has (Fs.datum st.dir) (.string s.data.toList) = false) := by rw [Fs.datum_has]; exact Lib.hid hhas
      clear hgd hhas
      go_wp2_with fail
      refine HN.out.mono ?_
      rintro e w2 ⟨rfl, hw2⟩
      obtain rfl := hw2.symm
      go_wp2_with (first | (at_lookup; refine wpList_lookup_own_ok_int _ rfl _ _ 54 rfl 9 3 .i64 strKeyed Tryd.underlying54 Tryd.underlying3 (zeroInt _) V.md _ _ rfl HD1.out _ _ rfl hkey ?_; intro c hat hwc; rw [HH.out]) | fail)
      refine bodyPost_ret (v := .tuple #[.pointer none, .int .i64 3]) (by simp [results, Tryd.results29, go_sem]) rfl ?_
      unfold OpenPost
      rw [HE.out]
      exact ⟨hb1, .inr ⟨by decide, rfl⟩⟩
    · have HE : Hid (Fs.openE st s.data.toList = 0) := by unfold Fs.openE; rw [if_neg (by rw [hgd]; simp), if_neg (by rw [hhas]; simp)]; exact Lib.hid rfl
      have HH : Hid (Maps.has (Fs.datum st.dir) (.string s.data.toList) = true) := by rw [Fs.datum_has]; exact Lib.hid hhas
      obtain ⟨p, hp, hp1, hp2⟩ := Fs.mget_mem hhas
      obtain ⟨hp0, hpn⟩ := H.out.known p hp
      rw [hp2] at hp0 hpn
      have hidx : ((Fs.idx st s.data.toList : Nat) : Int) = Fs.mget st.dir s.data.toList := by unfold Fs.idx; omega
      have hil : Fs.idx st s.data.toList < st.files.length := by omega
      obtain ⟨f, hf⟩ : ∃ f, st.files[Fs.idx st s.data.toList]? = some f := ⟨_, List.getElem?_eq_getElem hil⟩
      obtain ⟨b, hb⟩ : ∃ b, V.fb[Fs.idx st s.data.toList]? = some b := ⟨_, List.getElem?_eq_getElem (by rw [H.out.nfb]; exact hil)⟩
      obtain ⟨d, hd⟩ : ∃ d, V.dv[Fs.idx st s.data.toList]? = some d := ⟨_, List.getElem?_eq_getElem (by rw [H.out.ndv]; exact hil)⟩
      have HGET := Lib.hid (Fs.datum_get st.dir s.data.toList)
      have HI := Lib.hid hidx
      generalize hix : Fs.idx st s.data.toList = i at *
      have HIX := Lib.hid hix
      clear hix
      obtain ⟨g, cap, hfv, hgc⟩ : ∃ g cap, V.fv = .slice (some ⟨g, 0, none⟩) st.files.length cap ∧ w.cell? ⟨g, i, none⟩ = some (.pointer (some ⟨b, 0, none⟩)) := by
        rcases H.out.files.2 with ⟨h1, h2⟩ | ⟨g, cap, cur, h1, _⟩
        · omega
        · exact ⟨g, cap, h1, by rw [← addr_add]; exact World.ownsRow.cells H.out.files (by rw [h1]; rfl) _ _ (ptr_cells _ _ _ hb)⟩
      rw [hfv] at c4
      have c4' : (w.alloc (.cells #[.string s] 9)).cell? ⟨B, 4, none⟩ = some (.slice (some ⟨g, 0, none⟩) st.files.length cap) := by rw [hb1.cell (cellLt c4)]; exact c4
      have hgc2 := hgc
      have hg1 : (w.alloc (.cells #[.string s] 9)).cell? ⟨g, i, none⟩ = some (.pointer (some ⟨b, 0, none⟩)) := by rw [hb1.cell (cellLt hgc)]; exact hgc
      have hi0 : (0 : Int) ≤ (i : Int) := Int.natCast_nonneg _
      have hi1 : (i : Int) < (st.files.length : Int) := by omega
      clear hgd hhas hp hp1 hp2 hp0 hpn hidx hfv hgc hgc2
      go_wp2_with fail
      refine HN.out.mono ?_
      rintro e w2 ⟨rfl, hw2⟩
      obtain rfl := hw2.symm
      go_wp2_with (first | (at_lookup; refine wpList_lookup_own_ok_int _ rfl _ _ 54 rfl 9 3 .i64 strKeyed Tryd.underlying54 Tryd.underlying3 (zeroInt _) V.md _ _ rfl HD1.out _ _ rfl hkey ?_; intro c hat hwc; rw [HH.out]; obtain rfl : c = (i : Int) := (by have := hat.symm.trans HGET.out; simp only [DataW.lit.injEq, Lit.int.injEq, true_and] at this; rw [this, HI.out]); clear hat hwc) | fail)
      refine bodyPost_ret (v := .tuple #[.pointer (some ⟨b, 0, none⟩), .int .i64 0]) (by simp [results, Tryd.results29, go_sem]) rfl ?_
      unfold OpenPost
      rw [HIX.out]
      exact ⟨hb1, .inl ⟨HE.out, f, b, d, hf, hb, hd, rfl⟩⟩
end Go.Proofs.YtcimobbppmpmgaaDoor
