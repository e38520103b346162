/-
  Frames: Encode, walked. Frames: Decode, walked. Frames: Scan, walked. Bytes, slices of bytes, three numbers that came in. Segments: names; what the library's variables hold. Bytes turned to strings. Segments: whose name a text is.
-/
import Derived.Test.YtcinagglbkbmkaaDoorZk6
import Derived.Test.YtcinagglbkbmkaaDoorZk2
import Derived.Deep.RegionHeld3
import Derived.ChangeSlices
import Derived.WalkKit
import Derived.ProofKit
import Derived.OpenShut
import Derived.Laws.IdiomArrays
import Derived.Lib.ItoaMem
import Derived.Lib.ItoaLen
import Derived.Lib.AppendIntMem
import Derived.Lib.SmallJoins
import Derived.WalkSmall
import Derived.Laws.IdiomStrings
import Derived.Laws.BytesArg
namespace Go.Proofs.YtcinagglbkbmkaaDoor
set_option linter.unusedSimpArgs false
set_option linter.unusedVariables false
open Go Go.RowKit
open Go.Maps Go.WideMaps

namespace Fr
def inner (k : Int) (p : List UInt8) : List UInt8 := byte k :: p
/-- A frame's bytes. -/
def bytes (k : Int) (p : List UInt8) : List UInt8 := four p.length ++ (inner k p ++ four (sum (inner k p)))
def encE (k : Int) (p : List UInt8) : Int := if k < 1 ∨ 9 < k then 1 else if 8192 < p.length then 5 else 0
theorem four_len (n : Int) : (four n).length = 4 := rfl
theorem bytes_len (k : Int) (p : List UInt8) : (bytes k p).length = p.length + 9 := by
  unfold bytes inner
  simp [four_len]
  omega
end Fr

theorem OwnB.keep {w w' : World} {base : Nat} {v : Value} {l : List UInt8} (h : OwnB w base v l) (hb : Below w.heap.size w w') : OwnB w' base v l :=
  row_kept h (fun g hg => hb.block g (h.lt g hg).2)
theorem OwnB.form3 {w : World} {base : Nat} {v : Value} {l : List UInt8} (h : OwnB w base v l) : ∃ a n c, v = .slice a n c ∧ Hid (n = l.length) := by
  obtain ⟨a, c, e⟩ := row_any h
  exact ⟨a, _, c, e, Lib.hid rfl⟩
theorem prts_lit1 {w : World} {v : Value} {l : List UInt8} (t : TypeId) (h : Byts w v l) : Prts (w.alloc (.cells #[v] t)) (.slice (some ⟨w.heap.size, 0, none⟩) 1 1) [l] := by
  refine ⟨_, _, rfl, Nat.le_refl _, fun i x hi => ⟨w.heap.size, 0, v, rfl, by simp, ?_, ?_⟩⟩
  · have h0 : i = 0 := by have := (List.getElem?_eq_some_iff.1 hi).1; simpa using this
    subst h0
    exact cell_new w #[v] t 0 v rfl
  · have h0 : i = 0 := by have := (List.getElem?_eq_some_iff.1 hi).1; simpa using this
    subst h0
    simp at hi
    subst hi
    exact h.below ((Below.refl _ _).alloc (Nat.le_refl _) _)
theorem prts_lit3 {w : World} {v0 v1 v2 : Value} {l0 l1 l2 : List UInt8} (t : TypeId) (h0 : Byts w v0 l0) (h1 : Byts w v1 l1) (h2 : Byts w v2 l2) : Prts (w.alloc (.cells #[v0, v1, v2] t)) (.slice (some ⟨w.heap.size, 0, none⟩) 3 3) [l0, l1, l2] := by
  have hb : Below w.heap.size w (w.alloc (.cells #[v0, v1, v2] t)) := (Below.refl _ _).alloc (Nat.le_refl _) _
  refine ⟨_, _, rfl, Nat.le_refl _, fun i x hi => ?_⟩
  have hlt : i < 3 := by have := (List.getElem?_eq_some_iff.1 hi).1; simpa using this
  match i, hlt, hi with
  | 0, _, hi =>
    simp at hi; subst hi
    exact ⟨w.heap.size, 0, v0, rfl, by simp, cell_new w _ t 0 v0 rfl, h0.below hb⟩
  | 1, _, hi =>
    simp at hi; subst hi
    exact ⟨w.heap.size, 0, v1, rfl, by simp, cell_new w _ t 1 v1 rfl, h1.below hb⟩
  | 2, _, hi =>
    simp at hi; subst hi
    exact ⟨w.heap.size, 0, v2, rfl, by simp, cell_new w _ t 2 v2 rfl, h2.below hb⟩
  | n + 3, h, _ => omega

/-- What 'Encode' leaves. -/
def EncPost (k : Int) (p : List UInt8) (w : World) (e : Ending) (w' : World) : Prop :=
  Below w.heap.size w w' ∧ ((Fr.encE k p = 0 ∧ ∃ v, e = .returned (.tuple #[v, .int .i64 0]) ∧ OwnB w' w.heap.size v (Fr.bytes k p)) ∨
    (Fr.encE k p ≠ 0 ∧ e = .returned (.tuple #[.slice none 0 0, .int .i64 (Fr.encE k p)])))

set_option maxHeartbeats 1000000 in
set_option maxRecDepth 100000 in
theorem encode_any (k : Int) (v : Value) (ls : List (List UInt8)) (w : World) (hV : Prts w v ls) (hl : ls.length ≤ 1000000000) (hs : ∀ l ∈ ls, l.length ≤ 1000000000) :
    Calls Tryd.prog 17 #[.int .i64 k, v] w (EncPost k ls.flatten w) := by
  obtain ⟨va, vc, rfl⟩ := hV.form
  have HV := Lib.hid hV
  clear hV
  by_cases hk : k < 1 ∨ 9 < k
  · have HE : Hid (Fr.encE k ls.flatten = 1) := by unfold Fr.encE; rw [if_pos hk]; exact Lib.hid rfl
    rcases hk with h | h
    · go_enter Tryd.func17, Tryd.ntmps17
      go_wp2_with fail
      refine bodyPost_ret (v := .tuple #[.slice none 0 0, .int .i64 1]) (by simp [results, Tryd.results17, go_sem]) rfl ?_
      exact ⟨Below.refl _ _, .inr ⟨by rw [HE.out]; decide, by rw [HE.out]⟩⟩
    · have h2 : 1 ≤ k := by omega
      go_enter Tryd.func17, Tryd.ntmps17
      go_wp2_with fail
      refine bodyPost_ret (v := .tuple #[.slice none 0 0, .int .i64 1]) (by simp [results, Tryd.results17, go_sem]) rfl ?_
      exact ⟨Below.refl _ _, .inr ⟨by rw [HE.out]; decide, by rw [HE.out]⟩⟩
  · have hk1 : 1 ≤ k := by omega
    have hk2 : k ≤ 9 := by omega
    have HKK := Lib.hid hk
    clear hk
    go_enter Tryd.func17, Tryd.ntmps17
    go_wp2_with fail
    go_loopg [6, 18] ls.length (fun k s6 s18 wr => ∃ j : Nat, j ≤ ls.length ∧ k = ls.length - j ∧ s18 = .int .i64 (j : Nat) ∧ (∃ M : Nat, s6 = .int .i64 (M : Nat) ∧ M = (ls.take j).flatten.length ∧ M ≤ 8192) ∧ wr = w)
    case atStart => exact ⟨0, Nat.zero_le _, rfl, rfl, ⟨0, rfl, rfl, by omega⟩, rfl⟩
    case round =>
      obtain ⟨j, hj, hk, rfl, ⟨M, rfl, hM, hM2⟩, hwr⟩ := hrel
      subst wr
      have HK := Lib.hid hk
      have HM := Lib.hid hM
      clear hk hM
      have hj0 : (0 : Int) ≤ (j : Int) := Int.natCast_nonneg _
      have hM0 : (0 : Int) ≤ (M : Int) := Int.natCast_nonneg _
      by_cases hjn : j < ls.length
      · have hjn1 : (j : Int) < (ls.length : Int) := by omega
        obtain ⟨l, hlj⟩ : ∃ l, ls[j]? = some l := ⟨_, List.getElem?_eq_getElem hjn⟩
        have hll := hs l (List.mem_of_getElem? hlj)
        obtain ⟨g, o, lv, rfl, hg, hgc, hB⟩ := HV.out.at hlj
        obtain ⟨la, lc, rfl, _⟩ := hB.form
        have HFT : Hid ((ls.take (j + 1)).flatten.length = (ls.take j).flatten.length + l.length) := by rw [flat_take ls j l hlj, List.length_append]; exact Lib.hid rfl
        have hle : (ls.take (j + 1)).flatten.length ≤ ls.flatten.length := by
          have := congrArg (fun x : List (List UInt8) => x.flatten.length) (List.take_append_drop (j + 1) ls)
          simp only [List.flatten_append, List.length_append] at this
          omega
        have HLE := Lib.hid hle
        clear hle hlj
        by_cases hlong : 8192 < M + l.length
        · have h2 : 8192 - (M : Int) < (l.length : Int) := by omega
          have HE : Hid (Fr.encE k ls.flatten = 5) := by
            unfold Fr.encE
            have h1 := HM.out
            have h2 := HFT.out
            have h3 := HLE.out
            rw [if_neg HKK.out, if_pos (by omega)]
            exact Lib.hid rfl
          clear hlong
          go_wp2_with fail
          refine bodyPost_ret (v := .tuple #[.slice none 0 0, .int .i64 5]) (by simp [results, Tryd.results17, go_sem]) rfl ?_
          exact ⟨Below.refl _ _, .inr ⟨by rw [HE.out]; decide, by rw [HE.out]⟩⟩
        · have h2 : (l.length : Int) ≤ 8192 - (M : Int) := by omega
          have h3 : (M : Int) + (l.length : Int) ≤ 8192 := by omega
          go_wp2_with fail
          go_roundg (ls.length - (j + 1))
          case measure => rw [HK.out]; omega
          case rel => exact ⟨j + 1, by omega, rfl, by simp, ⟨M + l.length, by simp, by rw [HFT.out, HM.out], by omega⟩, rfl⟩
      · have hjn1 : (ls.length : Int) ≤ (j : Int) := by omega
        have HTK : Hid (ls.take j = ls) := Lib.hid (List.take_of_length_le (by omega))
        have HML : Hid (M = ls.flatten.length) := by rw [← HTK.out]; exact HM
        have HE : Hid (Fr.encE k ls.flatten = 0) := by
          unfold Fr.encE
          have h1 := HML.out
          rw [if_neg HKK.out, if_neg (by omega)]
          exact Lib.hid rfl
        have hbA : Below w.heap.size w (w.alloc (.cells #[.int .u8 k] 5)) := (Below.refl _ _).alloc (Nat.le_refl _) _
        have hOA : OwnB (w.alloc (.cells #[.int .u8 k] 5)) w.heap.size (.slice (some ⟨w.heap.size, 0, none⟩) 1 1) [Fr.byte k] := by
          have h := World.ownsRow_lit (base := w.heap.size) (e := 5) (size := 1) w #[.int .u8 k] 1 (Nat.le_refl _) (by unfold maxLen; omega) rfl
          have hc : u8Cells [Fr.byte k] = [.int .u8 k] := by
            have := Fr.byte_val k
            simp [u8Cells, this]
            omega
          unfold OwnB
          rw [hc]
          exact h
        have HOA := Lib.hid hOA
        have hfl : ls.flatten.length ≤ 1000000000 := by have := HML.out; omega
        have HFL := Lib.hid hfl
        clear hOA hfl
        go_wp2_with fail
        refine (concat_any _ ls _ (HV.out.below hbA) hl HFL.out).mono ?_
        rintro e w1 ⟨v1, rfl, ho1, hb1⟩
        have HO1 := Lib.hid ho1
        have HOA1 := Lib.hid (HOA.out.keep hb1)
        have hb01 := hbA.trans (hb1.mono hbA.size)
        have HB01 := Lib.hid hb01
        have hs1 := hb01.size
        have HS : Hid ([Fr.byte k].length + ls.flatten.length ≤ 1000000000) := Lib.hid (by have := HML.out; simp only [List.length_singleton]; omega)
        clear ho1 hb01
        go_wp2_with (first | (at_builtin; refine wpList_append_byts rfl _ _ rfl w.heap.size (.slice (some ⟨w.heap.size, 0, none⟩) 1 1) _ rfl HOA1.out v1 ls.flatten rfl HO1.out.byts HS.out hs1 ?_; intro d' w5 hown5 hgrow5 hloc5; have HOWN := Lib.hid hown5; have HGR := Lib.hid hgrow5; clear hown5 hgrow5 hloc5) | fail)
        obtain ⟨da', dn', dc', hd', HN5⟩ := OwnB.form3 HOWN.out
        subst hd'
        have HB05 := Lib.hid (below_grown HB01.out hs1 HOA1.out HGR.out)
        have HI5 : Hid (OwnB w5 w.heap.size (.slice da' dn' dc') (Fr.inner k ls.flatten)) := HOWN
        have hs5 := HB05.out.size
        refine (four_any M w5).mono ?_
        rintro e w6 ⟨v2, rfl, ho2, hb2⟩
        obtain ⟨da2, dn2, dc2, hd2, HN2⟩ := OwnB.form3 ho2
        subst hd2
        have HO2 := Lib.hid ho2
        have HI6 := Lib.hid (HI5.out.keep hb2)
        have HB06 := Lib.hid (HB05.out.trans (hb2.mono hs5))
        have hs6 := HB06.out.size
        have HB2 := Lib.hid hb2
        clear ho2 hb2
        have hbB : Below w6.heap.size w6 (w6.alloc (.cells #[.slice da' dn' dc'] 42)) := (Below.refl _ _).alloc (Nat.le_refl _) _
        have HPB := Lib.hid (prts_lit1 42 HI6.out.byts)
        have hil : (Fr.inner k ls.flatten).length ≤ 1000000000 := by
          have := HML.out
          unfold Fr.inner
          simp only [List.length_cons]
          omega
        have HIL := Lib.hid hil
        clear hil
        go_wp2_with fail
        refine (sum_any _ [Fr.inner k ls.flatten] _ HPB.out (by simp) (by simpa using HIL.out)).mono ?_
        rintro e w7 ⟨rfl, hb7⟩
        have hb67 := hbB.trans (hb7.mono hbB.size)
        have HB67 := Lib.hid hb67
        have hs67 := hb67.size
        clear hb67 hbB hb7
        go_wp2_with fail
        refine (four_any _ w7).mono ?_
        rintro e w8 ⟨v3, rfl, ho3, hb8⟩
        obtain ⟨da3, dn3, dc3, hd3, HN3⟩ := OwnB.form3 ho3
        subst hd3
        have HO3 := Lib.hid ho3
        have HB68 := Lib.hid (HB67.out.trans (hb8.mono hs67))
        have HP8 := Lib.hid (prts_lit3 42 (HO2.out.keep HB68.out).byts (HI6.out.keep HB68.out).byts ho3.byts)
        have hs68 := HB68.out.size
        have hb89 : Below w8.heap.size w8 (w8.alloc (.cells #[.slice da2 dn2 dc2, .slice da' dn' dc', .slice da3 dn3 dc3] 42)) := (Below.refl _ _).alloc (Nat.le_refl _) _
        have HB89 := Lib.hid (HB68.out.trans (hb89.mono hs68))
        clear ho3 hb8 hb89
        have hfin : [Fr.four M, Fr.inner k ls.flatten, Fr.four (Fr.sum (Fr.inner k ls.flatten))].flatten = Fr.bytes k ls.flatten := by
          rw [HML.out]
          simp [Fr.bytes]
        have HFIN := Lib.hid hfin
        have hlen : (Fr.bytes k ls.flatten).length ≤ 1000000000 := by
          have := HML.out
          rw [Fr.bytes_len]
          omega
        have HLEN := Lib.hid hlen
        clear hlen hfin
        go_wp2_with fail
        refine (concat_any _ [Fr.four M, Fr.inner k ls.flatten, Fr.four (Fr.sum (Fr.inner k ls.flatten))] _ HP8.out (by simp) (by rw [HFIN.out]; exact HLEN.out)).mono ?_
        rintro e w9 ⟨v4, rfl, ho4, hb9⟩
        rw [HFIN.out] at ho4
        have HO4 := Lib.hid ho4
        clear ho4
        go_wp2_with fail
        refine bodyPost_ret (v := .tuple #[v4, .int .i64 0]) (by simp [results, Tryd.results17, go_sem]) rfl ?_
        refine ⟨?_, .inl ⟨HE.out, v4, rfl, HO4.out.mono (by simp; omega)⟩⟩
        have h1 := HB89.out
        have h2 := h1.trans (hb9.mono h1.size)
        exact HB06.out.trans (h2.mono hs6)
end Go.Proofs.YtcinagglbkbmkaaDoor
namespace Go.Proofs.YtcinagglbkbmkaaDoor
set_option linter.unusedSimpArgs false
set_option linter.unusedVariables false
open Go Go.RowKit
open Go.Maps Go.WideMaps

namespace Fr
def pay (l : List UInt8) : List UInt8 := (l.drop 5).take (l.length - 9)
def body (l : List UInt8) : List UInt8 := (l.drop 4).take (l.length - 8)
def kind (l : List UInt8) : Int := ((l.getD 4 0).toNat : Int)
/-- What Decode tells. -/
def decE (l : List UInt8) : Int :=
  if l.length < 9 ∨ 8192 < l.length - 9 ∨ num l ≠ l.length - 9 then 2
  else if kind l < 1 ∨ 9 < kind l then 1
  else if sum (body l) ≠ num (l.drop (l.length - 4)) then 6
  else 0
end Fr
/-- A part of bytes. -/
theorem Byts.part {w : World} {g o n cap : Nat} {l : List UInt8} (h : Byts w (.slice (some ⟨g, o, none⟩) n cap) l) (lo hi cap2 : Nat) (hlo : lo ≤ hi) (hhi : hi ≤ l.length) (hc : hi - lo ≤ cap2) (a : Option Addr) (ha : a = some ⟨g, o + lo, none⟩ ∨ (hi = lo ∧ a ≠ none)) :
    Byts w (.slice a (hi - lo) cap2) ((l.drop lo).take (hi - lo)) := by
  have hlen : ((l.drop lo).take (hi - lo)).length = hi - lo := by simp; omega
  refine ⟨a, cap2, by rw [hlen], by rw [hlen]; exact hc, fun e => ?_, fun i x hx => ?_⟩
  · rcases ha with ha | ha
    · rw [ha] at e; cases e
    · exact absurd e ha.2
  · have hi2 : i < hi - lo := by have := (List.getElem?_eq_some_iff.1 hx).1; omega
    rw [List.getElem?_take, if_pos hi2, List.getElem?_drop] at hx
    obtain ⟨b, off, e1, e2, e3⟩ := h.at hx
    cases e1
    rcases ha with ha | ha
    · exact ⟨g, o + lo, ha, e2, by rw [Nat.add_assoc]; exact e3⟩
    · omega
/-- What 'Decode' leaves. -/
def DecPost (l : List UInt8) (w : World) (e : Ending) (w' : World) : Prop :=
  Below w.heap.size w w' ∧ ((Fr.decE l = 0 ∧ ∃ v, e = .returned (.tuple #[.agg #[.int .i64 (Fr.kind l), v], .int .i64 0]) ∧ OwnB w' w.heap.size v (Fr.pay l)) ∨
    (Fr.decE l ≠ 0 ∧ e = .returned (.tuple #[.agg #[.int .i64 0, .slice none 0 0], .int .i64 (Fr.decE l)])))

theorem cloneB2 (g o n c : Nat) (l : List UInt8) (w : World) (h : Byts w (.slice (some ⟨g, o, none⟩) n c) l) (hn : n = l.length) (hl : l.length ≤ 1000000000) :
    Calls Tryd.prog 24 #[.slice (some ⟨g, o, none⟩) n c] w fun e w' => ∃ v', e = .returned v' ∧ OwnB w' w.heap.size v' l ∧ Below w.heap.size w w' := by
  subst hn
  obtain ⟨i0, hi, hz0, hz1, hz2⟩ := info_parts infoB
  refine (AnyE.slices_Clone cloneB_lays i0 (.int .u8 0) 1 1 hi hz0 hz1 hz2 rfl (by decide) (fun w => Tryd.sizeOf5 w) g o l.length c (u8Cells l) w (by rw [u8Cells_len]; omega) (by unfold maxLen; omega) (by omega) ?_ (u8Cells_one l)).mono ?_
  · intro j u hj
    unfold u8Cells at hj
    rw [List.getElem?_map] at hj
    cases hx : l[j]? with
    | none => rw [hx] at hj; cases hj
    | some y =>
      rw [hx] at hj
      simp at hj
      obtain ⟨b, off, e1, e2, e3⟩ := h.at hx
      cases e1
      rw [← hj]
      exact e3
  · rintro e w' ⟨v', rfl, h3, _, h4⟩
    exact ⟨v', rfl, h3, h4⟩
theorem keepB {w w' : World} (h : Below w.heap.size w w') (o : Obj) : Below w.heap.size w (w'.alloc o) := h.alloc h.size o
set_option maxHeartbeats 1000000 in
set_option maxRecDepth 100000 in
theorem decode_any (v : Value) (l : List UInt8) (w : World) (hV : Byts w v l) (hl : l.length ≤ 1000000000) :
    Calls Tryd.prog 43 #[v] w (DecPost l w) := by
  obtain ⟨va, vc, rfl, hvc⟩ := hV.form
  have hl0 : (0 : Int) ≤ (l.length : Int) := Int.natCast_nonneg _
  have hlB : (l.length : Int) ≤ 1000000000 := by omega
  by_cases h9 : l.length < 9
  · have HE : Hid (Fr.decE l = 2) := by unfold Fr.decE; rw [if_pos (.inl h9)]; exact Lib.hid rfl
    have h1 : (l.length : Int) - 9 < 0 := by omega
    clear hvc hV
    go_enter Tryd.func43, Tryd.ntmps43
    go_wp2_with fail
    refine bodyPost_ret (v := .tuple #[.agg #[.int .i64 0, .slice none 0 0], .int .i64 2]) (by simp [results, Tryd.results43, go_sem]) rfl ?_
    exact ⟨(Below.refl _ _).alloc (Nat.le_refl _) _, .inr ⟨by rw [HE.out]; decide, by rw [HE.out]⟩⟩
  · obtain ⟨m, hm⟩ : ∃ m, l.length = m + 9 := ⟨l.length - 9, by omega⟩
    have hm0 : (0 : Int) ≤ (m : Int) := Int.natCast_nonneg _
    have hmB : (m : Int) ≤ 1000000000 := by omega
    have HM := Lib.hid hm
    rw [hm] at hV hvc ⊢
    clear h9 hl0 hlB hm
    by_cases hbig : 8192 < m
    · have HE : Hid (Fr.decE l = 2) := by
        unfold Fr.decE
        have := HM.out
        rw [if_pos (.inr (.inl (by omega)))]
        exact Lib.hid rfl
      have h2 : 8192 < (m : Int) := by omega
      clear hvc hV
      go_enter Tryd.func43, Tryd.ntmps43
      go_wp2_with fail
      refine bodyPost_ret (v := .tuple #[.agg #[.int .i64 0, .slice none 0 0], .int .i64 2]) (by simp [results, Tryd.results43, go_sem]) rfl ?_
      exact ⟨(Below.refl _ _).alloc (Nat.le_refl _) _, .inr ⟨by rw [HE.out]; decide, by rw [HE.out]⟩⟩
    · have h2 : (m : Int) ≤ 8192 := by omega
      have h3 : (m : Int) % 4294967296 = (m : Int) := by omega
      have HV := Lib.hid (hV.below ((Below.refl w.heap.size w).alloc (Nat.le_refl _) (.cells #[.int .i64 0, .slice none 0 0] 49)))
      have HVC := Lib.hid hvc
      clear hvc hV hbig
      go_enter Tryd.func43, Tryd.ntmps43
      go_wp2_with fail
      refine (number_any _ l _ HV.out (by have := HM.out; omega) (by have := HM.out; omega)).mono ?_
      rintro e w1 ⟨rfl, n1, rfl⟩
      have hr := heap_new w (.cells #[.int .i64 0, .slice none 0 0] 49)
      have hr1 : ((w.alloc (.cells #[.int .i64 0, .slice none 0 0] 49)).drewN n1).heap[w.heap.size]? = some (.cells #[.int .i64 0, .slice none 0 0] 49 (0, 0)) := hr
      have hb1 : Below w.heap.size w ((w.alloc (.cells #[.int .i64 0, .slice none 0 0] 49)).drewN n1) := Below.drewN ((Below.refl _ _).alloc (Nat.le_refl _) _) n1
      have hV1 : Byts ((w.alloc (.cells #[.int .i64 0, .slice none 0 0] 49)).drewN n1) (.slice va (m + 9) vc) l := HV.out.keep (Nat.le_refl _) (fun _ _ => rfl)
      generalize ((w.alloc (.cells #[.int .i64 0, .slice none 0 0] 49)).drewN n1) = w1 at hr1 hb1 hV1 ⊢
      obtain ⟨x4, hx4⟩ : ∃ x, l[4]? = some x := ⟨_, List.getElem?_eq_getElem (by have := HM.out; omega)⟩
      obtain ⟨g, o, rfl, hg, hc4⟩ := hV1.at hx4
      have HK : Hid (Fr.kind l = (x4.toNat : Int)) := by
        unfold Fr.kind
        rw [List.getD_eq_getElem?_getD, hx4]
        exact Lib.hid rfl
      have HV1 := Lib.hid hV1
      have HR1 := Lib.hid hr1
      have y0 : w1.cell? ⟨w.heap.size, 0, none⟩ = some (.int .i64 0) := root_cell hr1 0 _ rfl
      have y1 : w1.cell? ⟨w.heap.size, 1, none⟩ = some (.slice none 0 0) := root_cell hr1 1 _ rfl
      have f0 := root_frozen hr1 0
      have f1 := root_frozen hr1 1
      clear hr hr1 hV1 hx4 HV
      by_cases hnum : (Fr.num l : Int) = (m : Int)
      · have ht : ((Fr.num l : Int) != (m : Int)) = false := by rw [hnum]; simp
        have ht2 : (Fr.num l != m) = false := by rw [Int.ofNat_inj.1 hnum]; simp
        have HNUM := Lib.hid hnum
        clear hnum
        have hx0 : (0 : Int) ≤ (x4.toNat : Int) := Int.natCast_nonneg _
        have hx5 : (x4.toNat : Int) ≤ 255 := by have : x4.toNat < 256 := UInt8.toNat_lt _; omega
        by_cases hkind : (x4.toNat : Int) < 1 ∨ 9 < (x4.toNat : Int)
        · have HE : Hid (Fr.decE l = 1) := by
            unfold Fr.decE
            have e1 := HNUM.out
            have e2 := HM.out
            rw [HK.out, if_neg (by omega), if_pos hkind]
            exact Lib.hid rfl
          rcases hkind with hk | hk
          · go_wp2_with fail
            refine bodyPost_ret (v := .tuple #[.agg #[.int .i64 0, .slice none 0 0], .int .i64 1]) (by simp [results, Tryd.results43, go_sem, y0, y1, f0, f1]) rfl ?_
            exact ⟨(hb1.setCell (p := ⟨w.heap.size, 0, none⟩) (Nat.le_refl _) _).setCell (p := ⟨w.heap.size, 1, none⟩) (Nat.le_refl _) _, .inr ⟨by rw [HE.out]; decide, by rw [HE.out]⟩⟩
          · have hk2 : (1 : Int) ≤ (x4.toNat : Int) := by omega
            go_wp2_with fail
            refine bodyPost_ret (v := .tuple #[.agg #[.int .i64 0, .slice none 0 0], .int .i64 1]) (by simp [results, Tryd.results43, go_sem, y0, y1, f0, f1]) rfl ?_
            exact ⟨(hb1.setCell (p := ⟨w.heap.size, 0, none⟩) (Nat.le_refl _) _).setCell (p := ⟨w.heap.size, 1, none⟩) (Nat.le_refl _) _, .inr ⟨by rw [HE.out]; decide, by rw [HE.out]⟩⟩
        · have hk1 : 1 ≤ (x4.toNat : Int) := by omega
          have hk2 : (x4.toNat : Int) ≤ 9 := by omega
          have HKK := Lib.hid hkind
          clear hkind
          go_wp2_with fail
          have hvc := HVC.out
          have hz1 : (5 : Int) + (m : Int) ≤ (vc : Int) := by omega
          have hz2 : (0 : Int) ≤ (5 : Int) + (m : Int) := by omega
          have hz3 : (4 : Int) ≤ (5 : Int) + (m : Int) := by omega
          have hz4 : ((5 : Int) + (m : Int)).toNat = 5 + m := by omega
          have hz5 : vc ≠ 4 := by omega
          have hz6 : vc ≠ 5 + m := by omega
          have hz7 : (5 : Int) + (m : Int) ≤ (m : Int) + 9 := by omega
          have hz0 : IntKind.i64.wrap ((5 : Int) + (m : Int)) = 5 + (m : Int) := by rw [IntKind.wrap_i64]; omega
          have hz8 : (4 : Int).toNat = 4 := rfl
          clear hvc
          have hS : Below w1.heap.size w1 w1.drew := ⟨rfl, rfl, rfl, Nat.le_refl _, fun _ _ => rfl⟩
          have HBODY : Hid ((l.drop 4).take (5 + m - 4) = Fr.body l) := by
            unfold Fr.body
            have := HM.out
            rw [show l.length - 8 = 5 + m - 4 by omega]
            exact Lib.hid rfl
          have HTAIL : Hid ((l.drop (5 + m)).take (m + 9 - (5 + m)) = l.drop (l.length - 4)) := by
            have := HM.out
            rw [List.take_of_length_le (by rw [List.length_drop]; omega), show l.length - 4 = 5 + m by omega]
            exact Lib.hid rfl
          have hp1 : Byts w1 (.slice (some ⟨g, o + 4, none⟩) (5 + m - 4) (vc - 4)) (Fr.body l) := by
            rw [← HBODY.out]
            exact HV1.out.part 4 (5 + m) (vc - 4) (by omega) (by have := HM.out; omega) (by omega) _ (.inl rfl)
          have HP2 : Hid (Byts w1 (.slice (some ⟨g, o + (5 + m), none⟩) (m + 9 - (5 + m)) (vc - (5 + m))) (l.drop (l.length - 4))) := by
            rw [← HTAIL.out]
            exact Lib.hid (HV1.out.part (5 + m) (m + 9) (vc - (5 + m)) (by omega) (by have := HM.out; omega) (by have := HVC.out; omega) _ (.inl rfl))
          have HPB : Hid (Prts (w1.alloc (.cells #[.slice (some ⟨g, o + 4, none⟩) (5 + m - 4) (vc - 4)] 42)).drew (.slice (some ⟨w1.heap.size, 0, none⟩) 1 1) [Fr.body l]) :=
            Lib.hid ((prts_lit1 42 hp1).keep (Nat.le_refl _) (fun _ _ => rfl))
          have HP1 := Lib.hid hp1
          have HBL : Hid (∀ q ∈ [Fr.body l], q.length ≤ 1000000000) := by
            refine Lib.hid fun q hq => ?_
            simp at hq
            subst hq
            unfold Fr.body
            simp
            omega
          have HBA : Hid (Below w1.heap.size w1 (w1.alloc (.cells #[.slice (some ⟨g, o + 4, none⟩) (5 + m - 4) (vc - 4)] 42)).drew) :=
            Lib.hid (((Below.refl _ _).alloc (Nat.le_refl _) _).trans ⟨rfl, rfl, rfl, Nat.le_refl _, fun _ _ => rfl⟩)
          have HLT : Hid (4 ≤ (l.drop (l.length - 4)).length ∧ (l.drop (l.length - 4)).length ≤ 1000000000) := by
            have := HM.out
            refine Lib.hid ?_
            simp
            omega
          clear hp1
          go_region_held3 (fun w' => Below w1.heap.size w1 w') (first | assumption | exact keepB (by assumption) _)
            (first
              | (go_at_call 35; refine (sum_any _ [Fr.body l] _ HPB.out (by simp) HBL.out).mono ?_; rintro e w2 ⟨rfl, hb2⟩; have hS2 := HBA.out.trans (hb2.mono HBA.out.size); clear hb2)
              | (go_at_call 42; refine (number_any _ (l.drop (l.length - 4)) _ (HP2.out.below (by assumption)) HLT.out.1 HLT.out.2).mono ?_; rintro e w3 ⟨rfl, n3, rfl⟩; have hS3 := Below.drewN hS2 n3))
          have hr4 : (w2.drewN n3).heap[w.heap.size]? = some (.cells #[.int .i64 0, .slice none 0 0] 49 (0, 0)) := by
            rw [hS3.block _ (heap_lt HR1.out)]
            exact HR1.out
          have hb4 : Below w.heap.size w (w2.drewN n3) := hb1.trans (hS3.mono hb1.size)
          have HS4 := Lib.hid hS3
          clear y0 y1 f0 f1 hc4 ht ht2 h3
          generalize w2.drewN n3 = w4 at hr4 hb4 HS4 ⊢
          have HR4 := Lib.hid hr4
          have y0 : w4.cell? ⟨w.heap.size, 0, none⟩ = some (.int .i64 0) := root_cell hr4 0 _ rfl
          have y1 : w4.cell? ⟨w.heap.size, 1, none⟩ = some (.slice none 0 0) := root_cell hr4 1 _ rfl
          have f0 := root_frozen hr4 0
          have f1 := root_frozen hr4 1
          have hb1 := hb4
          clear hr4
          by_cases hsum : Fr.sum (Fr.body l) = Fr.num (l.drop (l.length - 4))
          · have ht : (Fr.sum (Fr.body l) != (Fr.num (l.drop (l.length - 4)) : Int)) = false := by rw [hsum]; simp
            have HE : Hid (Fr.decE l = 0) := by
              unfold Fr.decE
              have e1 := HNUM.out
              have e2 := HM.out
              rw [HK.out, if_neg (by omega), if_neg HKK.out, if_neg (by simp [hsum])]
              exact Lib.hid rfl
            clear hsum
            have HPAY : Hid (Fr.pay l = (l.drop 5).take (5 + m - 5)) := by
              unfold Fr.pay
              have := HM.out
              rw [show l.length - 9 = 5 + m - 5 by omega]
              exact Lib.hid rfl
            have HP5 : Hid (Byts w4 (.slice (some ⟨g, o + 5, none⟩) m (vc - 5)) (Fr.pay l)) := by
              rw [HPAY.out]
              have e5 : 5 + m - 5 = m := by omega
              have hq := (HV1.out.part 5 (5 + m) (vc - 5) (by omega) (by have := HM.out; omega) (by omega) (some ⟨g, o + 5, none⟩) (.inl rfl)).below HS4.out
              rw [e5] at hq ⊢
              exact Lib.hid hq
            have HPL : Hid ((Fr.pay l).length = m) := by
              have := HM.out
              unfold Fr.pay
              rw [List.length_take, List.length_drop]
              exact Lib.hid (by omega)
            have hz9 : vc ≠ 5 := by have := HVC.out; omega
            have hz10 : (5 : Int) ≤ 5 + (m : Int) := by omega
            have hz11 : (5 : Int).toNat = 5 := rfl
            go_wp2_with fail
            refine (cloneB2 g (o + 5) m (vc - 5) (Fr.pay l) w4 HP5.out HPL.out.symm (by have := HPL.out; omega)).mono ?_
            rintro e w5 ⟨v5, rfl, ho5, hb5⟩
            obtain ⟨da5, dn5, dc5, hd5, HN5⟩ := OwnB.form3 ho5
            subst hd5
            have HO5 := Lib.hid ho5
            have hr5 : w5.heap[w.heap.size]? = some (.cells #[.int .i64 0, .slice none 0 0] 49 (0, 0)) := by
              rw [hb5.block _ (heap_lt HR4.out)]
              exact HR4.out
            have hb05 : Below w.heap.size w w5 := hb4.trans (hb5.mono hb4.size)
            have z0 : w5.cell? ⟨w.heap.size, 0, none⟩ = some (.int .i64 0) := root_cell hr5 0 _ rfl
            have z1 : w5.cell? ⟨w.heap.size, 1, none⟩ = some (.slice none 0 0) := root_cell hr5 1 _ rfl
            have g0 := root_frozen hr5 0
            have g1 := root_frozen hr5 1
            have hlt5 : w.heap.size < w4.heap.size := heap_lt HR4.out
            clear hr5 ho5 y0 y1 f0 f1
            go_wp2_with fail
            refine bodyPost_ret (v := .tuple #[.agg #[.int .i64 x4.toNat, .slice da5 dn5 dc5], .int .i64 0]) (by simp [results, Tryd.results43, go_sem, z0, z1, g0, g1]) rfl ?_
            refine ⟨(hb05.setCell (p := ⟨w.heap.size, 0, none⟩) (Nat.le_refl _) _).setCell (p := ⟨w.heap.size, 1, none⟩) (Nat.le_refl _) _, .inl ⟨HE.out, .slice da5 dn5 dc5, by rw [HK.out], ?_⟩⟩
            refine row_kept (HO5.out.mono (Nat.le_of_lt hlt5)) (fun g hg => ?_)
            have := (HO5.out.lt g hg).1
            rw [Below.heap_setCell _ _ _ _ (by show g ≠ w.heap.size; omega), Below.heap_setCell _ _ _ _ (by show g ≠ w.heap.size; omega)]
          · have ht : (Fr.sum (Fr.body l) != (Fr.num (l.drop (l.length - 4)) : Int)) = true := by rw [bne_iff_ne]; exact hsum
            have HE : Hid (Fr.decE l = 6) := by
              unfold Fr.decE
              have e1 := HNUM.out
              have e2 := HM.out
              rw [HK.out, if_neg (by omega), if_neg HKK.out, if_pos hsum]
              exact Lib.hid rfl
            clear hsum
            go_wp2_with fail
            refine bodyPost_ret (v := .tuple #[.agg #[.int .i64 0, .slice none 0 0], .int .i64 6]) (by simp [results, Tryd.results43, go_sem, y0, y1, f0, f1]) rfl ?_
            exact ⟨(hb1.setCell (p := ⟨w.heap.size, 0, none⟩) (Nat.le_refl _) _).setCell (p := ⟨w.heap.size, 1, none⟩) (Nat.le_refl _) _, .inr ⟨by rw [HE.out]; decide, by rw [HE.out]⟩⟩
      · have ht : ((Fr.num l : Int) != (m : Int)) = true := by rw [bne_iff_ne]; exact hnum
        have ht2 : (Fr.num l != m) = true := by rw [bne_iff_ne]; omega
        have HE : Hid (Fr.decE l = 2) := by
          unfold Fr.decE
          have := HM.out
          rw [if_pos (.inr (.inr (by omega)))]
          exact Lib.hid rfl
        clear hnum
        go_wp2_with fail
        refine bodyPost_ret (v := .tuple #[.agg #[.int .i64 0, .slice none 0 0], .int .i64 2]) (by simp [results, Tryd.results43, go_sem, y0, y1, f0, f1]) rfl ?_
        exact ⟨(hb1.setCell (p := ⟨w.heap.size, 0, none⟩) (Nat.le_refl _) _).setCell (p := ⟨w.heap.size, 1, none⟩) (Nat.le_refl _) _, .inr ⟨by rw [HE.out]; decide, by rw [HE.out]⟩⟩
end Go.Proofs.YtcinagglbkbmkaaDoor
namespace Go.Proofs.YtcinagglbkbmkaaDoor
set_option linter.unusedSimpArgs false
set_option linter.unusedVariables false
open Go Go.RowKit
open Go.Maps Go.WideMaps

namespace Fr
abbrev F := Int × List UInt8
/-- Is there a frame at the front? -/
def stop (l : List UInt8) : Bool := decide (l.length < 9) || decide (8192 < num l) || decide (l.length - 9 < num l) || decide (decE (l.take (9 + num l)) ≠ 0)
def first (l : List UInt8) : F := (kind (l.take (9 + num l)), pay (l.take (9 + num l)))
def scanGo : Nat → List UInt8 → List F → Nat → List F × Nat
  | 0, _, out, a => (out, a)
  | k + 1, l, out, a => if stop l then (out, a) else scanGo k (l.drop (9 + num l)) (out ++ [first l]) (a + (9 + num l))
/-- The frames of the front, and where they end. -/
def scan (l : List UInt8) : List F × Nat := scanGo (l.length + 1) l [] 0
end Fr

def frCells (ps : List (Fr.F × Value)) : List Value := ps.flatMap fun p => [.int .i64 p.1.1, p.2]
/-- Frames in memory of the call's own. -/
structure FrAt (w : World) (base : Nat) (v : Value) (ps : List (Fr.F × Value)) : Prop where
  row : w.ownsRow base 49 2 v ps.length (frCells ps)
  pay : ∀ p ∈ ps, OwnB w base p.2 p.1.2
  apart : ∀ p ∈ ps, ∀ g, p.2.ownBlock = some g → v.ownBlock ≠ some g
theorem FrAt.keep {w w' : World} {base : Nat} {v : Value} {ps : List (Fr.F × Value)} (h : FrAt w base v ps) (hb : Below w.heap.size w w') : FrAt w' base v ps :=
  ⟨row_kept h.row (fun g hg => hb.block g (h.row.lt g hg).2), fun p hp => (h.pay p hp).keep hb, h.apart⟩
theorem FrAt.nil (w : World) (base : Nat) : FrAt w base (.slice none 0 0) [] := ⟨World.ownsRow_nil _ _ _ _, fun p h => by simp at h, fun p h => by simp at h⟩
theorem infoF : (Tryd.prog.info? 49).map (fun i => (i.zero, i.size, i.bytes)) = some (some (.agg #[.int .i64 0, .slice none 0 0]), 2, 32) := by kernel_rfl
/-- One frame more. -/
theorem FrAt.more {w w5 : World} {base : Nat} {v v' x : Value} {ps : List (Fr.F × Value)} {f : Fr.F} (h : FrAt w base v ps) (hx : OwnB w base x f.2) (hne : ∀ g, x.ownBlock = some g → v.ownBlock ≠ some g)
    (hrow : w5.ownsRow base 49 2 v' (ps.length + 1) (frCells ps ++ [.int .i64 f.1, x])) (hg : w.grownBy w5 v.ownBlock) (hloc : v'.ownBlock = v.ownBlock ∨ v'.ownBlock = some w.heap.size) :
    FrAt w5 base v' (ps ++ [(f, x)]) := by
  have hk : ∀ (y : Value) (l : List UInt8), OwnB w base y l → (∀ g, y.ownBlock = some g → v.ownBlock ≠ some g) → OwnB w5 base y l ∧ (∀ g, y.ownBlock = some g → v'.ownBlock ≠ some g) := fun y l hy hn =>
    ⟨row_kept hy (fun g hg2 => hg.block g (hy.lt g hg2).2 (fun e => hn g hg2 e.symm)), fun g hg2 => by
      rcases hloc with e | e
      · rw [e]; exact hn g hg2
      · rw [e]
        intro e2
        have := (hy.lt g hg2).2
        simp at e2
        omega⟩
  refine ⟨?_, fun p hp => ?_, fun p hp => ?_⟩
  · rw [List.length_append]
    unfold frCells at hrow ⊢
    rw [List.flatMap_append]
    exact hrow
  · rcases List.mem_append.1 hp with hp | hp
    · exact (hk p.2 p.1.2 (h.pay p hp) (h.apart p hp)).1
    · simp at hp; subst hp; exact (hk x f.2 hx hne).1
  · rcases List.mem_append.1 hp with hp | hp
    · exact (hk p.2 p.1.2 (h.pay p hp) (h.apart p hp)).2
    · simp at hp; subst hp; exact (hk x f.2 hx hne).2

/-- What 'Scan' leaves. -/
def ScanPost (l : List UInt8) (w : World) (e : Ending) (w' : World) : Prop :=
  Below w.heap.size w w' ∧ ∃ v ps, e = .returned (.tuple #[v, .int .i64 ((Fr.scan l).2 : Nat)]) ∧ FrAt w' w.heap.size v ps ∧ ps.map (·.1) = (Fr.scan l).1

set_option maxHeartbeats 1000000 in
set_option maxRecDepth 100000 in
theorem scan_any (v : Value) (l : List UInt8) (w : World) (hV : Byts w v l) (hl : l.length ≤ 1000000000) :
    Calls Tryd.prog 26 #[v] w (ScanPost l w) := by
  obtain ⟨va, vc, rfl, hvc⟩ := hV.form
  have HVC := Lib.hid hvc
  have HV := Lib.hid hV
  obtain ⟨L, hL⟩ : ∃ L, L = l.length := ⟨_, rfl⟩
  have HL := Lib.hid hL
  have hLB : (L : Int) ≤ 1000000000 := by omega
  have hL0 : (0 : Int) ≤ (L : Int) := Int.natCast_nonneg _
  rw [← hL] at HV ⊢
  clear hvc hV hL
  go_enter Tryd.func26, Tryd.ntmps26
  go_wp2_with fail
  go_loopg [4, 5] (L + 1) (fun k s4 s5 wr => ∃ (a : Nat) (ps : List (Fr.F × Value)), a ≤ L ∧ L < k + a ∧ s5 = .int .i64 (a : Nat) ∧ FrAt wr w.heap.size s4 ps ∧ Fr.scanGo k (l.drop a) (ps.map (·.1)) a = Fr.scan l ∧ ps.length ≤ a ∧ Below w.heap.size w wr)
  case atStart => exact ⟨0, [], Nat.zero_le _, by omega, rfl, FrAt.nil _ _, by rw [HL.out]; rfl, Nat.le_refl _, Below.refl _ _⟩
  case round =>
    obtain ⟨a, ps, ha, hk, rfl, hF, hsc, hpl, hB⟩ := hrel
    have HF := Lib.hid hF
    have HSC := Lib.hid hsc
    have HPL := Lib.hid hpl
    have HB := Lib.hid hB
    clear hF hsc hpl hB
    have ha0 : (0 : Int) ≤ (a : Int) := Int.natCast_nonneg _
    have haL : (a : Int) ≤ (L : Int) := by omega
    obtain ⟨k', rfl⟩ : ∃ k', gk = k' + 1 := ⟨gk - 1, by omega⟩
    have HGO : Hid (Fr.scanGo (k' + 1) (l.drop a) (ps.map (·.1)) a = if Fr.stop (l.drop a) then (ps.map (·.1), a) else Fr.scanGo k' ((l.drop a).drop (9 + Fr.num (l.drop a))) (ps.map (·.1) ++ [Fr.first (l.drop a)]) (a + (9 + Fr.num (l.drop a)))) := Lib.hid rfl
    have HLD : Hid ((l.drop a).length = L - a) := by rw [List.length_drop, HL.out]; exact Lib.hid rfl
    have HEND : Fr.stop (l.drop a) = true → Fr.scan l = (ps.map (·.1), a) := fun h => by rw [← HSC.out, HGO.out, if_pos h]
    have HND := Lib.hid HEND
    clear HEND
    by_cases h9 : a + 9 ≤ L
    · have h9a : (9 : Int) ≤ (L : Int) - (a : Int) := by omega
      have hva : vc ≠ a := by have := HVC.out; have := HL.out; omega
      obtain ⟨x0, hx0⟩ : ∃ x, l[a]? = some x := ⟨_, List.getElem?_eq_getElem (by have := HL.out; omega)⟩
      obtain ⟨g, o, rfl, hg, _⟩ := HV.out.at hx0
      clear hx0
      have HBD : Hid (Byts wr (.slice (some ⟨g, o + a, none⟩) (L - a) (vc - a)) (l.drop a)) := by
        have h1 := (HV.out.below HB.out).part a L (vc - a) ha (by rw [HL.out]; exact Nat.le_refl _) (by have := HVC.out; have := HL.out; omega) _ (.inl rfl)
        rw [List.take_of_length_le (by rw [HLD.out]; exact Nat.le_refl _)] at h1
        exact Lib.hid h1
      go_wp2_with fail
      refine (number_any _ (l.drop a) _ HBD.out (by rw [HLD.out]; omega) (by rw [HLD.out]; omega)).mono ?_
      rintro e w1 ⟨rfl, n1, rfl⟩
      have HB1 := Lib.hid (Below.drewN HB.out n1)
      have HF1 := Lib.hid (HF.out.keep (Below.drewN (Below.refl _ _) n1))
      obtain ⟨N, hN⟩ : ∃ N, N = Fr.num (l.drop a) := ⟨_, rfl⟩
      have HN := Lib.hid hN
      rw [← hN]
      clear hN
      have hN0 : (0 : Int) ≤ (N : Int) := Int.natCast_nonneg _
      by_cases hbig : 8192 < N
      · have hb2 : (8192 : Int) < (N : Int) := by omega
        have HS : Hid (Fr.stop (l.drop a) = true) := by
          unfold Fr.stop
          rw [← HN.out, decide_eq_true hbig]
          exact Lib.hid (by simp)
        clear hbig
        go_wp2_with fail
        refine bodyPost_ret (v := .tuple #[u4, .int .i64 (a : Nat)]) (by simp [results, Tryd.results26, go_sem]) rfl ?_
        exact ⟨HB1.out, u4, ps, by rw [HND.out HS.out], HF1.out, by rw [HND.out HS.out]⟩
      · have hb2 : (N : Int) ≤ 8192 := by omega
        clear hbig
        by_cases hlong : L < a + 9 + N
        · have hl2 : (L : Int) - (a : Int) - 9 < (N : Int) := by omega
          have HS : Hid (Fr.stop (l.drop a) = true) := by
            unfold Fr.stop
            rw [← HN.out, HLD.out, decide_eq_true (p := L - a - 9 < N) (by omega)]
            exact Lib.hid (by simp)
          clear hlong
          go_wp2_with fail
          refine bodyPost_ret (v := .tuple #[u4, .int .i64 (a : Nat)]) (by simp [results, Tryd.results26, go_sem]) rfl ?_
          exact ⟨HB1.out, u4, ps, by rw [HND.out HS.out], HF1.out, by rw [HND.out HS.out]⟩
        · have hl2 : (N : Int) ≤ (L : Int) - (a : Int) - 9 := by omega
          have hw1 : ((a : Int) + 9 + (N : Int)).toNat = a + 9 + N := by omega
          have hw2 : (a : Int) + 9 + (N : Int) ≤ (vc : Int) := by have := HVC.out; have := HL.out; omega
          have hw3 : (0 : Int) ≤ (a : Int) + 9 + (N : Int) := by omega
          have hw4 : (a : Int) ≤ (a : Int) + 9 + (N : Int) := by omega
          have HBD2 : Hid (Byts (wr.drewN n1) (.slice (some ⟨g, o + a, none⟩) (a + 9 + N - a) (vc - a)) ((l.drop a).take (9 + Fr.num (l.drop a)))) := by
            have h1 := (HV.out.below HB1.out).part a (a + 9 + N) (vc - a) (by omega) (by rw [← HL.out]; omega) (by have := HVC.out; have := HL.out; omega) _ (.inl rfl)
            rw [show (l.drop a).take (a + 9 + N - a) = (l.drop a).take (9 + Fr.num (l.drop a)) by rw [← HN.out, show a + 9 + N - a = 9 + N by omega]] at h1
            exact Lib.hid h1
          go_wp2_with fail
          refine (decode_any _ ((l.drop a).take (9 + Fr.num (l.drop a))) _ HBD2.out (by rw [List.length_take, List.length_drop]; omega)).mono ?_
          rintro e w2 ⟨hb2', hres⟩
          have HB2 := Lib.hid (HB1.out.trans (hb2'.mono HB1.out.size))
          have HF2 := Lib.hid (HF1.out.keep hb2')
          have HBD3 := Lib.hid hb2'
          clear hb2'
          rcases hres with ⟨h0, v2, rfl, ho⟩ | ⟨h0, rfl⟩
          · obtain ⟨da2, dn2, dc2, hd2, HN2⟩ := OwnB.form3 ho
            subst hd2
            have HO := Lib.hid ho
            have HD0 := Lib.hid h0
            clear ho h0
            obtain ⟨K, hK⟩ : ∃ K, K = Fr.kind ((l.drop a).take (9 + Fr.num (l.drop a))) := ⟨_, rfl⟩
            have HKK := Lib.hid hK
            rw [← hK]
            clear hK
            obtain ⟨i0, hi, hz0, hz1, hz2⟩ := info_parts infoF
            have hpl : ps.length ≤ 1000000000 := by have := HPL.out; omega
            have hbW : Below w2.heap.size w2 ((w2.alloc (.cells #[.int .i64 K, .slice da2 dn2 dc2] 49)).alloc (.cells #[.int .i64 K, .slice da2 dn2 dc2] 49)) := ((Below.refl _ _).alloc (Nat.le_refl _) _).alloc (by simp) _
            have HFW := Lib.hid (HF2.out.keep hbW)
            have HOW := Lib.hid ((HO.out.keep hbW).mono HB1.out.size)
            have HBW := Lib.hid (HB2.out.trans (hbW.mono HB2.out.size))
            have hbase := HBW.out.size
            have HCN : Hid (∀ (j : Nat) u, [Value.int .i64 K, Value.slice da2 dn2 dc2][j]? = some u → ((w2.alloc (.cells #[.int .i64 K, .slice da2 dn2 dc2] 49)).alloc (.cells #[.int .i64 K, .slice da2 dn2 dc2] 49)).cell? ((⟨w2.heap.size + 1, 0, none⟩ : Addr).add j) = some u) := by
              refine Lib.hid fun j u hj => ?_
              rw [addr_add]
              have := cell_new (w2.alloc (.cells #[.int .i64 K, .slice da2 dn2 dc2] 49)) #[.int .i64 K, .slice da2 dn2 dc2] 49 j u (by simpa using hj)
              rw [show (w2.alloc (.cells #[.int .i64 K, .slice da2 dn2 dc2] 49)).heap.size = w2.heap.size + 1 by simp] at this
              exact this
            have HONE : Hid (∀ u ∈ [Value.int .i64 K, Value.slice da2 dn2 dc2], u.oneCell' = true) := Lib.hid (fun u hu => by simp at hu; rcases hu with rfl | rfl <;> rfl)
            have HAP : Hid (∀ g, (Value.slice da2 dn2 dc2).ownBlock = some g → u4.ownBlock ≠ some g) := Lib.hid (fun g hg e => by
              have h1 := (HO.out.lt g hg).1
              have h2 := (HF.out.row.lt g e).2
              have h3 : (wr.drewN n1).heap.size = wr.heap.size := rfl
              omega)
            have HS0 : Hid (Fr.stop (l.drop a) = false) := by
              unfold Fr.stop
              have e1 := HD0.out
              rw [← HN.out] at e1
              rw [HLD.out, ← HN.out]
              exact Lib.hid (by simp [e1]; omega)
            have HF' : Hid (Fr.scanGo k' (l.drop (a + (9 + N))) ((ps ++ [((K, Fr.pay ((l.drop a).take (9 + Fr.num (l.drop a)))), Value.slice da2 dn2 dc2)]).map (·.1)) (a + (9 + N)) = Fr.scan l) := by
              refine Lib.hid ?_
              rw [← HSC.out, HGO.out, if_neg (by rw [HS0.out]; simp), List.drop_drop, List.map_append, HKK.out, HN.out]
              rfl
            clear hbW
            go_wp2_with (first | (at_builtin; refine wpList_append_own_at _ rfl _ _ 76 rfl w.heap.size 49 i0 _ 2 32 Tryd.underlying76 hi hz0 hz1 hz2 rfl (by decide) u4 ps.length (frCells ps) rfl HFW.out.row ⟨w2.heap.size + 1, 0, none⟩ 1 1 [.int .i64 K, .slice da2 dn2 dc2] rfl rfl HCN.out HONE.out (by unfold maxLen; omega) (by omega) hbase ?_; intro d' w5 hown5 hgrow5 hnil5 hloc5; clear hnil5; have HNEW := Lib.hid (FrAt.more (f := (K, Fr.pay ((l.drop a).take (9 + Fr.num (l.drop a))))) HFW.out HOW.out HAP.out hown5 hgrow5 hloc5); have HB5 := Lib.hid (below_grown HBW.out hbase HFW.out.row hgrow5); clear hloc5 hown5 hgrow5) | fail)
            go_roundg k'
            case measure => omega
            case rel =>
              exact ⟨a + (9 + N), _, by omega, by omega, by simp, HNEW.out, HF'.out, by rw [List.length_append]; have := HPL.out; simp; omega, HB5.out⟩
          · have ht : (Fr.decE ((l.drop a).take (9 + Fr.num (l.drop a))) != 0) = true := by rw [bne_iff_ne]; exact h0
            have HS : Hid (Fr.stop (l.drop a) = true) := by
              unfold Fr.stop
              rw [decide_eq_true h0]
              exact Lib.hid (by simp)
            clear h0
            have hbE : Below w2.heap.size w2 (w2.alloc (.cells #[.int .i64 0, .slice none 0 0] 49)) := (Below.refl _ _).alloc (Nat.le_refl _) _
            have HBE := Lib.hid (HB2.out.trans (hbE.mono HB2.out.size))
            have HFE := Lib.hid (HF2.out.keep hbE)
            clear hbE
            go_wp2_with fail
            refine bodyPost_ret (v := .tuple #[u4, .int .i64 (a : Nat)]) (by simp [results, Tryd.results26, go_sem]) rfl ?_
            exact ⟨HBE.out, u4, ps, by rw [HND.out HS.out], HFE.out, by rw [HND.out HS.out]⟩
    · have h9a : (L : Int) - (a : Int) < 9 := by omega
      have HS : Hid (Fr.stop (l.drop a) = true) := by
        unfold Fr.stop
        rw [HLD.out, decide_eq_true (p := L - a < 9) (by omega)]
        exact Lib.hid rfl
      go_wp2_with fail
      refine bodyPost_ret (v := .tuple #[u4, .int .i64 (a : Nat)]) (by simp [results, Tryd.results26, go_sem]) rfl ?_
      exact ⟨HB.out, u4, ps, by rw [HND.out HS.out], HF.out, by rw [HND.out HS.out]⟩
end Go.Proofs.YtcinagglbkbmkaaDoor
namespace Go.Proofs.YtcinagglbkbmkaaDoor
set_option linter.unusedSimpArgs false
set_option linter.unusedVariables false
open Go Go.RowKit
open Go.ChangeShapes Go.WideShapes Go.ChangeAt

theorem take_some {α : Type} {l : List α} {n i : Nat} {x : α} (h : (l.take n)[i]? = some x) : l[i]? = some x := by
  rw [List.getElem?_take] at h
  split at h
  · exact h
  · cases h
theorem cell_lt2 {w : World} {p : Addr} {v : Value} (h : w.cell? p = some v) : p.block < w.heap.size := by
  unfold World.cell? at h
  rcases Nat.lt_or_ge p.block w.heap.size with h' | h'
  · exact h'
  · simp [Array.getElem?_eq_none h'] at h
theorem cellsU8 : Tryd.prog.cellsOf 5 = 1 := by kernel_rfl
set_option maxRecDepth 100000 in
/-- A '[]uint8' of the input, opened. -/
theorem bytes_cs {H : Type} {enc : TypeId × Value → H} {W : World} {cs : List Value} {x : DataW H × List MemPlace} {fuel : Nat} (hf : DataW.trod enc Tryd.prog W 0 (fun _ => true) true fuel 42 cs = some x) : ∃ v l, cs = [v] ∧ Byts W v l ∧ l.length ≤ maxLen := by
  rcases open_ints Tryd.underlying42 Tryd.underlying5 cellsU8 hf with ⟨rfl, hx⟩ | ⟨a, len, cap, ss, rfl, _, hl, hm, hz, hx, hcell, hwz⟩
  · exact ⟨_, [], rfl, ⟨none, 0, rfl, by simp, by simp, by simp⟩, by simp⟩
  · skip
    simp only [if_true] at hz
    obtain ⟨b, off, spot⟩ := a
    have hlen : (ss.take len).length = len := by rw [List.length_take]; omega
    refine ⟨_, (ss.take len).map fun z => UInt8.ofNat z.toNat, rfl, ?_, by rw [List.length_map, hlen]; omega⟩
    refine ⟨some ⟨b, off, spot⟩, cap, by rw [List.length_map, hlen], by rw [List.length_map, hlen]; exact hl, (fun e => by cases e), fun i s hi => ?_⟩
    rw [List.getElem?_map] at hi
    obtain ⟨z, hiz, rfl⟩ := Option.map_eq_some_iff.1 hi
    have hi2 : ss[i]? = some z := take_some hiz
    have hil : i < ss.length := (List.getElem?_eq_some_iff.1 hi2).1
    have h1 := hcell 0 (by omega)
    have hspot : spot = none := by simpa [Addr.add] using World.cell?_spot h1
    subst hspot
    have hz0 : 0 ≤ z ∧ z ≤ 255 := by
      have h5 := hwz z (List.mem_of_mem_take (List.mem_of_getElem? hiz))
      have e1 : IntKind.u8.min = 0 := rfl
      have e2 : IntKind.u8.max = 255 := rfl
      simpa [Lit.wf, e1, e2] using h5
    refine ⟨b, off, rfl, ?_, ?_⟩
    · have := cell_lt2 h1
      simpa [Addr.add] using this
    · have := hcell i hil
      rw [add_plain] at this
      rw [this, List.getD_eq_getElem?_getD, hi2]
      have h6 : (UInt8.ofNat z.toNat).toNat = z.toNat := UInt8.toNat_ofNat_of_lt' (by show _ < 256; omega)
      rw [h6, Int.toNat_of_nonneg hz0.1]
      rfl

theorem parts_list {W : World} {n : Nat} {Q : Nat → List UInt8 → Prop} (h : ∀ i, i < n → ∃ l, Q i l) : ∀ m, m ≤ n → ∃ ls : List (List UInt8), ls.length = m ∧ ∀ (i : Nat) l, ls[i]? = some l → Q i l
  | 0, _ => ⟨[], rfl, fun i l hi => by simp at hi⟩
  | m + 1, hm => by
    obtain ⟨ls, h1, h2⟩ := parts_list (W := W) h m (by omega)
    obtain ⟨l, hl⟩ := h m (by omega)
    refine ⟨ls ++ [l], by rw [List.length_append, h1]; rfl, fun i x hi => ?_⟩
    by_cases hlt : i < ls.length
    · rw [List.getElem?_append_left hlt] at hi
      exact h2 i x hi
    · rw [List.getElem?_append_right (by omega)] at hi
      have : i - ls.length = 0 := by
        have := (List.getElem?_eq_some_iff.1 hi).1
        simp at this
        omega
      rw [this] at hi
      simp at hi
      subst hi
      rw [show i = m by omega]
      exact hl
theorem cellsBs : Tryd.prog.cellsOf 42 = 1 := by kernel_rfl
set_option maxRecDepth 100000 in
/-- A '[][]uint8' of the input, opened. -/
theorem parts_of {H : Type} {enc : TypeId × Value → H} {W : World} {v : Value} {d : DataW H} {p : List MemPlace} (h : DataW.Trod enc Tryd.prog W 0 (fun _ => true) true 22 v d p)
    {r : Reach} {base : Nat} (hv : Value.okWide Tryd.prog W r base 22 v) : ∃ ls, Prts W v ls ∧ ls.length ≤ maxLen ∧ ∀ l ∈ ls, l.length ≤ maxLen := by
  obtain ⟨a0, len0, cap0, rfl⟩ := okWide_slice Tryd.underlying22 hv
  obtain ⟨fuel, hf⟩ := h
  rcases DataW.trod_slice Tryd.underlying22 hf with ⟨hcs, -⟩ | ⟨a, len, cap, elems, rest, n', e2, hcs, -, -, hlc, hcm, hel, hrd, -⟩
  · simp [Value.cells] at hcs
    obtain ⟨rfl, rfl, rfl⟩ := hcs
    exact ⟨[], ⟨none, 0, rfl, by simp, fun i l hi => by simp at hi⟩, by simp, fun l hl => by simp at hl⟩
  · simp [Value.cells] at hcs
    obtain ⟨rfl, rfl, rfl⟩ := hcs
    rw [cellsBs] at hrd
    have key : ∀ i, i < len0 → ∃ l, ∃ lv, W.cell? (a.add i) = some lv ∧ Byts W lv l ∧ l.length ≤ maxLen := fun i hi => by
      have hx := hrd i hi
      rw [List.getElem?_eq_getElem (by omega : i < elems.length), Option.bind_eq_some_iff] at hx
      obtain ⟨cs, hcells, hd⟩ := hx
      obtain ⟨w0, l, rfl, h1, h2⟩ := bytes_cs hd
      obtain ⟨_, _, hcell⟩ := World.cells?_some hcells
      have hc0 := hcell 0 (by omega)
      rw [Nat.mul_one] at hc0
      exact ⟨l, w0, by simpa [Addr.add] using hc0, h1, h2⟩
    obtain ⟨ls, hl1, hl2⟩ := parts_list (W := W) key len0 (Nat.le_refl _)
    obtain ⟨b, off, spot⟩ := a
    refine ⟨ls, ⟨some ⟨b, off, spot⟩, cap0, by rw [hl1], by rw [hl1]; exact hlc, fun i l hi => ?_⟩, by rw [hl1]; omega, fun l hl => ?_⟩
    · obtain ⟨lv, h1, h2, _⟩ := hl2 i l hi
      obtain ⟨l0, hl0⟩ : ∃ x, ls[0]? = some x := ⟨_, List.getElem?_eq_getElem (by have := (List.getElem?_eq_some_iff.1 hi).1; omega)⟩
      obtain ⟨lv0, h10, _⟩ := hl2 0 l0 hl0
      have hspot : spot = none := by simpa [Addr.add] using World.cell?_spot h10
      subst hspot
      rw [add_plain] at h1
      exact ⟨b, off, lv, rfl, by have := cell_lt2 h1; simpa using this, h1, h2⟩
    · obtain ⟨i, hi⟩ := List.getElem?_of_mem hl
      obtain ⟨_, _, _, h3⟩ := hl2 i l hi
      exact h3
theorem cellsI : Tryd.prog.cellsOf 3 = 1 := by kernel_rfl
theorem cellsA3 : Tryd.prog.cellsOf 24 = 3 := by kernel_rfl
set_option maxRecDepth 100000 in
/-- Three numbers of the input. -/
theorem three_of {H : Type} {enc : TypeId × Value → H} {W : World} {v : Value} {d : DataW H} {p : List MemPlace} (h : DataW.Trod enc Tryd.prog W 0 (fun _ => true) true 24 v d p)
    {r : Reach} {base : Nat} (hv : Value.okWide Tryd.prog W r base 24 v) : ∃ a b c : Int, v = .agg #[.int .i64 a, .int .i64 b, .int .i64 c] := by
  have hv2 := hv
  simp only [Value.okWide, Tryd.underlying24] at hv2
  obtain ⟨cs, rfl, h2, _⟩ := hv2
  rw [cellsA3] at h2
  obtain ⟨c0, c1, c2, rfl⟩ : ∃ c0 c1 c2, cs = #[c0, c1, c2] := by
    have hl : cs.toList.length = 3 := by simpa using h2
    match hcs : cs.toList, hl with
    | [c0, c1, c2], _ => exact ⟨c0, c1, c2, by rw [← hcs]⟩
  · skip
    obtain ⟨fuel, hf⟩ := h
    obtain ⟨y0, y1, y2, n, -, h0, h1, h2⟩ := trod_array3 Tryd.underlying24 cellsI (show DataW.trod enc Tryd.prog W 0 _ true fuel 24 [c0, c1, c2] = _ from hf)
    obtain ⟨a, e0, -⟩ := DataW.trod_int Tryd.underlying3 h0
    obtain ⟨b, e1, -⟩ := DataW.trod_int Tryd.underlying3 h1
    obtain ⟨c, e2, -⟩ := DataW.trod_int Tryd.underlying3 h2
    simp only [List.cons.injEq, and_true] at e0 e1 e2
    subst e0 e1 e2
    exact ⟨a, b, c, rfl⟩
end Go.Proofs.YtcinagglbkbmkaaDoor
namespace Go.Proofs.YtcinagglbkbmkaaDoor
set_option linter.unusedSimpArgs false
set_option linter.unusedVariables false
open Go Go.RowKit
open Go.Maps Go.WideMaps

/-- What the library's variables hold. -/
structure SgEnv (B : Nat) (w : World) : Prop where
  tab : Lib.TabIs Tryd.prog w "internal/strconv.uint64pow10" .u64 Lib.pow10Tab
  rng : ∃ tp p, w.var? Tryd.prog "strconv.ErrRange" = some #[.iface tp p]
  syn : ∃ tp p, w.var? Tryd.prog "strconv.ErrSyntax" = some #[.iface tp p]
  low : 2 < B ∧ 1 < B ∧ 0 < B
theorem SgEnv.below {B : Nat} {w w' : World} (h : SgEnv B w) (hb : Below B w w') : SgEnv B w' := by
  obtain ⟨h1, ⟨a, b, h2⟩, ⟨c, d, h3⟩, l1, l2, l3⟩ := h
  exact ⟨var?_below hb (by kernel_rfl) l1 h1, ⟨a, b, var?_below hb (by kernel_rfl) l2 h2⟩, ⟨c, d, var?_below hb (by kernel_rfl) l3 h3⟩, l1, l2, l3⟩
theorem SgEnv.mono {B B' : Nat} {w : World} (h : SgEnv B w) (hb : B ≤ B') : SgEnv B' w := ⟨h.tab, h.rng, h.syn, Nat.lt_of_lt_of_le h.low.1 hb, Nat.lt_of_lt_of_le h.low.2.1 hb, Nat.lt_of_lt_of_le h.low.2.2 hb⟩

namespace Sg
def nameE (id : Int) : Int := if id < 1 ∨ 2147483647 < id then 1 else 0
/-- A segment's file's name. -/
def nameB (id : Int) : List UInt8 := if id < 1 ∨ 2147483647 < id then [] else [115, 101, 103, 45] ++ Lib.itoa id
theorem nameB_len (id : Int) : (nameB id).length ≤ 25 := by
  unfold nameB
  split
  · simp
  · have := Lib.itoa_length_le id (by omega) (by omega)
    simp
    omega
end Sg
theorem bytes_add (a b : List UInt8) : (⟨a.toArray⟩ : ByteArray) ++ (⟨b.toArray⟩ : ByteArray) = ⟨(a ++ b).toArray⟩ := by
  apply ByteArray.ext
  simp

set_option maxHeartbeats 1000000 in
set_option maxRecDepth 100000 in
theorem name_any (id : Int) (w : World) (B : Nat) (hE : SgEnv B w) :
    Calls Tryd.prog 12 #[.int .i64 id] w fun e w' => e = .returned (.tuple #[.string ⟨(Sg.nameB id).toArray⟩, .int .i64 (Sg.nameE id)]) ∧ Below w.heap.size w w' := by
  by_cases hid : id < 1 ∨ 2147483647 < id
  · have HB : Hid (Sg.nameB id = []) := by unfold Sg.nameB; rw [if_pos hid]; exact Lib.hid rfl
    have HE : Hid (Sg.nameE id = 1) := by unfold Sg.nameE; rw [if_pos hid]; exact Lib.hid rfl
    rcases hid with h | h
    · go_enter Tryd.func12, Tryd.ntmps12
      go_wp2_with fail
      refine bodyPost_ret (v := .tuple #[.string ⟨#[]⟩, .int .i64 1]) (by simp [results, Tryd.results12, go_sem]) rfl ?_
      exact ⟨by rw [HB.out, HE.out], Below.refl _ _⟩
    · have h2 : 1 ≤ id := by omega
      go_enter Tryd.func12, Tryd.ntmps12
      go_wp2_with fail
      refine bodyPost_ret (v := .tuple #[.string ⟨#[]⟩, .int .i64 1]) (by simp [results, Tryd.results12, go_sem]) rfl ?_
      exact ⟨by rw [HB.out, HE.out], Below.refl _ _⟩
  · have h1 : 1 ≤ id := by omega
    have h2 : id ≤ 2147483647 := by omega
    have HB : Hid (Sg.nameB id = [115, 101, 103, 45] ++ Lib.itoa id) := by unfold Sg.nameB; rw [if_neg hid]; exact Lib.hid rfl
    have HE : Hid (Sg.nameE id = 0) := by unfold Sg.nameE; rw [if_neg hid]; exact Lib.hid rfl
    have hlen := Lib.itoa_length_le id (by omega) (by omega)
    clear hid
    go_enter Tryd.func12, Tryd.ntmps12
    go_wp2_with fail
    refine (Tryd.strconv_Itoa id (by omega) (by omega) w hE.tab).mono ?_
    rintro e w1 ⟨rfl, k, os, hw1⟩
    have hb : Below w.heap.size w w1 := by rw [hw1]; exact Lib.below_grow w.heap.size w (Nat.le_refl _) k os
    have HBB := Lib.hid hb
    clear hw1
    obtain ⟨s, hs⟩ : ∃ s : ByteArray, s = ⟨(Lib.itoa id).toArray⟩ := ⟨_, rfl⟩
    have hsz : (s.size : Int) ≤ 21 := by
      rw [hs]
      show ((Lib.itoa id).toArray.size : Int) ≤ 21
      simp
      omega
    rw [← hs]
    have HS := Lib.hid hs
    clear hs hlen hb
    go_wp2_with fail
    refine bodyPost_ret (v := .tuple #[.string (⟨#[115, 101, 103, 45]⟩ ++ s), .int .i64 0]) (by simp [results, Tryd.results12, go_sem]) rfl ?_
    exact ⟨by rw [HB.out, HE.out, HS.out, ← bytes_add], HBB.out⟩
end Go.Proofs.YtcinagglbkbmkaaDoor
namespace Go.Proofs.YtcinagglbkbmkaaDoor
set_option linter.unusedSimpArgs false
set_option linter.unusedVariables false
open Go Go.RowKit
open Go.Maps Go.WideMaps

theorem convB {w : World} {a : Option Addr} {n c : Nat} {l : List UInt8} (h : Byts w (.slice a n c) l) :
    (convert 42 9 (.slice a n c)).run Tryd.prog w = .ok (.string ⟨l.toArray⟩) w := by
  have h' := h
  obtain ⟨a', c', e, h1, h2, _⟩ := h'
  simp only [Value.slice.injEq] at e
  obtain ⟨rfl, rfl, rfl⟩ := e
  cases a with
  | none =>
    have h0 : l = [] := List.length_eq_zero_iff.1 (by have := h2 rfl; omega)
    subst h0
    exact run_convert_bytes_nil w 42 5 Tryd.underlying42 Tryd.underlying5 0 c 9 Tryd.underlying9
  | some ad =>
    refine run_convert_bytes_back w 42 9 5 ad c l Tryd.underlying42 Tryd.underlying5 Tryd.underlying9 (fun j hj => ?_)
    obtain ⟨b, off, e1, e2, e3⟩ := h.at (List.getElem?_eq_getElem hj)
    cases e1
    rw [addrAdd]
    exact e3
end Go.Proofs.YtcinagglbkbmkaaDoor
namespace Go.Proofs.YtcinagglbkbmkaaDoor
set_option linter.unusedSimpArgs false
set_option linter.unusedVariables false
open Go Go.RowKit
open Go.Maps Go.WideMaps

namespace Sg
def seg : List UInt8 := [115, 101, 103, 45]
def isDig (c : UInt8) : Bool := decide (48 ≤ c.toNat) && decide (c.toNat ≤ 57)
def dval (l : List UInt8) : Nat := l.foldl (fun n c => n * 10 + (c.toNat - 48)) 0
/-- The document's answer. -/
def refId (l : List UInt8) : Int :=
  if l.length < 5 ∨ 14 < l.length ∨ l.take 4 ≠ seg then 0
  else if (l.drop 4).all isDig = false then 0
  else if nameE (dval (l.drop 4)) ≠ 0 ∨ nameB (dval (l.drop 4)) ≠ l then 0
  else dval (l.drop 4)
/-- The program's. -/
def idOf (l : List UInt8) : Int :=
  match Lib.atoiAll (Lib.trimPrefix l seg) with
  | .ok v => if Lib.hasPrefix l seg = true ∧ nameE v = 0 ∧ nameB v = l then v else 0
  | _ => 0
end Sg

end Go.Proofs.YtcinagglbkbmkaaDoor
