/-
  Frames: Encode, walked.
-/
import Derived.Test.YtcimobbppmpmgaaDoorFr4
namespace Go.Proofs.YtcimobbppmpmgaaDoor
set_option linter.unusedSimpArgs false
set_option linter.unusedVariables false
open Go Go.RowKit
open Go.Maps Go.WideMaps

namespace Fr
def inner (k : Int) (p : List UInt8) : List UInt8 := byte k :: p
/-- A frame's bytes. -/
def bytes (k : Int) (p : List UInt8) : List UInt8 := four p.length ++ (inner k p ++ four (sum (inner k p)))
def encE (k : Int) (p : List UInt8) : Int := if k < 1 ∨ 9 < k then 1 else if 8192 < p.length then 5 else 0
theorem four_len (n : Int) : (four n).length = 4 := rfl
theorem bytes_len (k : Int) (p : List UInt8) : (bytes k p).length = p.length + 9 := by
  unfold bytes inner
  simp [four_len]
  omega
end Fr

theorem OwnB.keep {w w' : World} {base : Nat} {v : Value} {l : List UInt8} (h : OwnB w base v l) (hb : Below w.heap.size w w') : OwnB w' base v l :=
  row_kept h (fun g hg => hb.block g (h.lt g hg).2)
theorem OwnB.form3 {w : World} {base : Nat} {v : Value} {l : List UInt8} (h : OwnB w base v l) : ∃ a n c, v = .slice a n c ∧ Hid (n = l.length) := by
  obtain ⟨a, c, e⟩ := row_any h
  exact ⟨a, _, c, e, Lib.hid rfl⟩
theorem prts_lit1 {w : World} {v : Value} {l : List UInt8} (t : TypeId) (h : Byts w v l) : Prts (w.alloc (.cells #[v] t)) (.slice (some ⟨w.heap.size, 0, none⟩) 1 1) [l] := by
  refine ⟨_, _, rfl, Nat.le_refl _, fun i x hi => ⟨w.heap.size, 0, v, rfl, by simp, ?_, ?_⟩⟩
  · have h0 : i = 0 := by have := (List.getElem?_eq_some_iff.1 hi).1; simpa using this
    subst h0
    exact cell_new w #[v] t 0 v rfl
  · have h0 : i = 0 := by have := (List.getElem?_eq_some_iff.1 hi).1; simpa using this
    subst h0
    simp at hi
    subst hi
    exact h.below ((Below.refl _ _).alloc (Nat.le_refl _) _)
theorem prts_lit3 {w : World} {v0 v1 v2 : Value} {l0 l1 l2 : List UInt8} (t : TypeId) (h0 : Byts w v0 l0) (h1 : Byts w v1 l1) (h2 : Byts w v2 l2) : Prts (w.alloc (.cells #[v0, v1, v2] t)) (.slice (some ⟨w.heap.size, 0, none⟩) 3 3) [l0, l1, l2] := by
  have hb : Below w.heap.size w (w.alloc (.cells #[v0, v1, v2] t)) := (Below.refl _ _).alloc (Nat.le_refl _) _
  refine ⟨_, _, rfl, Nat.le_refl _, fun i x hi => ?_⟩
  have hlt : i < 3 := by have := (List.getElem?_eq_some_iff.1 hi).1; simpa using this
  match i, hlt, hi with
  | 0, _, hi =>
    simp at hi; subst hi
    exact ⟨w.heap.size, 0, v0, rfl, by simp, cell_new w _ t 0 v0 rfl, h0.below hb⟩
  | 1, _, hi =>
    simp at hi; subst hi
    exact ⟨w.heap.size, 0, v1, rfl, by simp, cell_new w _ t 1 v1 rfl, h1.below hb⟩
  | 2, _, hi =>
    simp at hi; subst hi
    exact ⟨w.heap.size, 0, v2, rfl, by simp, cell_new w _ t 2 v2 rfl, h2.below hb⟩
  | n + 3, h, _ => omega

/-- What 'Encode' leaves. -/
def EncPost (k : Int) (p : List UInt8) (w : World) (e : Ending) (w' : World) : Prop :=
  Below w.heap.size w w' ∧ ((Fr.encE k p = 0 ∧ ∃ v, e = .returned (.tuple #[v, .int .i64 0]) ∧ OwnB w' w.heap.size v (Fr.bytes k p)) ∨
    (Fr.encE k p ≠ 0 ∧ e = .returned (.tuple #[.slice none 0 0, .int .i64 (Fr.encE k p)])))

set_option maxHeartbeats 1000000 in
set_option maxRecDepth 100000 in
theorem encode_any (k : Int) (v : Value) (ls : List (List UInt8)) (w : World) (hV : Prts w v ls) (hl : ls.length ≤ 1000000000) (hs : ∀ l ∈ ls, l.length ≤ 1000000000) :
    Calls Tryd.prog 25 #[.int .i64 k, v] w (EncPost k ls.flatten w) := by
  obtain ⟨va, vc, rfl⟩ := hV.form
  have HV := Lib.hid hV
  clear hV
  by_cases hk : k < 1 ∨ 9 < k
  · have HE : Hid (Fr.encE k ls.flatten = 1) := by unfold Fr.encE; rw [if_pos hk]; exact Lib.hid rfl
    rcases hk with h | h
    · go_enter Tryd.func25, Tryd.ntmps25
      go_wp2_with fail
      refine bodyPost_ret (v := .tuple #[.slice none 0 0, .int .i64 1]) (by simp [results, Tryd.results25, go_sem]) rfl ?_
      exact ⟨Below.refl _ _, .inr ⟨by rw [HE.out]; decide, by rw [HE.out]⟩⟩
    · have h2 : 1 ≤ k := by omega
      go_enter Tryd.func25, Tryd.ntmps25
      go_wp2_with fail
      refine bodyPost_ret (v := .tuple #[.slice none 0 0, .int .i64 1]) (by simp [results, Tryd.results25, go_sem]) rfl ?_
      exact ⟨Below.refl _ _, .inr ⟨by rw [HE.out]; decide, by rw [HE.out]⟩⟩
  · have hk1 : 1 ≤ k := by omega
    have hk2 : k ≤ 9 := by omega
    have HKK := Lib.hid hk
    clear hk
    go_enter Tryd.func25, Tryd.ntmps25
    go_wp2_with fail
    go_loopg [6, 18] ls.length (fun k s6 s18 wr => ∃ j : Nat, j ≤ ls.length ∧ k = ls.length - j ∧ s18 = .int .i64 (j : Nat) ∧ (∃ M : Nat, s6 = .int .i64 (M : Nat) ∧ M = (ls.take j).flatten.length ∧ M ≤ 8192) ∧ wr = w)
    case atStart => exact ⟨0, Nat.zero_le _, rfl, rfl, ⟨0, rfl, rfl, by omega⟩, rfl⟩
    case round =>
      obtain ⟨j, hj, hk, rfl, ⟨M, rfl, hM, hM2⟩, hwr⟩ := hrel
      subst wr
      have HK := Lib.hid hk
      have HM := Lib.hid hM
      clear hk hM
      have hj0 : (0 : Int) ≤ (j : Int) := Int.natCast_nonneg _
      have hM0 : (0 : Int) ≤ (M : Int) := Int.natCast_nonneg _
      by_cases hjn : j < ls.length
      · have hjn1 : (j : Int) < (ls.length : Int) := by omega
        obtain ⟨l, hlj⟩ : ∃ l, ls[j]? = some l := ⟨_, List.getElem?_eq_getElem hjn⟩
        have hll := hs l (List.mem_of_getElem? hlj)
        obtain ⟨g, o, lv, rfl, hg, hgc, hB⟩ := HV.out.at hlj
        obtain ⟨la, lc, rfl, _⟩ := hB.form
        have HFT : Hid ((ls.take (j + 1)).flatten.length = (ls.take j).flatten.length + l.length) := by rw [flat_take ls j l hlj, List.length_append]; exact Lib.hid rfl
        have hle : (ls.take (j + 1)).flatten.length ≤ ls.flatten.length := by
          have := congrArg (fun x : List (List UInt8) => x.flatten.length) (List.take_append_drop (j + 1) ls)
          simp only [List.flatten_append, List.length_append] at this
          omega
        have HLE := Lib.hid hle
        clear hle hlj
        by_cases hlong : 8192 < M + l.length
        · have h2 : 8192 - (M : Int) < (l.length : Int) := by omega
          have HE : Hid (Fr.encE k ls.flatten = 5) := by
            unfold Fr.encE
            have h1 := HM.out
            have h2 := HFT.out
            have h3 := HLE.out
            rw [if_neg HKK.out, if_pos (by omega)]
            exact Lib.hid rfl
          clear hlong
          go_wp2_with fail
          refine bodyPost_ret (v := .tuple #[.slice none 0 0, .int .i64 5]) (by simp [results, Tryd.results25, go_sem]) rfl ?_
          exact ⟨Below.refl _ _, .inr ⟨by rw [HE.out]; decide, by rw [HE.out]⟩⟩
        · have h2 : (l.length : Int) ≤ 8192 - (M : Int) := by omega
          have h3 : (M : Int) + (l.length : Int) ≤ 8192 := by omega
          go_wp2_with fail
          go_roundg (ls.length - (j + 1))
          case measure => rw [HK.out]; omega
          case rel => exact ⟨j + 1, by omega, rfl, by simp, ⟨M + l.length, by simp, by rw [HFT.out, HM.out], by omega⟩, rfl⟩
      · have hjn1 : (ls.length : Int) ≤ (j : Int) := by omega
        have HTK : Hid (ls.take j = ls) := Lib.hid (List.take_of_length_le (by omega))
        have HML : Hid (M = ls.flatten.length) := by rw [← HTK.out]; exact HM
        have HE : Hid (Fr.encE k ls.flatten = 0) := by
          unfold Fr.encE
          have h1 := HML.out
          rw [if_neg HKK.out, if_neg (by omega)]
          exact Lib.hid rfl
        have hbA : Below w.heap.size w (w.alloc (.cells #[.int .u8 k] 5)) := (Below.refl _ _).alloc (Nat.le_refl _) _
        have hOA : OwnB (w.alloc (.cells #[.int .u8 k] 5)) w.heap.size (.slice (some ⟨w.heap.size, 0, none⟩) 1 1) [Fr.byte k] := by
          have h := World.ownsRow_lit (base := w.heap.size) (e := 5) (size := 1) w #[.int .u8 k] 1 (Nat.le_refl _) (by unfold maxLen; omega) rfl
          have hc : u8Cells [Fr.byte k] = [.int .u8 k] := by
            have := Fr.byte_val k
            simp [u8Cells, this]
            omega
          unfold OwnB
          rw [hc]
          exact h
        have HOA := Lib.hid hOA
        have hfl : ls.flatten.length ≤ 1000000000 := by have := HML.out; omega
        have HFL := Lib.hid hfl
        clear hOA hfl
        go_wp2_with fail
        refine (concat_any _ ls _ (HV.out.below hbA) hl HFL.out).mono ?_
        rintro e w1 ⟨v1, rfl, ho1, hb1⟩
        have HO1 := Lib.hid ho1
        have HOA1 := Lib.hid (HOA.out.keep hb1)
        have hb01 := hbA.trans (hb1.mono hbA.size)
        have HB01 := Lib.hid hb01
        have hs1 := hb01.size
        have HS : Hid ([Fr.byte k].length + ls.flatten.length ≤ 1000000000) := Lib.hid (by have := HML.out; simp only [List.length_singleton]; omega)
        clear ho1 hb01
        go_wp2_with (first | (at_builtin; refine wpList_append_byts rfl _ _ rfl w.heap.size (.slice (some ⟨w.heap.size, 0, none⟩) 1 1) _ rfl HOA1.out v1 ls.flatten rfl HO1.out.byts HS.out hs1 ?_; intro d' w5 hown5 hgrow5 hloc5; have HOWN := Lib.hid hown5; have HGR := Lib.hid hgrow5; clear hown5 hgrow5 hloc5) | fail)
        obtain ⟨da', dn', dc', hd', HN5⟩ := OwnB.form3 HOWN.out
        subst hd'
        have HB05 := Lib.hid (below_grown HB01.out hs1 HOA1.out HGR.out)
        have HI5 : Hid (OwnB w5 w.heap.size (.slice da' dn' dc') (Fr.inner k ls.flatten)) := HOWN
        have hs5 := HB05.out.size
        refine (four_any M w5).mono ?_
        rintro e w6 ⟨v2, rfl, ho2, hb2⟩
        obtain ⟨da2, dn2, dc2, hd2, HN2⟩ := OwnB.form3 ho2
        subst hd2
        have HO2 := Lib.hid ho2
        have HI6 := Lib.hid (HI5.out.keep hb2)
        have HB06 := Lib.hid (HB05.out.trans (hb2.mono hs5))
        have hs6 := HB06.out.size
        have HB2 := Lib.hid hb2
        clear ho2 hb2
        have hbB : Below w6.heap.size w6 (w6.alloc (.cells #[.slice da' dn' dc'] 32)) := (Below.refl _ _).alloc (Nat.le_refl _) _
        have HPB := Lib.hid (prts_lit1 32 HI6.out.byts)
        have hil : (Fr.inner k ls.flatten).length ≤ 1000000000 := by
          have := HML.out
          unfold Fr.inner
          simp only [List.length_cons]
          omega
        have HIL := Lib.hid hil
        clear hil
        go_wp2_with fail
        refine (sum_any _ [Fr.inner k ls.flatten] _ HPB.out (by simp) (by simpa using HIL.out)).mono ?_
        rintro e w7 ⟨rfl, hb7⟩
        have hb67 := hbB.trans (hb7.mono hbB.size)
        have HB67 := Lib.hid hb67
        have hs67 := hb67.size
        clear hb67 hbB hb7
        go_wp2_with fail
        refine (four_any _ w7).mono ?_
        rintro e w8 ⟨v3, rfl, ho3, hb8⟩
        obtain ⟨da3, dn3, dc3, hd3, HN3⟩ := OwnB.form3 ho3
        subst hd3
        have HO3 := Lib.hid ho3
        have HB68 := Lib.hid (HB67.out.trans (hb8.mono hs67))
        have HP8 := Lib.hid (prts_lit3 32 (HO2.out.keep HB68.out).byts (HI6.out.keep HB68.out).byts ho3.byts)
        have hs68 := HB68.out.size
        have hb89 : Below w8.heap.size w8 (w8.alloc (.cells #[.slice da2 dn2 dc2, .slice da' dn' dc', .slice da3 dn3 dc3] 32)) := (Below.refl _ _).alloc (Nat.le_refl _) _
        have HB89 := Lib.hid (HB68.out.trans (hb89.mono hs68))
        clear ho3 hb8 hb89
        have hfin : [Fr.four M, Fr.inner k ls.flatten, Fr.four (Fr.sum (Fr.inner k ls.flatten))].flatten = Fr.bytes k ls.flatten := by
          rw [HML.out]
          simp [Fr.bytes]
        have HFIN := Lib.hid hfin
        have hlen : (Fr.bytes k ls.flatten).length ≤ 1000000000 := by
          have := HML.out
          rw [Fr.bytes_len]
          omega
        have HLEN := Lib.hid hlen
        clear hlen hfin
        go_wp2_with fail
        refine (concat_any _ [Fr.four M, Fr.inner k ls.flatten, Fr.four (Fr.sum (Fr.inner k ls.flatten))] _ HP8.out (by simp) (by rw [HFIN.out]; exact HLEN.out)).mono ?_
        rintro e w9 ⟨v4, rfl, ho4, hb9⟩
        rw [HFIN.out] at ho4
        have HO4 := Lib.hid ho4
        clear ho4
        go_wp2_with fail
        refine bodyPost_ret (v := .tuple #[v4, .int .i64 0]) (by simp [results, Tryd.results25, go_sem]) rfl ?_
        refine ⟨?_, .inl ⟨HE.out, v4, rfl, HO4.out.mono (by simp; omega)⟩⟩
        have h1 := HB89.out
        have h2 := h1.trans (hb9.mono h1.size)
        exact HB06.out.trans (h2.mono hs6)
end Go.Proofs.YtcimobbppmpmgaaDoor
