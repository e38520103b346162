/-
  Frames: Decode, walked.
-/
import Derived.Test.YtcimobbppmpmgaaDoorFr5
import Derived.Test.YtcimobbppmpmgaaDoorLater
import Derived.Deep.RegionHeld3
namespace Go.Proofs.YtcimobbppmpmgaaDoor
set_option linter.unusedSimpArgs false
set_option linter.unusedVariables false
open Go Go.RowKit
open Go.Maps Go.WideMaps

namespace Fr
def pay (l : List UInt8) : List UInt8 := (l.drop 5).take (l.length - 9)
def body (l : List UInt8) : List UInt8 := (l.drop 4).take (l.length - 8)
def kind (l : List UInt8) : Int := ((l.getD 4 0).toNat : Int)
/-- What Decode tells. -/
def decE (l : List UInt8) : Int :=
  if l.length < 9 ∨ 8192 < l.length - 9 ∨ num l ≠ l.length - 9 then 2
  else if kind l < 1 ∨ 9 < kind l then 1
  else if sum (body l) ≠ num (l.drop (l.length - 4)) then 6
  else 0
end Fr
/-- A part of bytes. -/
theorem Byts.part {w : World} {g o n cap : Nat} {l : List UInt8} (h : Byts w (.slice (some ⟨g, o, none⟩) n cap) l) (lo hi cap2 : Nat) (hlo : lo ≤ hi) (hhi : hi ≤ l.length) (hc : hi - lo ≤ cap2) (a : Option Addr) (ha : a = some ⟨g, o + lo, none⟩ ∨ (hi = lo ∧ a ≠ none)) :
    Byts w (.slice a (hi - lo) cap2) ((l.drop lo).take (hi - lo)) := by
  have hlen : ((l.drop lo).take (hi - lo)).length = hi - lo := by simp; omega
  refine ⟨a, cap2, by rw [hlen], by rw [hlen]; exact hc, fun e => ?_, fun i x hx => ?_⟩
  · rcases ha with ha | ha
    · rw [ha] at e; cases e
    · exact absurd e ha.2
  · have hi2 : i < hi - lo := by have := (List.getElem?_eq_some_iff.1 hx).1; omega
    rw [List.getElem?_take, if_pos hi2, List.getElem?_drop] at hx
    obtain ⟨b, off, e1, e2, e3⟩ := h.at hx
    cases e1
    rcases ha with ha | ha
    · exact ⟨g, o + lo, ha, e2, by rw [Nat.add_assoc]; exact e3⟩
    · omega
/-- What 'Decode' leaves. -/
def DecPost (l : List UInt8) (w : World) (e : Ending) (w' : World) : Prop :=
  Below w.heap.size w w' ∧ ((Fr.decE l = 0 ∧ ∃ v, e = .returned (.tuple #[.agg #[.int .i64 (Fr.kind l), v], .int .i64 0]) ∧ OwnB w' w.heap.size v (Fr.pay l)) ∨
    (Fr.decE l ≠ 0 ∧ e = .returned (.tuple #[.agg #[.int .i64 0, .slice none 0 0], .int .i64 (Fr.decE l)])))

theorem cloneB2 (g o n c : Nat) (l : List UInt8) (w : World) (h : Byts w (.slice (some ⟨g, o, none⟩) n c) l) (hn : n = l.length) (hl : l.length ≤ 1000000000) :
    Calls Tryd.prog 37 #[.slice (some ⟨g, o, none⟩) n c] w fun e w' => ∃ v', e = .returned v' ∧ OwnB w' w.heap.size v' l ∧ Below w.heap.size w w' := by
  subst hn
  obtain ⟨i0, hi, hz0, hz1, hz2⟩ := info_parts infoB
  refine (AnyE.slices_Clone cloneB_lays i0 (.int .u8 0) 1 1 hi hz0 hz1 hz2 rfl (by decide) (fun w => Tryd.sizeOf5 w) g o l.length c (u8Cells l) w (by rw [u8Cells_len]; omega) (by unfold maxLen; omega) (by omega) ?_ (u8Cells_one l)).mono ?_
  · intro j u hj
    unfold u8Cells at hj
    rw [List.getElem?_map] at hj
    cases hx : l[j]? with
    | none => rw [hx] at hj; cases hj
    | some y =>
      rw [hx] at hj
      simp at hj
      obtain ⟨b, off, e1, e2, e3⟩ := h.at hx
      cases e1
      rw [← hj]
      exact e3
  · rintro e w' ⟨v', rfl, h3, _, h4⟩
    exact ⟨v', rfl, h3, h4⟩
theorem keepB {w w' : World} (h : Below w.heap.size w w') (o : Obj) : Below w.heap.size w (w'.alloc o) := h.alloc h.size o
set_option maxHeartbeats 1000000 in
set_option maxRecDepth 100000 in
theorem decode_any (v : Value) (l : List UInt8) (w : World) (hV : Byts w v l) (hl : l.length ≤ 1000000000) :
    Calls Tryd.prog 48 #[v] w (DecPost l w) := by
  obtain ⟨va, vc, rfl, hvc⟩ := hV.form
  have hl0 : (0 : Int) ≤ (l.length : Int) := Int.natCast_nonneg _
  have hlB : (l.length : Int) ≤ 1000000000 := by omega
  by_cases h9 : l.length < 9
  · have HE : Hid (Fr.decE l = 2) := by unfold Fr.decE; rw [if_pos (.inl h9)]; exact Lib.hid rfl
    have h1 : (l.length : Int) - 9 < 0 := by omega
    clear hvc hV
    go_enter Tryd.func48, Tryd.ntmps48
    go_wp2_with fail
    refine bodyPost_ret (v := .tuple #[.agg #[.int .i64 0, .slice none 0 0], .int .i64 2]) (by simp [results, Tryd.results48, go_sem]) rfl ?_
    exact ⟨(Below.refl _ _).alloc (Nat.le_refl _) _, .inr ⟨by rw [HE.out]; decide, by rw [HE.out]⟩⟩
  · obtain ⟨m, hm⟩ : ∃ m, l.length = m + 9 := ⟨l.length - 9, by omega⟩
    have hm0 : (0 : Int) ≤ (m : Int) := Int.natCast_nonneg _
    have hmB : (m : Int) ≤ 1000000000 := by omega
    have HM := Lib.hid hm
    rw [hm] at hV hvc ⊢
    clear h9 hl0 hlB hm
    by_cases hbig : 8192 < m
    · have HE : Hid (Fr.decE l = 2) := by
        unfold Fr.decE
        have := HM.out
        rw [if_pos (.inr (.inl (by omega)))]
        exact Lib.hid rfl
      have h2 : 8192 < (m : Int) := by omega
      clear hvc hV
      go_enter Tryd.func48, Tryd.ntmps48
      go_wp2_with fail
      refine bodyPost_ret (v := .tuple #[.agg #[.int .i64 0, .slice none 0 0], .int .i64 2]) (by simp [results, Tryd.results48, go_sem]) rfl ?_
      exact ⟨(Below.refl _ _).alloc (Nat.le_refl _) _, .inr ⟨by rw [HE.out]; decide, by rw [HE.out]⟩⟩
    · have h2 : (m : Int) ≤ 8192 := by omega
      have h3 : (m : Int) % 4294967296 = (m : Int) := by omega
      have HV := Lib.hid (hV.below ((Below.refl w.heap.size w).alloc (Nat.le_refl _) (.cells #[.int .i64 0, .slice none 0 0] 43)))
      have HVC := Lib.hid hvc
      clear hvc hV hbig
      go_enter Tryd.func48, Tryd.ntmps48
      go_wp2_with fail
      refine (number_any _ l _ HV.out (by have := HM.out; omega) (by have := HM.out; omega)).mono ?_
      rintro e w1 ⟨rfl, n1, rfl⟩
      have hr := heap_new w (.cells #[.int .i64 0, .slice none 0 0] 43)
      have hr1 : ((w.alloc (.cells #[.int .i64 0, .slice none 0 0] 43)).drewN n1).heap[w.heap.size]? = some (.cells #[.int .i64 0, .slice none 0 0] 43 (0, 0)) := hr
      have hb1 : Below w.heap.size w ((w.alloc (.cells #[.int .i64 0, .slice none 0 0] 43)).drewN n1) := Below.drewN ((Below.refl _ _).alloc (Nat.le_refl _) _) n1
      have hV1 : Byts ((w.alloc (.cells #[.int .i64 0, .slice none 0 0] 43)).drewN n1) (.slice va (m + 9) vc) l := HV.out.keep (Nat.le_refl _) (fun _ _ => rfl)
      generalize ((w.alloc (.cells #[.int .i64 0, .slice none 0 0] 43)).drewN n1) = w1 at hr1 hb1 hV1 ⊢
      obtain ⟨x4, hx4⟩ : ∃ x, l[4]? = some x := ⟨_, List.getElem?_eq_getElem (by have := HM.out; omega)⟩
      obtain ⟨g, o, rfl, hg, hc4⟩ := hV1.at hx4
      have HK : Hid (Fr.kind l = (x4.toNat : Int)) := by
        unfold Fr.kind
        rw [List.getD_eq_getElem?_getD, hx4]
        exact Lib.hid rfl
      have HV1 := Lib.hid hV1
      have HR1 := Lib.hid hr1
      have y0 : w1.cell? ⟨w.heap.size, 0, none⟩ = some (.int .i64 0) := root_cell hr1 0 _ rfl
      have y1 : w1.cell? ⟨w.heap.size, 1, none⟩ = some (.slice none 0 0) := root_cell hr1 1 _ rfl
      have f0 := root_frozen hr1 0
      have f1 := root_frozen hr1 1
      clear hr hr1 hV1 hx4 HV
      by_cases hnum : (Fr.num l : Int) = (m : Int)
      · have ht : ((Fr.num l : Int) != (m : Int)) = false := by rw [hnum]; simp
        have ht2 : (Fr.num l != m) = false := by rw [Int.ofNat_inj.1 hnum]; simp
        have HNUM := Lib.hid hnum
        clear hnum
        have hx0 : (0 : Int) ≤ (x4.toNat : Int) := Int.natCast_nonneg _
        have hx5 : (x4.toNat : Int) ≤ 255 := by have : x4.toNat < 256 := UInt8.toNat_lt _; omega
        by_cases hkind : (x4.toNat : Int) < 1 ∨ 9 < (x4.toNat : Int)
        · have HE : Hid (Fr.decE l = 1) := by
            unfold Fr.decE
            have e1 := HNUM.out
            have e2 := HM.out
            rw [HK.out, if_neg (by omega), if_pos hkind]
            exact Lib.hid rfl
          rcases hkind with hk | hk
          · go_wp2_with fail
            refine bodyPost_ret (v := .tuple #[.agg #[.int .i64 0, .slice none 0 0], .int .i64 1]) (by simp [results, Tryd.results48, go_sem, y0, y1, f0, f1]) rfl ?_
            exact ⟨(hb1.setCell (p := ⟨w.heap.size, 0, none⟩) (Nat.le_refl _) _).setCell (p := ⟨w.heap.size, 1, none⟩) (Nat.le_refl _) _, .inr ⟨by rw [HE.out]; decide, by rw [HE.out]⟩⟩
          · have hk2 : (1 : Int) ≤ (x4.toNat : Int) := by omega
            go_wp2_with fail
            refine bodyPost_ret (v := .tuple #[.agg #[.int .i64 0, .slice none 0 0], .int .i64 1]) (by simp [results, Tryd.results48, go_sem, y0, y1, f0, f1]) rfl ?_
            exact ⟨(hb1.setCell (p := ⟨w.heap.size, 0, none⟩) (Nat.le_refl _) _).setCell (p := ⟨w.heap.size, 1, none⟩) (Nat.le_refl _) _, .inr ⟨by rw [HE.out]; decide, by rw [HE.out]⟩⟩
        · have hk1 : 1 ≤ (x4.toNat : Int) := by omega
          have hk2 : (x4.toNat : Int) ≤ 9 := by omega
          have HKK := Lib.hid hkind
          clear hkind
          go_wp2_with fail
          have hvc := HVC.out
          have hz1 : (5 : Int) + (m : Int) ≤ (vc : Int) := by omega
          have hz2 : (0 : Int) ≤ (5 : Int) + (m : Int) := by omega
          have hz3 : (4 : Int) ≤ (5 : Int) + (m : Int) := by omega
          have hz4 : ((5 : Int) + (m : Int)).toNat = 5 + m := by omega
          have hz5 : vc ≠ 4 := by omega
          have hz6 : vc ≠ 5 + m := by omega
          have hz7 : (5 : Int) + (m : Int) ≤ (m : Int) + 9 := by omega
          have hz0 : IntKind.i64.wrap ((5 : Int) + (m : Int)) = 5 + (m : Int) := by rw [IntKind.wrap_i64]; omega
          have hz8 : (4 : Int).toNat = 4 := rfl
          clear hvc
          have hS : Below w1.heap.size w1 w1.drew := ⟨rfl, rfl, rfl, Nat.le_refl _, fun _ _ => rfl⟩
          have HBODY : Hid ((l.drop 4).take (5 + m - 4) = Fr.body l) := by
            unfold Fr.body
            have := HM.out
            rw [show l.length - 8 = 5 + m - 4 by omega]
            exact Lib.hid rfl
          have HTAIL : Hid ((l.drop (5 + m)).take (m + 9 - (5 + m)) = l.drop (l.length - 4)) := by
            have := HM.out
            rw [List.take_of_length_le (by rw [List.length_drop]; omega), show l.length - 4 = 5 + m by omega]
            exact Lib.hid rfl
          have hp1 : Byts w1 (.slice (some ⟨g, o + 4, none⟩) (5 + m - 4) (vc - 4)) (Fr.body l) := by
            rw [← HBODY.out]
            exact HV1.out.part 4 (5 + m) (vc - 4) (by omega) (by have := HM.out; omega) (by omega) _ (.inl rfl)
          have HP2 : Hid (Byts w1 (.slice (some ⟨g, o + (5 + m), none⟩) (m + 9 - (5 + m)) (vc - (5 + m))) (l.drop (l.length - 4))) := by
            rw [← HTAIL.out]
            exact Lib.hid (HV1.out.part (5 + m) (m + 9) (vc - (5 + m)) (by omega) (by have := HM.out; omega) (by have := HVC.out; omega) _ (.inl rfl))
          have HPB : Hid (Prts (w1.alloc (.cells #[.slice (some ⟨g, o + 4, none⟩) (5 + m - 4) (vc - 4)] 32)).drew (.slice (some ⟨w1.heap.size, 0, none⟩) 1 1) [Fr.body l]) :=
            Lib.hid ((prts_lit1 32 hp1).keep (Nat.le_refl _) (fun _ _ => rfl))
          have HP1 := Lib.hid hp1
          have HBL : Hid (∀ q ∈ [Fr.body l], q.length ≤ 1000000000) := by
            refine Lib.hid fun q hq => ?_
            simp at hq
            subst hq
            unfold Fr.body
            simp
            omega
          have HBA : Hid (Below w1.heap.size w1 (w1.alloc (.cells #[.slice (some ⟨g, o + 4, none⟩) (5 + m - 4) (vc - 4)] 32)).drew) :=
            Lib.hid (((Below.refl _ _).alloc (Nat.le_refl _) _).trans ⟨rfl, rfl, rfl, Nat.le_refl _, fun _ _ => rfl⟩)
          have HLT : Hid (4 ≤ (l.drop (l.length - 4)).length ∧ (l.drop (l.length - 4)).length ≤ 1000000000) := by
            have := HM.out
            refine Lib.hid ?_
            simp
            omega
          clear hp1
          go_region_held3 (fun w' => Below w1.heap.size w1 w') (first | assumption | exact keepB (by assumption) _)
            (first
              | (go_at_call 46; refine (sum_any _ [Fr.body l] _ HPB.out (by simp) HBL.out).mono ?_; rintro e w2 ⟨rfl, hb2⟩; have hS2 := HBA.out.trans (hb2.mono HBA.out.size); clear hb2)
              | (go_at_call 47; refine (number_any _ (l.drop (l.length - 4)) _ (HP2.out.below (by assumption)) HLT.out.1 HLT.out.2).mono ?_; rintro e w3 ⟨rfl, n3, rfl⟩; have hS3 := Below.drewN hS2 n3))
          have hr4 : (w2.drewN n3).heap[w.heap.size]? = some (.cells #[.int .i64 0, .slice none 0 0] 43 (0, 0)) := by
            rw [hS3.block _ (heap_lt HR1.out)]
            exact HR1.out
          have hb4 : Below w.heap.size w (w2.drewN n3) := hb1.trans (hS3.mono hb1.size)
          have HS4 := Lib.hid hS3
          clear y0 y1 f0 f1 hc4 ht ht2 h3
          generalize w2.drewN n3 = w4 at hr4 hb4 HS4 ⊢
          have HR4 := Lib.hid hr4
          have y0 : w4.cell? ⟨w.heap.size, 0, none⟩ = some (.int .i64 0) := root_cell hr4 0 _ rfl
          have y1 : w4.cell? ⟨w.heap.size, 1, none⟩ = some (.slice none 0 0) := root_cell hr4 1 _ rfl
          have f0 := root_frozen hr4 0
          have f1 := root_frozen hr4 1
          have hb1 := hb4
          clear hr4
          by_cases hsum : Fr.sum (Fr.body l) = Fr.num (l.drop (l.length - 4))
          · have ht : (Fr.sum (Fr.body l) != (Fr.num (l.drop (l.length - 4)) : Int)) = false := by rw [hsum]; simp
            have HE : Hid (Fr.decE l = 0) := by
              unfold Fr.decE
              have e1 := HNUM.out
              have e2 := HM.out
              rw [HK.out, if_neg (by omega), if_neg HKK.out, if_neg (by simp [hsum])]
              exact Lib.hid rfl
            clear hsum
            have HPAY : Hid (Fr.pay l = (l.drop 5).take (5 + m - 5)) := by
              unfold Fr.pay
              have := HM.out
              rw [show l.length - 9 = 5 + m - 5 by omega]
              exact Lib.hid rfl
            have HP5 : Hid (Byts w4 (.slice (some ⟨g, o + 5, none⟩) m (vc - 5)) (Fr.pay l)) := by
              rw [HPAY.out]
              have e5 : 5 + m - 5 = m := by omega
              have hq := (HV1.out.part 5 (5 + m) (vc - 5) (by omega) (by have := HM.out; omega) (by omega) (some ⟨g, o + 5, none⟩) (.inl rfl)).below HS4.out
              rw [e5] at hq ⊢
              exact Lib.hid hq
            have HPL : Hid ((Fr.pay l).length = m) := by
              have := HM.out
              unfold Fr.pay
              rw [List.length_take, List.length_drop]
              exact Lib.hid (by omega)
            have hz9 : vc ≠ 5 := by have := HVC.out; omega
            have hz10 : (5 : Int) ≤ 5 + (m : Int) := by omega
            have hz11 : (5 : Int).toNat = 5 := rfl
            go_wp2_with fail
            refine (cloneB2 g (o + 5) m (vc - 5) (Fr.pay l) w4 HP5.out HPL.out.symm (by have := HPL.out; omega)).mono ?_
            rintro e w5 ⟨v5, rfl, ho5, hb5⟩
            obtain ⟨da5, dn5, dc5, hd5, HN5⟩ := OwnB.form3 ho5
            subst hd5
            have HO5 := Lib.hid ho5
            have hr5 : w5.heap[w.heap.size]? = some (.cells #[.int .i64 0, .slice none 0 0] 43 (0, 0)) := by
              rw [hb5.block _ (heap_lt HR4.out)]
              exact HR4.out
            have hb05 : Below w.heap.size w w5 := hb4.trans (hb5.mono hb4.size)
            have z0 : w5.cell? ⟨w.heap.size, 0, none⟩ = some (.int .i64 0) := root_cell hr5 0 _ rfl
            have z1 : w5.cell? ⟨w.heap.size, 1, none⟩ = some (.slice none 0 0) := root_cell hr5 1 _ rfl
            have g0 := root_frozen hr5 0
            have g1 := root_frozen hr5 1
            have hlt5 : w.heap.size < w4.heap.size := heap_lt HR4.out
            clear hr5 ho5 y0 y1 f0 f1
            go_wp2_with fail
            refine bodyPost_ret (v := .tuple #[.agg #[.int .i64 x4.toNat, .slice da5 dn5 dc5], .int .i64 0]) (by simp [results, Tryd.results48, go_sem, z0, z1, g0, g1]) rfl ?_
            refine ⟨(hb05.setCell (p := ⟨w.heap.size, 0, none⟩) (Nat.le_refl _) _).setCell (p := ⟨w.heap.size, 1, none⟩) (Nat.le_refl _) _, .inl ⟨HE.out, .slice da5 dn5 dc5, by rw [HK.out], ?_⟩⟩
            refine row_kept (HO5.out.mono (Nat.le_of_lt hlt5)) (fun g hg => ?_)
            have := (HO5.out.lt g hg).1
            rw [Below.heap_setCell _ _ _ _ (by show g ≠ w.heap.size; omega), Below.heap_setCell _ _ _ _ (by show g ≠ w.heap.size; omega)]
          · have ht : (Fr.sum (Fr.body l) != (Fr.num (l.drop (l.length - 4)) : Int)) = true := by rw [bne_iff_ne]; exact hsum
            have HE : Hid (Fr.decE l = 6) := by
              unfold Fr.decE
              have e1 := HNUM.out
              have e2 := HM.out
              rw [HK.out, if_neg (by omega), if_neg HKK.out, if_pos hsum]
              exact Lib.hid rfl
            clear hsum
            go_wp2_with fail
            refine bodyPost_ret (v := .tuple #[.agg #[.int .i64 0, .slice none 0 0], .int .i64 6]) (by simp [results, Tryd.results48, go_sem, y0, y1, f0, f1]) rfl ?_
            exact ⟨(hb1.setCell (p := ⟨w.heap.size, 0, none⟩) (Nat.le_refl _) _).setCell (p := ⟨w.heap.size, 1, none⟩) (Nat.le_refl _) _, .inr ⟨by rw [HE.out]; decide, by rw [HE.out]⟩⟩
      · have ht : ((Fr.num l : Int) != (m : Int)) = true := by rw [bne_iff_ne]; exact hnum
        have ht2 : (Fr.num l != m) = true := by rw [bne_iff_ne]; omega
        have HE : Hid (Fr.decE l = 2) := by
          unfold Fr.decE
          have := HM.out
          rw [if_pos (.inr (.inr (by omega)))]
          exact Lib.hid rfl
        clear hnum
        go_wp2_with fail
        refine bodyPost_ret (v := .tuple #[.agg #[.int .i64 0, .slice none 0 0], .int .i64 2]) (by simp [results, Tryd.results48, go_sem, y0, y1, f0, f1]) rfl ?_
        exact ⟨(hb1.setCell (p := ⟨w.heap.size, 0, none⟩) (Nat.le_refl _) _).setCell (p := ⟨w.heap.size, 1, none⟩) (Nat.le_refl _) _, .inr ⟨by rw [HE.out]; decide, by rw [HE.out]⟩⟩
end Go.Proofs.YtcimobbppmpmgaaDoor
