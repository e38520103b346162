/-
  The document's manifests: Good, Encode, walked. Saving and loading a manifest (plain); in calm weather. A crash: what is left (plain). What any operation of the file system keeps, in any weather (plain). Saving a manifest, in any weather, and a crash behind it (plain).
-/
import Derived.Test.YtcinagglbkbmkaaGreatDoorZb8
import Derived.Test.YtcinagglbkbmkaaGreatDoorZb9
namespace Go.Proofs.YtcinagglbkbmkaaGreatDoor
set_option linter.unusedSimpArgs false
set_option linter.unusedVariables false
open Go Go.RowKit
open Go.Maps Go.WideMaps

set_option maxHeartbeats 1000000 in
set_option maxRecDepth 100000 in
theorem rgood_any (ver : Int) (sv : Value) (l : List Int) (w : World) (hS : Nums w sv l) (hl : l.length ≤ 9223372036854775807) :
    Calls Tryz.prog 15 #[.agg #[.int .i64 ver, sv]] w fun e w' => e = .returned (.bool (Mf.good ver l)) ∧ Below w.heap.size w w' := by
  obtain ⟨sa, sc, rfl⟩ := hS.form
  have hb : Below w.heap.size w (w.alloc (.cells #[.int .i64 ver, .slice sa l.length sc] 31)) := (Below.refl _ _).alloc (Nat.le_refl _) _
  have HS := Lib.hid (hS.below hb)
  have hr := heap_new w (.cells #[.int .i64 ver, .slice sa l.length sc] 31)
  have y0 := root_cell hr 0 _ rfl
  have y1 := root_cell hr 1 _ rfl
  have HB := Lib.hid hb
  have hl0 : (0 : Int) ≤ (l.length : Int) := Int.natCast_nonneg _
  clear hS hr hb
  go_enter Tryz.func15, Tryz.ntmps15
  by_cases h1 : ver < 1
  · skip
    have HE : Hid (Mf.good ver l = false) := Lib.hid (Mf.good_bad (by omega))
    go_wp2_with fail
    go_ret
    exact ⟨congrArg (fun x => Ending.returned (.bool x)) HE.out.symm, (Below.refl _ _).alloc (Nat.le_refl _) _⟩
  have h1' : 1 ≤ ver := by omega
  by_cases h2 : 2147483647 < ver
  · skip
    have HE : Hid (Mf.good ver l = false) := Lib.hid (Mf.good_bad (by omega))
    go_wp2_with fail
    go_ret
    exact ⟨congrArg (fun x => Ending.returned (.bool x)) HE.out.symm, (Below.refl _ _).alloc (Nat.le_refl _) _⟩
  have h2' : ver ≤ 2147483647 := by omega
  by_cases h3 : l.length < 1
  · have h3i : (l.length : Int) < 1 := by omega
    have HE : Hid (Mf.good ver l = false) := Lib.hid (Mf.good_bad (by omega))
    go_wp2_with fail
    go_ret
    exact ⟨congrArg (fun x => Ending.returned (.bool x)) HE.out.symm, (Below.refl _ _).alloc (Nat.le_refl _) _⟩
  have h3' : (1 : Int) ≤ (l.length : Int) := by omega
  by_cases h4 : 32 < l.length
  · have h4i : (32 : Int) < (l.length : Int) := by omega
    have HE : Hid (Mf.good ver l = false) := Lib.hid (Mf.good_bad (by omega))
    go_wp2_with fail
    go_ret
    exact ⟨congrArg (fun x => Ending.returned (.bool x)) HE.out.symm, (Below.refl _ _).alloc (Nat.le_refl _) _⟩
  have h4' : (l.length : Int) ≤ 32 := by omega
  have HG : Hid (Mf.good ver l = Mf.incr 0 l) := Lib.hid (Mf.good_incr h1' h2' (by omega) (by omega))
  clear h1 h2 h3 h4
  go_wp2_with fail
  go_loopg [3, 27] l.length (fun k s3 s27 wr => ∃ (j : Nat) (last : Int) (nd : Nat), j ≤ l.length ∧ k = l.length - j ∧ s27 = .int .i64 (j : Nat) ∧ Mf.incr last (l.drop j) = Mf.incr 0 l ∧ (0 < j → l[j - 1]? = some last) ∧ (0 ≤ last ∧ (j = 0 → last = 0)) ∧ wr = (w.alloc (.cells #[.int .i64 ver, .slice sa l.length sc] 31)).drewN nd)
  case atStart => exact ⟨0, 0, 0, Nat.zero_le _, rfl, rfl, rfl, fun h => by omega, by omega, rfl⟩
  case round =>
    obtain ⟨j, last, nd, hj, hk, rfl, hin, hlast, hl0', rfl⟩ := hrel
    have HK := Lib.hid hk
    have HIN := Lib.hid hin
    clear hk hin
    have hj0 : (0 : Int) ≤ (j : Int) := Int.natCast_nonneg _
    by_cases hjn : j < l.length
    · have hjn1 : (j : Int) < (l.length : Int) := by omega
      obtain ⟨x, hx⟩ : ∃ x, l[j]? = some x := ⟨_, List.getElem?_eq_getElem hjn⟩
      obtain ⟨g, o, rfl, hg, hc⟩ := HS.out.at hx
      have HD := Lib.hid (Mf.incr_drop hx last)
      have HX := Lib.hid hx
      have c0 : (w.alloc (.cells #[.int .i64 ver, .slice (some ⟨g, o, none⟩) l.length sc] 31)).cell? ⟨g, o + j, none⟩ = some (.int .i64 x) := hc
      clear hx hc
      by_cases hj1 : 0 < j
      · obtain ⟨q, rfl⟩ : ∃ q, j = q + 1 := ⟨j - 1, by omega⟩
        have hlq := hlast hj1
        rw [Nat.add_sub_cancel] at hlq
        obtain ⟨_, _, e1, _, hcq⟩ := HS.out.at hlq
        cases e1
        have c1 : (w.alloc (.cells #[.int .i64 ver, .slice (some ⟨g, o, none⟩) l.length sc] 31)).cell? ⟨g, o + q, none⟩ = some (.int .i64 last) := hcq
        have hq0 : (0 : Int) ≤ (q : Int) := Int.natCast_nonneg _
        have e0 : decide ((0 : Int) < (q : Int) + 1) = true := ltT (by omega)
        clear hlast hlq hcq hj1
        by_cases hx1 : x < 1
        · have e1 := ltT hx1
          have HE : Hid (Mf.good ver l = false) := by
            rw [HG.out, ← HIN.out, HD.out]
            refine Lib.hid ?_
            have : ¬ (last < x ∧ x ≤ 2147483647) := by omega
            by_cases h1 : last < x
            · rw [decide_eq_false (show ¬ x ≤ 2147483647 by omega), Bool.false_and, Bool.and_false]
            · rw [decide_eq_false h1, Bool.false_and]
          go_wp2_with fail
          refine wp_region_cuts [] (by kernel_rfl) (by kernel_rfl) ?_; simp only [wpMix, List.take_succ_cons, List.take_zero, List.drop_succ_cons, List.drop_zero, Nat.sub_zero, Nat.reduceSub, Nat.reduceAdd]
          repeat (go_big_quiet_step (fail))
          refine wpQuiet_nil ?_; rintro _ ⟨nq, rfl⟩
          go_wp2_with fail
          go_ret
          exact ⟨congrArg (fun x => Ending.returned (.bool x)) HE.out.symm, Below.drewN (Below.drewN ((Below.refl _ _).alloc (Nat.le_refl _) _) _) _⟩
        have hx1' : 1 ≤ x := by omega
        have e1 := ltF hx1'
        by_cases hx2 : 2147483647 < x
        · have e2 := ltT hx2
          have HE : Hid (Mf.good ver l = false) := by
            rw [HG.out, ← HIN.out, HD.out]
            refine Lib.hid ?_
            have : ¬ (last < x ∧ x ≤ 2147483647) := by omega
            by_cases h1 : last < x
            · rw [decide_eq_false (show ¬ x ≤ 2147483647 by omega), Bool.false_and, Bool.and_false]
            · rw [decide_eq_false h1, Bool.false_and]
          go_wp2_with fail
          refine wp_region_cuts [] (by kernel_rfl) (by kernel_rfl) ?_; simp only [wpMix, List.take_succ_cons, List.take_zero, List.drop_succ_cons, List.drop_zero, Nat.sub_zero, Nat.reduceSub, Nat.reduceAdd]
          repeat (go_big_quiet_step (fail))
          refine wpQuiet_nil ?_; rintro _ ⟨nq, rfl⟩
          go_wp2_with fail
          go_ret
          exact ⟨congrArg (fun x => Ending.returned (.bool x)) HE.out.symm, Below.drewN (Below.drewN ((Below.refl _ _).alloc (Nat.le_refl _) _) _) _⟩
        have hx2' : x ≤ 2147483647 := by omega
        have e2 := ltF hx2'
        by_cases hx3 : x ≤ last
        · skip
          have HE : Hid (Mf.good ver l = false) := by
            rw [HG.out, ← HIN.out, HD.out]
            refine Lib.hid ?_
            have : ¬ (last < x ∧ x ≤ 2147483647) := by omega
            by_cases h1 : last < x
            · rw [decide_eq_false (show ¬ x ≤ 2147483647 by omega), Bool.false_and, Bool.and_false]
            · rw [decide_eq_false h1, Bool.false_and]
          go_wp2_with fail
          refine wp_region_cuts [] (by kernel_rfl) (by kernel_rfl) ?_; simp only [wpMix, List.take_succ_cons, List.take_zero, List.drop_succ_cons, List.drop_zero, Nat.sub_zero, Nat.reduceSub, Nat.reduceAdd]
          repeat (go_big_quiet_step (fail))
          refine wpQuiet_nil ?_; rintro _ ⟨nq, rfl⟩
          go_wp2_with fail
          go_ret
          exact ⟨congrArg (fun x => Ending.returned (.bool x)) HE.out.symm, Below.drewN (Below.drewN ((Below.refl _ _).alloc (Nat.le_refl _) _) _) _⟩
        have hx3' : last < x := by omega
        go_wp2_with fail
        refine wp_region_cuts [] (by kernel_rfl) (by kernel_rfl) ?_; simp only [wpMix, List.take_succ_cons, List.take_zero, List.drop_succ_cons, List.drop_zero, Nat.sub_zero, Nat.reduceSub, Nat.reduceAdd]
        repeat (go_big_quiet_step (fail))
        refine wpQuiet_nil ?_; rintro _ ⟨nq, rfl⟩
        go_wp2_with fail
        go_roundg (l.length - (q + 1 + 1))
        case measure => rw [HK.out]; omega
        case rel =>
          refine ⟨q + 1 + 1, x, nd + nq, by omega, rfl, by simp, ?_, ?_, by omega, ?_⟩
          · rw [← HIN.out, HD.out, decide_eq_true (show last < x by omega), decide_eq_true (show x ≤ 2147483647 by omega), Bool.true_and, Bool.true_and]
          · intro _; rw [Nat.add_sub_cancel]; exact HX.out
          · simp [World.drewN, Nat.add_assoc]
      · obtain rfl : j = 0 := by omega
        obtain rfl : last = 0 := hl0'.2 rfl
        rw [Nat.add_zero] at c0
        by_cases hx1 : x < 1
        · have e1 := ltT hx1
          have HE : Hid (Mf.good ver l = false) := by
            rw [HG.out, ← HIN.out, HD.out]
            refine Lib.hid ?_
            have : ¬ (0 < x ∧ x ≤ 2147483647) := by omega
            by_cases h1 : 0 < x
            · rw [decide_eq_false (show ¬ x ≤ 2147483647 by omega), Bool.false_and, Bool.and_false]
            · rw [decide_eq_false h1, Bool.false_and]
          go_wp2_with fail
          refine wp_region_cuts [] (by kernel_rfl) (by kernel_rfl) ?_; simp only [wpMix, List.take_succ_cons, List.take_zero, List.drop_succ_cons, List.drop_zero, Nat.sub_zero, Nat.reduceSub, Nat.reduceAdd]
          repeat (go_big_quiet_step (fail))
          refine wpQuiet_nil ?_; rintro _ ⟨nq, rfl⟩
          go_wp2_with fail
          go_ret
          exact ⟨congrArg (fun x => Ending.returned (.bool x)) HE.out.symm, Below.drewN (Below.drewN ((Below.refl _ _).alloc (Nat.le_refl _) _) _) _⟩
        have hx1' : 1 ≤ x := by omega
        have e1 := ltF hx1'
        by_cases hx2 : 2147483647 < x
        · have e2 := ltT hx2
          have HE : Hid (Mf.good ver l = false) := by
            rw [HG.out, ← HIN.out, HD.out]
            refine Lib.hid ?_
            have : ¬ (0 < x ∧ x ≤ 2147483647) := by omega
            by_cases h1 : 0 < x
            · rw [decide_eq_false (show ¬ x ≤ 2147483647 by omega), Bool.false_and, Bool.and_false]
            · rw [decide_eq_false h1, Bool.false_and]
          go_wp2_with fail
          refine wp_region_cuts [] (by kernel_rfl) (by kernel_rfl) ?_; simp only [wpMix, List.take_succ_cons, List.take_zero, List.drop_succ_cons, List.drop_zero, Nat.sub_zero, Nat.reduceSub, Nat.reduceAdd]
          repeat (go_big_quiet_step (fail))
          refine wpQuiet_nil ?_; rintro _ ⟨nq, rfl⟩
          go_wp2_with fail
          go_ret
          exact ⟨congrArg (fun x => Ending.returned (.bool x)) HE.out.symm, Below.drewN (Below.drewN ((Below.refl _ _).alloc (Nat.le_refl _) _) _) _⟩
        have hx2' : x ≤ 2147483647 := by omega
        have e2 := ltF hx2'
        go_wp2_with fail
        refine wp_region_cuts [] (by kernel_rfl) (by kernel_rfl) ?_; simp only [wpMix, List.take_succ_cons, List.take_zero, List.drop_succ_cons, List.drop_zero, Nat.sub_zero, Nat.reduceSub, Nat.reduceAdd]
        repeat (go_big_quiet_step (fail))
        refine wpQuiet_nil ?_; rintro _ ⟨nq, rfl⟩
        go_wp2_with fail
        go_roundg (l.length - (0 + 1))
        case measure => rw [HK.out]; omega
        case rel =>
          refine ⟨0 + 1, x, nd + nq, by omega, rfl, by simp, ?_, ?_, by omega, ?_⟩
          · rw [← HIN.out, HD.out, decide_eq_true (show 0 < x by omega), decide_eq_true (show x ≤ 2147483647 by omega), Bool.true_and, Bool.true_and]
          · intro _; rw [Nat.add_sub_cancel]; exact HX.out
          · simp [World.drewN, Nat.add_assoc]
    · have hjn1 : (l.length : Int) ≤ (j : Int) := by omega
      have hend : Hid (Mf.good ver l = true) := by
        rw [HG.out, ← HIN.out, List.drop_of_length_le (by omega)]
        exact Lib.hid rfl
      go_wp2_with fail
      go_ret
      exact ⟨congrArg (fun x => Ending.returned (.bool x)) hend.out.symm, Below.drewN HB.out _⟩
theorem pay_take (v : Int) (l : List Int) (i : Nat) (x : Int) (h : l[i]? = some x) : Mf.pay (v :: l.take (i + 1)) = Mf.pay (v :: l.take i) ++ (Lib.itoa x ++ [10]) := by
  rw [List.take_add_one, h]
  unfold Mf.pay
  rw [show v :: (l.take i ++ (some x).toList) = (v :: l.take i) ++ [x] by simp, List.flatMap_append]
  simp
set_option maxHeartbeats 1000000 in
set_option maxRecDepth 100000 in
theorem rmenc_any (ver : Int) (sv : Value) (l : List Int) (w : World) (hS : Nums w sv l) (hg : Mf.good ver l = true) :
    Calls Tryz.prog 19 #[.agg #[.int .i64 ver, sv]] w fun e w' => e = .returned (.string ⟨(Mf.enc ver l).toArray⟩) ∧ Below w.heap.size w w' := by
  obtain ⟨sa, sc, rfl⟩ := hS.form
  have hb : Below w.heap.size w (w.alloc (.cells #[.int .i64 ver, .slice sa l.length sc] 31)) := (Below.refl _ _).alloc (Nat.le_refl _) _
  have HS := Lib.hid (hS.below hb)
  have hr := heap_new w (.cells #[.int .i64 ver, .slice sa l.length sc] 31)
  have y0 := root_cell hr 0 _ rfl
  have HR := Lib.hid hr
  have HB := Lib.hid hb
  have hl0 : (0 : Int) ≤ (l.length : Int) := Int.natCast_nonneg _
  have hl33 := (Mf.good_out hg).2.1
  have hv := Mf.good_all hg ver (by simp)
  have HALL := Lib.hid (Mf.good_all hg)
  have HEN := Lib.hid (Mf.enc_ok hg)
  obtain ⟨n, rfl⟩ := Int.eq_ofNat_of_zero_le (show 0 ≤ ver by omega)
  clear hS hr hb hg
  go_enter Tryz.func19, Tryz.ntmps19
  go_wp2_with fail
  refine (digits_any n _ (by omega)).mono ?_
  rintro e w1 ⟨rfl, hb1⟩
  obtain ⟨t, ht⟩ : ∃ t : ByteArray, t = ⟨(Lib.decDigits n).toArray⟩ := ⟨_, rfl⟩
  have hsz : (t.size : Int) ≤ 21 := by
    have hlen2 := Lib.itoa_length_le (n : Int) (by omega) (by omega)
    rw [Lib.itoa_nonneg] at hlen2
    rw [ht]
    show ((Lib.decDigits n).toArray.size : Int) ≤ 21
    simp; omega
  rw [← ht]
  have HT := Lib.hid ht
  have HB1 := Lib.hid (HB.out.trans (hb1.mono HB.out.size))
  have HR1 := Lib.hid ((hb1.block _ (heap_lt HR.out)).trans HR.out)
  have y1 := root_cell HR1.out 1 _ rfl
  have HB1b := Lib.hid hb1
  clear hb1 ht
  go_wp2_with fail
  go_loopg [3, 4, 14] l.length (fun k s3 s4 s14 wr => ∃ (i : Nat) (s : ByteArray), i ≤ l.length ∧ k = l.length - i ∧ s14 = .int .i64 (i : Nat) ∧ s3 = .string s ∧ s.data.toList = Mf.pay ((n : Int) :: l.take i) ∧ s.size ≤ 22 * (i + 1) ∧ Below w.heap.size w wr ∧ Below w1.heap.size w1 wr)
  case atStart => exact ⟨0, t ++ ⟨#[10]⟩, Nat.zero_le _, rfl, rfl, rfl, by rw [app_toList, HT.out]; simp [Mf.pay, Lib.itoa_nonneg], by rw [ByteArray.size_append, show (⟨#[10]⟩ : ByteArray).size = 1 from rfl]; omega, HB1.out, Below.refl _ _⟩
  case round =>
    obtain ⟨i, s, hi, hk, rfl, rfl, hs, hsz2, hbr, hbr1⟩ := hrel
    have HK := Lib.hid hk
    have HSS := Lib.hid hs
    have HBR := Lib.hid hbr
    have HBR1 := Lib.hid hbr1
    have hrr := (hbr1.block _ (heap_lt HR1.out)).trans HR1.out
    have HRR := Lib.hid hrr
    have y2 := root_cell hrr 1 _ rfl
    have hi0 : (0 : Int) ≤ (i : Int) := Int.natCast_nonneg _
    have hs0 : (0 : Int) ≤ (s.size : Int) := Int.natCast_nonneg _
    clear hk hs hbr hrr hbr1
    by_cases hin : i < l.length
    · have hin1 : (i : Int) < (l.length : Int) := by omega
      obtain ⟨x, hx⟩ : ∃ x, l[i]? = some x := ⟨_, List.getElem?_eq_getElem hin⟩
      have hx1 := HALL.out x (List.mem_cons_of_mem _ (List.mem_of_getElem? hx))
      obtain ⟨g, o, rfl, hg, hc⟩ := ((HS.out.below HB1b.out).below HBR1.out).at hx
      have HPT := Lib.hid (pay_take (n : Int) l i x hx)
      obtain ⟨m, rfl⟩ := Int.eq_ofNat_of_zero_le (show 0 ≤ x by omega)
      clear hx
      go_wp2_with fail
      refine (digits_any m _ (by omega)).mono ?_
      rintro e w2 ⟨rfl, hb2⟩
      obtain ⟨u, hu⟩ : ∃ t : ByteArray, t = ⟨(Lib.decDigits m).toArray⟩ := ⟨_, rfl⟩
      have husz : (u.size : Int) ≤ 21 := by
        have hlen2 := Lib.itoa_length_le (m : Int) (by omega) (by omega)
        rw [Lib.itoa_nonneg] at hlen2
        rw [hu]
        show ((Lib.decDigits m).toArray.size : Int) ≤ 21
        simp; omega
      have hu0 : (0 : Int) ≤ (u.size : Int) := Int.natCast_nonneg _
      rw [← hu]
      have HU := Lib.hid hu
      have HB2 := Lib.hid (HBR.out.trans (hb2.mono HBR.out.size))
      have HB21 := Lib.hid (HBR1.out.trans (hb2.mono HBR1.out.size))
      clear hb2 hu
      go_wp2_with fail
      go_roundg (l.length - (i + 1))
      case measure => rw [HK.out]; omega
      case rel =>
        refine ⟨i + 1, s ++ u ++ ⟨#[10]⟩, by omega, rfl, by simp, rfl, ?_, by rw [ByteArray.size_append, ByteArray.size_append, show (⟨#[10]⟩ : ByteArray).size = 1 from rfl]; omega, HB2.out, HB21.out⟩
        rw [app_toList, app_toList, HSS.out, HU.out, HPT.out, Lib.itoa_nonneg]
        simp
    · have hin1 : (l.length : Int) ≤ (i : Int) := by omega
      have HF : Hid (s.data.toList = Mf.pay ((n : Int) :: l)) := by
        rw [HSS.out, List.take_of_length_le (by omega)]; exact Lib.hid rfl
      go_wp2_with fail
      refine (renc_any 9 s wr (by omega)).mono ?_
      rintro e w2 ⟨he, hb2⟩
      have HB2 := Lib.hid (HBR.out.trans (hb2.mono HBR.out.size))
      unfold REnc at he
      rw [HF.out, HEN.out, if_pos rfl] at he
      obtain ⟨u, hu⟩ : ∃ t : ByteArray, t = ⟨(Mf.enc (n : Int) l).toArray⟩ := ⟨_, rfl⟩
      have he2 : e = .returned (.tuple #[.string u, .int .i64 0]) := by rw [he, hu]; rfl
      subst he2
      have HU := Lib.hid hu
      clear hb2 he hu
      go_wp2_with fail
      go_ret
      exact ⟨by rw [HU.out]; rfl, HB2.out⟩
end Go.Proofs.YtcinagglbkbmkaaGreatDoor
namespace Go.Proofs.YtcinagglbkbmkaaGreatDoor
set_option linter.unusedSimpArgs false
set_option linter.unusedVariables false
open Go Go.RowKit
namespace Fs
/-- Steps one behind the other, to the first error. -/
def first : List (St → St × Int) → St → St × Int
  | [], st => (st, 0)
  | f :: r, st => if (f st).2 ≠ 0 then f st else first r (f st).1
theorem first_ok {f : St → St × Int} {r : List (St → St × Int)} {st st' : St} (h : f st = (st', 0)) : first (f :: r) st = first r st' := by
  rw [first, h, if_neg (by simp)]
end Fs
namespace Mf
def final : List UInt8 := [109, 97, 110, 105, 102, 101, 115, 116]
def draft : List UInt8 := [109, 97, 110, 105, 102, 101, 115, 116, 46, 116, 109, 112]
def clear (st : Fs.St) : Fs.St × Int := if Fs.mhas st.dir draft then Fs.remove st draft else (st, 0)
def steps (b : List UInt8) : List (Fs.St → Fs.St × Int) :=
  [clear, fun st => Fs.create st draft, fun st => Fs.append st draft b, fun st => Fs.sync st draft, fun st => Fs.rename st draft final, Fs.syncDir]
def save (st : Fs.St) (v : Int) (l : List Int) : Fs.St × Int := if good v l = false then (st, 1) else Fs.first (steps (enc v l)) st
def load (st : Fs.St) : (Int × List Int) × Int :=
  if Fs.openE st final ≠ 0 then ((0, []), Fs.openE st final) else match read (Fs.fileAt st final) with
    | some m => (m, 0)
    | none => ((0, []), 2)
theorem good_final : Fs.good final = true := by decide
theorem good_draft : Fs.good draft = true := by decide
theorem enc_len {v : Int} {l : List Int} (h : good v l = true) : (enc v l).length ≤ 800 := by
  have h1 := pay_len (good_all h)
  have h2 := (good_out h).2.1
  rw [List.length_cons] at h1
  unfold enc
  rw [Fr.bytes_len]
  omega
theorem load_look {st : Fs.St} {v : Int} {l : List Int} (h : good v l = true) (hf : Fs.look st final = some (enc v l)) : load st = ((v, l), 0) := by
  obtain ⟨h1, h2⟩ := Fs.look_some hf
  unfold load
  rw [if_neg (by rw [Fs.openE_of good_final h1]; simp), h2, read_enc h]
theorem load_none {st : Fs.St} (hf : Fs.look st final = none) : load st = ((0, []), 3) := by
  have h1 := Fs.look_none hf
  have : Fs.openE st final = 3 := by unfold Fs.openE; rw [if_neg (by rw [good_final]; simp), if_pos h1]
  unfold load
  rw [this, if_pos (by simp)]
/-- A manifest is saved, in calm weather. -/
theorem save_calm {st : Fs.St} (hc : Fs.Calm st) (hi : Fs.Inv st) {v : Int} {l : List Int} (hg : good v l = true) (hd : st.dir.length < 64) {M : Nat} (hM : ∀ n b, Fs.look st n = some b → b.length ≤ M)
    (hr : ((st.dir.length + 1) * M + 800 : Nat) ≤ st.room) (hfl : ∀ f ∈ st.files, f.1.length ≤ 65536) :
    (save st v l).2 = 0 ∧ Fs.Next st (save st v l).1 3 ∧ (save st v l).1.dir.length ≤ st.dir.length + 1 ∧ (Fs.mhas st.dir final = true → (save st v l).1.dir.length ≤ st.dir.length) ∧
      (∀ f ∈ (save st v l).1.files, f.1.length ≤ 65536) ∧ ∀ m, Fs.look (save st v l).1 m = if m = final then some (enc v l) else if m = draft then none else Fs.look st m := by
  have hel := enc_len hg
  have hs : save st v l = Fs.first (steps (enc v l)) st := by unfold save; rw [if_neg (by rw [hg]; simp)]
  rw [hs]
  clear hs
  have hfd : ¬ final = draft := by decide
  -- the draft's absence
  obtain ⟨s1, e1, n1, d1, d1', g1, f1, k1⟩ : ∃ s1, clear st = (s1, 0) ∧ Fs.Next st s1 1 ∧ s1.dir.length ≤ st.dir.length ∧ s1.dir.length + 1 ≤ 64 ∧ (Fs.mhas s1.dir final = Fs.mhas st.dir final) ∧ s1.files = st.files ∧ ∀ m, Fs.look s1 m = if m = draft then none else Fs.look st m := by
    cases hh : Fs.mhas st.dir draft
    · refine ⟨st, by unfold clear; rw [hh]; rfl, ⟨hc, hi, rfl, Nat.le_succ _, Nat.le_succ _⟩, Nat.le_refl _, hd, rfl, rfl, fun m => ?_⟩
      by_cases hm : m = draft
      · rw [if_pos hm, hm]; unfold Fs.look; rw [hh]; rfl
      · rw [if_neg hm]
    · obtain ⟨h1, h2, h3, h4, h5⟩ := Fs.calm_remove hc hi good_draft hh
      refine ⟨(Fs.remove st draft).1, by unfold clear; rw [if_pos hh]; exact Prod.ext rfl h1, h2, by rw [h3]; exact Fs.mdel_len _ _, by rw [h3]; have := Fs.mdel_len st.dir draft; omega, ?_, h4, h5⟩
      rw [h3, Fs.mhas_mdel, decide_eq_false hfd]; rfl
  have hnd : Fs.mhas s1.dir draft = false := Fs.look_none (by rw [k1, if_pos rfl])
  obtain ⟨c1, n2, dl2, k2⟩ := Fs.calm_create n1.calm n1.inv good_draft hnd (by omega)
  have f2 : (Fs.create s1 draft).1.files = s1.files ++ [([], 0)] := by
    unfold Fs.create
    rw [if_neg (by rw [good_draft]; simp), if_neg (by rw [hnd]; simp), if_neg (by omega), if_neg (by rw [Fs.step_calm n1.calm]; simp)]
  have e2 : (fun st => Fs.create st draft) s1 = ((Fs.create s1 draft).1, 0) := Prod.ext rfl c1
  generalize hs2 : (Fs.create s1 draft).1 = s2 at *
  have u2 : Fs.used s2 ≤ s2.dir.length * M := Fs.used_look n2.inv (fun n b hb => by
    rw [k2] at hb
    by_cases hn : n = draft
    · rw [if_pos hn] at hb; simp at hb; subst hb; exact Nat.zero_le _
    · rw [if_neg hn, k1, if_neg hn] at hb; exact hM n b hb)
  have u2' : s2.dir.length * M ≤ (st.dir.length + 1) * M := Nat.mul_le_mul_right M (by omega)
  obtain ⟨c3, n3, dl3, ⟨i3, f3⟩, k3⟩ := Fs.calm_append (b := enc v l) n2.calm n2.inv good_draft (old := []) (by rw [k2, if_pos rfl]) (by simp; omega) (by have h4 := n2.room; have h5 := n1.room; omega)
  have e3 : (fun st => Fs.append st draft (enc v l)) s2 = ((Fs.append s2 draft (enc v l)).1, 0) := Prod.ext rfl c3
  generalize hs3 : (Fs.append s2 draft (enc v l)).1 = s3 at *
  obtain ⟨c4, n4, dl4, ⟨i4, f4⟩, k4⟩ := Fs.calm_sync n3.calm n3.inv good_draft (old := [] ++ enc v l) (by rw [k3, if_pos rfl])
  have e4 : (fun st => Fs.sync st draft) s3 = ((Fs.sync s3 draft).1, 0) := Prod.ext rfl c4
  generalize hs4 : (Fs.sync s3 draft).1 = s4 at *
  obtain ⟨c5, n5, dl5, dl5', f5, k5⟩ := Fs.calm_rename (nt := final) n4.calm n4.inv good_draft good_final (by decide) (old := [] ++ enc v l) (by rw [k4, k3, if_pos rfl])
  have e5 : (fun st => Fs.rename st draft final) s4 = ((Fs.rename s4 draft final).1, 0) := Prod.ext rfl c5
  generalize hs5 : (Fs.rename s4 draft final).1 = s5 at *
  obtain ⟨c6, n6, dl6, f6, k6⟩ := Fs.calm_syncDir n5.calm n5.inv
  have e6 : Fs.syncDir s5 = ((Fs.syncDir s5).1, 0) := Prod.ext rfl c6
  generalize hs6 : (Fs.syncDir s5).1 = s6 at *
  have hall : Fs.first (steps (enc v l)) st = (s6, 0) := by
    unfold steps
    rw [Fs.first_ok e1, Fs.first_ok e2, Fs.first_ok e3, Fs.first_ok e4, Fs.first_ok e5, Fs.first_ok e6, Fs.first]
  rw [hall]
  refine ⟨rfl, ((((((n1.trans n2).trans n3).trans n4).trans n5).trans n6) : _), ?_, ?_, ?_, ?_⟩
  · show s6.dir.length ≤ _
    rw [dl6]; rw [dl4, dl3, dl2] at dl5; omega
  · intro hf
    show s6.dir.length ≤ _
    have h4 : Fs.mhas s4.dir final = true := by
      have : (Fs.look s4 final).isSome := by
        rw [k4, k3, if_neg hfd, k2, if_neg hfd, k1, if_neg hfd]
        unfold Fs.look; rw [if_pos hf]; rfl
      cases hx : Fs.mhas s4.dir final
      · unfold Fs.look at this; rw [hx] at this; cases this
      · rfl
    have := dl5' h4
    rw [dl6]; rw [dl4, dl3, dl2] at this; omega
  · show ∀ f ∈ s6.files, _
    rw [f6, f5, f4, f3, f2, f1]
    intro f hf
    rcases List.mem_or_eq_of_mem_set hf with hf | rfl
    · rcases List.mem_or_eq_of_mem_set hf with hf | rfl
      · rcases List.mem_append.1 hf with hf | hf
        · exact hfl f hf
        · simp at hf; subst hf; exact Nat.zero_le _
      · show ([] ++ enc v l).length ≤ _; simp; omega
    · show ([] ++ enc v l).length ≤ _; simp; omega
  · intro m
    show Fs.look s6 m = _
    rw [k6, k5]
    by_cases hm : m = final
    · rw [if_pos hm, if_pos hm]; rfl
    · rw [if_neg hm, if_neg hm]
      by_cases hd2 : m = draft
      · rw [if_pos hd2, if_pos hd2]
      · rw [if_neg hd2, if_neg hd2, k4, k3, if_neg hd2, k2, if_neg hd2, k1, if_neg hd2]
end Mf
end Go.Proofs.YtcinagglbkbmkaaGreatDoor
namespace Go.Proofs.YtcinagglbkbmkaaGreatDoor
set_option linter.unusedSimpArgs false
set_option linter.unusedVariables false
open Go Go.RowKit
namespace Fs
/-- The names' order. -/
def keys (D : Names) : List (List UInt8) := (D.map (·.1)).mergeSort (fun x y => decide (x ≤ y))
/-- The directory behind the first changes. -/
def crashDir (st : St) (k : Nat) : Names := (st.changes.take k).foldl doAll st.sure
/-- Names and files, one for one. -/
structure InvA (fs : List (List UInt8 × Nat)) (d : Names) : Prop where
  nd : d.Pairwise (fun p q => p.1 ≠ q.1)
  inj : ∀ p ∈ d, ∀ q ∈ d, p.2 = q.2 → p.1 = q.1
  known : ∀ p ∈ d, 0 ≤ p.2 ∧ p.2 < fs.length
  gd : ∀ p ∈ d, good p.1 = true
  full : ∀ f ∈ fs, f.2 = f.1.length
theorem keys_mem {D : Names} {n : List UInt8} : n ∈ keys D ↔ mhas D n = true := by
  unfold keys
  rw [List.mem_mergeSort, mhas_mem, List.mem_map]
theorem keys_len (D : Names) : (keys D).length = D.length := by unfold keys; rw [List.length_mergeSort, List.length_map]
end Fs
end Go.Proofs.YtcinagglbkbmkaaGreatDoor
namespace Go.Proofs.YtcinagglbkbmkaaGreatDoor
set_option linter.unusedSimpArgs false
set_option linter.unusedVariables false
open Go Go.RowKit
namespace Fs
structure Sound (st : St) (k : Nat) : Prop where
  dir : ∀ p ∈ st.dir, (0 ≤ p.2 ∧ p.2 < st.files.length) ∧ good p.1 = true
  sure : ∀ p ∈ st.sure, (0 ≤ p.2 ∧ p.2 < st.files.length) ∧ good p.1 = true
  chg : ∀ l ∈ st.changes, (∀ p ∈ l, p.2 < st.files.length ∧ good p.1 = true) ∧ l.length ≤ 2
  nd : st.dir.Pairwise (fun p q => p.1 ≠ q.1)
  nds : st.sure.Pairwise (fun p q => p.1 ≠ q.1)
  full : ∀ f ∈ st.files, f.2 ≤ f.1.length ∧ f.1.length ≤ 65536
  room : 0 ≤ st.room ∧ st.room ≤ 1048576
  nf : st.files.length ≤ k
  nc : st.changes.length ≤ k
  ndir : st.dir.length ≤ k
  nsure : st.sure.length ≤ k
theorem Sound.mono {st : St} {k j : Nat} (h : Sound st k) (hj : k ≤ j) : Sound st j := { h with nf := Nat.le_trans h.nf hj, nc := Nat.le_trans h.nc hj, ndir := Nat.le_trans h.ndir hj, nsure := Nat.le_trans h.nsure hj }
theorem Sound.new {room : Int} (h : 0 ≤ room ∧ room ≤ 1048576) (k : Nat) : Sound (new room) k :=
  ⟨fun p hp => by (cases hp), fun p hp => by (cases hp), fun p hp => by (cases hp), List.Pairwise.nil, List.Pairwise.nil, fun p hp => by (cases hp), h, Nat.zero_le _, Nat.zero_le _, Nat.zero_le _, Nat.zero_le _⟩
/-- Only the power has turned. -/
theorem step_eq (st : St) : ∃ s l p, (step st).1 = { st with steps := s, left := l, plan := p } := by
  unfold step
  split
  · exact ⟨st.steps, st.left, st.plan, rfl⟩
  · exact ⟨_, _, _, rfl⟩
section
set_option linter.unusedSectionVars false
variable {st : St} {k : Nat} (h : Sound st k)
include h
theorem Sound.power (s l : Int) (p : List Int) : Sound { st with steps := s, left := l, plan := p } k := ⟨h.dir, h.sure, h.chg, h.nd, h.nds, h.full, h.room, h.nf, h.nc, h.ndir, h.nsure⟩
theorem Sound.step : Sound (Fs.step st).1 k := by
  obtain ⟨s, l, p, e⟩ := step_eq st
  rw [e]
  exact h.power s l p
theorem Sound.turned {l : Names} (hl : ∀ p ∈ l, p.2 < st.files.length ∧ good p.1 = true) (hl2 : l.length ≤ 2) : Sound (turned st l) (k + 2) := by
  have key : ∀ (l d : Names), (∀ p ∈ l, p.2 < st.files.length ∧ good p.1 = true) → (∀ p ∈ d, (0 ≤ p.2 ∧ p.2 < st.files.length) ∧ good p.1 = true) → d.Pairwise (fun p q => p.1 ≠ q.1) →
      (∀ p ∈ doAll d l, (0 ≤ p.2 ∧ p.2 < st.files.length) ∧ good p.1 = true) ∧ (doAll d l).Pairwise (fun p q => p.1 ≠ q.1) := by
    intro l
    induction l with
    | nil => intro d _ h1 h2; exact ⟨h1, h2⟩
    | cons c l ih =>
      intro d hl h1 h2
      have hc := hl c List.mem_cons_self
      refine ih (doOne d c) (fun p hp => hl p (List.mem_cons_of_mem _ hp)) ?_ ?_
      · unfold doOne
        split
        · exact fun p hp => h1 p (mdel_mem.1 hp).1
        · intro p hp
          rcases mput_mem.1 hp with rfl | ⟨hp, _⟩
          · exact ⟨⟨by simp only; omega, hc.1⟩, hc.2⟩
          · exact h1 p hp
      · unfold doOne
        split
        · exact pw_mdel h2
        · exact pw_mput h2
  obtain ⟨k1, k2⟩ := key l st.dir hl h.dir h.nd
  have := doAll_len l st.dir
  refine ⟨k1, h.sure, fun l' hl' => ?_, k2, h.nds, h.full, h.room, Nat.le_trans h.nf (by omega), ?_, ?_, Nat.le_trans h.nsure (by omega)⟩
  · rcases List.mem_append.1 hl' with hx | hx
    · exact h.chg l' hx
    · simp at hx; subst hx; exact ⟨hl, hl2⟩
  · show (st.changes ++ [l]).length ≤ _
    have := h.nc
    simp; omega
  · show (doAll st.dir l).length ≤ _
    have := h.ndir
    omega
theorem Sound.files {fs : List (List UInt8 × Nat)} (hn : fs.length = st.files.length) (hf : ∀ f ∈ fs, f.2 ≤ f.1.length ∧ f.1.length ≤ 65536) : Sound { st with files := fs } k :=
  ⟨by rw [hn]; exact h.dir, by rw [hn]; exact h.sure, by rw [hn]; exact h.chg, h.nd, h.nds, hf, h.room, by rw [hn]; exact h.nf, h.nc, h.ndir, h.nsure⟩
theorem Sound.create (n : List UInt8) : Sound (create st n).1 (k + 2) := by
  unfold Fs.create
  split
  · exact h.mono (by omega)
  split
  · exact h.mono (by omega)
  split
  · exact h.mono (by omega)
  split
  · exact h.step.mono (by omega)
  rename_i hg _ _ _
  have hg' : good n = true := by simpa using hg
  obtain ⟨s, l, p, e⟩ := step_eq st
  rw [e]
  have h1 : Sound { st with steps := s, left := l, plan := p, files := st.files ++ [([], 0)] } (k + 1) := by
    have e1 : (st.files ++ [(([] : List UInt8), 0)]).length = st.files.length + 1 := by simp
    refine ⟨?_, ?_, ?_, h.nd, h.nds, ?_, h.room, ?_, Nat.le_succ_of_le h.nc, Nat.le_succ_of_le h.ndir, Nat.le_succ_of_le h.nsure⟩
    · intro p hp; have := h.dir p hp; exact ⟨⟨this.1.1, by show p.2 < ((st.files ++ [(([] : List UInt8), 0)]).length : Int); rw [e1]; omega⟩, this.2⟩
    · intro p hp; have := h.sure p hp; exact ⟨⟨this.1.1, by show p.2 < ((st.files ++ [(([] : List UInt8), 0)]).length : Int); rw [e1]; omega⟩, this.2⟩
    · intro l hl; exact ⟨fun p hp => ⟨by show p.2 < ((st.files ++ [(([] : List UInt8), 0)]).length : Int); rw [e1]; have := ((h.chg l hl).1 p hp).1; omega, ((h.chg l hl).1 p hp).2⟩, (h.chg l hl).2⟩
    · intro f hf
      rcases List.mem_append.1 hf with hf | hf
      · exact h.full f hf
      · simp at hf; subst hf; simp
    · show (st.files ++ [(([] : List UInt8), 0)]).length ≤ _
      rw [e1]; have := h.nf; omega
  refine ⟨?_, h1.sure, ?_, pw_mput h.nd, h.nds, h1.full, h.room, Nat.le_succ_of_le h1.nf, ?_, ?_, Nat.le_trans h.nsure (by omega)⟩
  · intro p hp
    rcases mput_mem.1 hp with rfl | ⟨hp, _⟩
    · exact ⟨⟨by simp, by simp; omega⟩, hg'⟩
    · exact h1.dir p hp
  · intro l hl
    rcases List.mem_append.1 hl with hx | hx
    · exact h1.chg l hx
    · simp at hx; subst hx; exact ⟨fun p hp => by simp at hp; subst hp; exact ⟨by simp; omega, hg'⟩, by simp⟩
  · show (st.changes ++ [_]).length ≤ _
    have := h.nc; simp; omega
  · show (mput st.dir n _).length ≤ _
    have := mput_len st.dir n st.files.length
    have := h.ndir; omega
theorem Sound.grow (i : Nat) (b : List UInt8) (hb : ∀ f, st.files[i]? = some f → f.1.length + b.length ≤ 65536) : Sound { st with files := grow st.files i b } k := by
  unfold Fs.grow
  cases hf : st.files[i]? with
  | none => exact h
  | some f =>
    refine h.files (by simp) (fun g hg => ?_)
    rcases List.mem_or_eq_of_mem_set hg with hg | rfl
    · exact h.full g hg
    · have := h.full f (List.mem_of_getElem? hf)
      have := hb f hf
      simp; omega
theorem Sound.append (n b : List UInt8) : Sound (append st n b).1 k := by
  unfold Fs.append
  split
  · exact h
  split
  · exact h
  rename_i ho hl
  have hb : ∀ (c : List UInt8), c.length ≤ b.length → ∀ f, st.files[Fs.idx st n]? = some f → f.1.length + c.length ≤ 65536 := by
    intro c hc f hf
    unfold fileAt at hl
    rw [hf] at hl
    simp only at hl
    omega
  obtain ⟨s, l, p, e⟩ := step_eq st
  split
  · split
    · rw [e]
      exact (h.grow _ _ (hb _ (by simp; omega))).power s l p
    · exact h.step
  split
  · exact h.step
  · rw [e]
    exact (h.grow _ _ (hb _ (Nat.le_refl _))).power s l p
theorem Sound.flush (i : Nat) : Sound { st with files := flush st.files i } k := by
  unfold Fs.flush
  cases hf : st.files[i]? with
  | none => exact h
  | some f =>
    refine h.files (by simp) (fun g hg => ?_)
    rcases List.mem_or_eq_of_mem_set hg with hg | rfl
    · exact h.full g hg
    · have := h.full f (List.mem_of_getElem? hf)
      exact ⟨Nat.le_refl _, this.2⟩
theorem Sound.sync (n : List UInt8) : Sound (sync st n).1 k := by
  unfold Fs.sync
  split
  · exact h
  split
  · exact h.step
  · obtain ⟨s, l, p, e⟩ := step_eq st
    rw [e]
    exact (h.flush _).power s l p
theorem Sound.syncDir : Sound (syncDir st).1 k := by
  unfold Fs.syncDir
  split
  · exact h.step
  · obtain ⟨s, l, p, e⟩ := step_eq st
    rw [e]
    exact ⟨h.dir, h.dir, fun l hl => (by cases hl), h.nd, h.nd, h.full, h.room, h.nf, Nat.zero_le _, h.ndir, h.ndir⟩
theorem Sound.remove (n : List UInt8) : Sound (remove st n).1 (k + 2) := by
  unfold Fs.remove
  split
  · exact h.mono (by omega)
  rename_i ho
  split
  · exact h.step.mono (by omega)
  · have hg : good n = true := by
      cases hx : good n
      · exact absurd (by unfold openE; rw [if_pos hx]; decide) ho
      · rfl
    refine h.step.turned (fun p hp => ?_) (by simp)
    simp at hp; subst hp
    exact ⟨by simp only; omega, hg⟩
theorem Sound.rename (a b : List UInt8) : Sound (rename st a b).1 (k + 2) := by
  unfold Fs.rename
  split
  · exact h.mono (by omega)
  rename_i hg
  split
  · exact h.mono (by omega)
  rename_i hh
  split
  · exact h.step.mono (by omega)
  · have hg' : good a = true ∧ good b = true := by
      rw [Bool.not_eq_false, Bool.and_eq_true] at hg
      exact hg
    obtain ⟨p, hp1, hp2, hp3⟩ := mget_mem (l := st.dir) (k := a) (by simpa using hh)
    refine h.step.turned (fun q hq => ?_) (by simp)
    rw [step_files]
    simp at hq
    rcases hq with rfl | rfl
    · exact ⟨by simp only; omega, hg'.1⟩
    · exact ⟨by simp only; rw [← hp3]; exact (h.dir p hp1).1.2, hg'.2⟩
theorem doAll_sound : ∀ (l d : Names), (∀ p ∈ l, p.2 < st.files.length ∧ good p.1 = true) → (∀ p ∈ d, (0 ≤ p.2 ∧ p.2 < st.files.length) ∧ good p.1 = true) → d.Pairwise (fun p q => p.1 ≠ q.1) →
    (∀ p ∈ doAll d l, (0 ≤ p.2 ∧ p.2 < st.files.length) ∧ good p.1 = true) ∧ (doAll d l).Pairwise (fun p q => p.1 ≠ q.1)
  | [], d, _, h1, h2 => ⟨h1, h2⟩
  | c :: l, d, hl, h1, h2 => by
    have hc := hl c List.mem_cons_self
    refine doAll_sound l (doOne d c) (fun p hp => hl p (List.mem_cons_of_mem _ hp)) ?_ ?_
    · unfold doOne
      split
      · exact fun p hp => h1 p (mdel_mem.1 hp).1
      · intro p hp
        rcases mput_mem.1 hp with rfl | ⟨hp, _⟩
        · exact ⟨⟨by simp only; omega, hc.1⟩, hc.2⟩
        · exact h1 p hp
    · unfold doOne
      split
      · exact pw_mdel h2
      · exact pw_mput h2
theorem Sound.crashDir (j : Nat) : (∀ p ∈ Fs.crashDir st j, (0 ≤ p.2 ∧ p.2 < st.files.length) ∧ good p.1 = true) ∧ (Fs.crashDir st j).Pairwise (fun p q => p.1 ≠ q.1) ∧ (Fs.crashDir st j).length ≤ k + 2 * j := by
  unfold Fs.crashDir
  have key : ∀ (L : List Names) (d : Names), (∀ l ∈ L, (∀ p ∈ l, p.2 < st.files.length ∧ good p.1 = true) ∧ l.length ≤ 2) → (∀ p ∈ d, (0 ≤ p.2 ∧ p.2 < st.files.length) ∧ good p.1 = true) → d.Pairwise (fun p q => p.1 ≠ q.1) →
      (∀ p ∈ L.foldl doAll d, (0 ≤ p.2 ∧ p.2 < st.files.length) ∧ good p.1 = true) ∧ (L.foldl doAll d).Pairwise (fun p q => p.1 ≠ q.1) ∧ (L.foldl doAll d).length ≤ d.length + 2 * L.length := by
    intro L
    induction L with
    | nil => intro d _ h1 h2; exact ⟨h1, h2, Nat.le_refl _⟩
    | cons l L ih =>
      intro d hL h1 h2
      obtain ⟨k1, k2⟩ := doAll_sound h l d (hL l List.mem_cons_self).1 h1 h2
      obtain ⟨a1, a2, a3⟩ := ih (doAll d l) (fun x hx => hL x (List.mem_cons_of_mem _ hx)) k1 k2
      refine ⟨a1, a2, Nat.le_trans a3 ?_⟩
      have := doAll_len l d
      have := (hL l List.mem_cons_self).2
      rw [List.length_cons]; omega
  obtain ⟨a1, a2, a3⟩ := key (st.changes.take j) st.sure (fun l hl => h.chg l (List.mem_of_mem_take hl)) h.sure h.nds
  refine ⟨a1, a2, Nat.le_trans a3 ?_⟩
  have := h.nsure
  have : (st.changes.take j).length ≤ j := by simp; omega
  omega
end
end Fs
end Go.Proofs.YtcinagglbkbmkaaGreatDoor
namespace Go.Proofs.YtcinagglbkbmkaaGreatDoor
set_option linter.unusedSimpArgs false
set_option linter.unusedVariables false
open Go Go.RowKit
namespace Mf
open Fs
/-- Behind a crash: the manifest that there is, perhaps a draft. -/
structure Round (st : St) (cur : Option (List UInt8)) : Prop where
  sound : Sound st 2
  sure : st.sure = st.dir
  chg : st.changes = []
  full : ∀ f ∈ st.files, f.2 = f.1.length
  two : ∀ p ∈ st.dir, p.1 = final ∨ p.1 = draft
  cur : (mhas st.dir final = false → cur = none) ∧ (mhas st.dir final = true → ∃ b, st.files[(mget st.dir final).toNat]? = some (b, b.length) ∧ cur = some b)
/-- Wherever the directory stands: the manifest is the elder one, or the new one. -/
def Sw (st : St) (cur : Option (List UInt8)) (new : List UInt8) (sure : Prop) : Prop :=
  ∀ j, (∀ p ∈ crashDir st j, p.1 = final ∨ p.1 = draft) ∧ (mhas (crashDir st j) final = false → cur = none ∧ ¬ sure) ∧
    (mhas (crashDir st j) final = true → ∃ b, st.files[(mget (crashDir st j) final).toNat]? = some (b, b.length) ∧ ((cur = some b ∧ ¬ sure) ∨ new = b))
/-- The draft alone has turned. -/
structure Mid (s0 st : St) : Prop where
  files : ∃ ex, st.files = s0.files ++ ex
  sure : st.sure = s0.dir
  chg : ∀ l ∈ st.changes, ∀ p ∈ l, p.1 = draft
theorem Mid.alike {s0 st st' : St} (h : Mid s0 st) (e1 : st'.files = st.files) (e2 : st'.sure = st.sure) (e3 : st'.changes = st.changes) : Mid s0 st' :=
  ⟨by rw [e1]; exact h.files, by rw [e2]; exact h.sure, by rw [e3]; exact h.chg⟩
theorem Mid.step {s0 st : St} (h : Mid s0 st) : Mid s0 (Fs.step st).1 := by
  obtain ⟨s, l, p, e⟩ := step_eq st
  exact h.alike (by rw [e]) (by rw [e]) (by rw [e])
theorem Mid.set {s0 st : St} (h : Mid s0 st) {i : Nat} (hi : s0.files.length ≤ i) (f : List UInt8 × Nat) : Mid s0 { st with files := st.files.set i f } := by
  obtain ⟨ex, e⟩ := h.files
  refine ⟨⟨ex.set (i - s0.files.length) f, ?_⟩, h.sure, h.chg⟩
  show st.files.set i f = _
  rw [e, List.set_append_right _ _ hi]
theorem Mid.turned {s0 st : St} (h : Mid s0 st) {l : Names} (hl : ∀ p ∈ l, p.1 = draft) : Mid s0 (turned st l) := by
  refine ⟨h.files, h.sure, fun x hx => ?_⟩
  rcases List.mem_append.1 hx with hx | hx
  · exact h.chg x hx
  · simp at hx; subst hx; exact hl
theorem Mid.clear {s0 st : St} (h : Mid s0 st) : Mid s0 (clear st).1 := by
  unfold Mf.clear
  split
  · unfold Fs.remove
    split
    · exact h
    split
    · exact h.step
    · exact h.step.turned (fun p hp => by simp at hp; rw [hp])
  · exact h
/-- The draft's file is a new one. -/
structure Drafted (s0 st : St) (N : Nat) : Prop extends Mid s0 st where
  new : s0.files.length ≤ N ∧ N < st.files.length
  there : mhas st.dir draft = true ∧ mget st.dir draft = (N : Int)
  two : ∀ p ∈ st.dir, p.1 = final ∨ p.1 = draft
theorem Drafted.idx {s0 st : St} {N : Nat} (h : Drafted s0 st N) : Fs.idx st draft = N := by unfold Fs.idx; rw [h.there.2]; rfl
theorem Drafted.open {s0 st : St} {N : Nat} (h : Drafted s0 st N) : openE st draft = 0 := openE_of good_draft h.there.1
theorem Drafted.step {s0 st : St} {N : Nat} (h : Drafted s0 st N) : Drafted s0 (Fs.step st).1 N := by
  have hm := h.toMid.step
  obtain ⟨s, l, p, e⟩ := step_eq st
  refine ⟨hm, ?_, ?_, ?_⟩ <;> rw [e]
  · exact h.new
  · exact h.there
  · exact h.two
theorem Drafted.set {s0 st : St} {N : Nat} (h : Drafted s0 st N) (f : List UInt8 × Nat) : Drafted s0 { st with files := st.files.set N f } N :=
  ⟨h.toMid.set h.new.1 f, ⟨h.new.1, by show N < (st.files.set N f).length; rw [List.length_set]; exact h.new.2⟩, h.there, h.two⟩
theorem Drafted.grow {s0 st : St} {N : Nat} (h : Drafted s0 st N) (b : List UInt8) : ∃ f, st.files[N]? = some f ∧ grow st.files N b = st.files.set N (f.1 ++ b, f.2) := by
  obtain ⟨f, hf⟩ : ∃ f, st.files[N]? = some f := ⟨_, List.getElem?_eq_getElem h.new.2⟩
  exact ⟨f, hf, by unfold Fs.grow; rw [hf]⟩
/-- The new manifest has its name, perhaps not surely. -/
structure Named (s0 st : St) (new : List UInt8) (N : Nat) : Prop where
  files : ∃ ex, st.files = s0.files ++ ex
  file : st.files[N]? = some (new, new.length)
  sure : st.sure = s0.dir
  chg : ∃ ch, st.changes = ch ++ [[(draft, -1), (final, (N : Int))]] ∧ ∀ l ∈ ch, ∀ p ∈ l, p.1 = draft
  dir : mhas st.dir final = true ∧ mget st.dir final = (N : Int)
  two : ∀ p ∈ st.dir, p.1 = final ∨ p.1 = draft
theorem Sw.fail {st : St} {cur : Option (List UInt8)} {new : List UInt8} {A : Prop} (h : Sw st cur new False) (hA : ¬ A) : Sw st cur new A := fun j => by
  obtain ⟨a, b, c⟩ := h j
  exact ⟨a, fun hh => ⟨(b hh).1, hA⟩, fun hh => by obtain ⟨b, k1, k2⟩ := c hh; exact ⟨b, k1, k2.imp (fun q => ⟨q.1, hA⟩) id⟩⟩
theorem Round.new {room : Int} (h : 0 ≤ room ∧ room ≤ 1048576) : Round (Fs.new room) none :=
  ⟨Sound.new h 2, rfl, rfl, fun f hf => by (cases hf), fun p hp => by (cases hp), fun _ => rfl, fun x => (by cases x)⟩
theorem Round.load {st : St} {cur : Option (List UInt8)} (h : Round st cur) : (cur = none → load st = ((0, []), 3)) ∧ (∀ v l, good v l = true → cur = some (enc v l) → load st = ((v, l), 0)) := by
  constructor
  · intro hc
    have h1 : mhas st.dir final = false := by
      cases hx : mhas st.dir final
      · rfl
      · obtain ⟨b, _, e⟩ := h.cur.2 hx; rw [hc] at e; cases e
    exact load_none (by unfold Fs.look; rw [h1]; rfl)
  · intro v l hg hc
    have h1 : mhas st.dir final = true := by
      cases hx : mhas st.dir final
      · have := h.cur.1 hx; rw [hc] at this; cases this
      · rfl
    obtain ⟨b, e1, e2⟩ := h.cur.2 h1
    refine load_look hg ?_
    have hb : b = enc v l := by rw [hc] at e2; exact (Option.some.inj e2).symm
    unfold Fs.look
    rw [if_pos h1]
    unfold fileAt Fs.idx
    rw [e1, hb]
end Mf
end Go.Proofs.YtcinagglbkbmkaaGreatDoor
