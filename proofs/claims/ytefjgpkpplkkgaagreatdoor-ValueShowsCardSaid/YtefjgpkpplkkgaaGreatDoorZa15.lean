/-
  The document's 'Quote'.
-/
import Derived.Test.YtefjgpkpplkkgaaGreatDoorZa11
import Derived.Test.YtefjgpkpplkkgaaGreatDoorZa12
import Derived.Test.YtefjgpkpplkkgaaGreatDoorZa5
import Derived.Test.YtefjgpkpplkkgaaGreatDoorZa13
namespace Go.Proofs.YtefjgpkpplkkgaaGreatDoor
set_option linter.unusedSimpArgs false
set_option linter.unusedVariables false
open Go Go.RowKit

set_option maxHeartbeats 1000000 in
set_option maxRecDepth 100000 in
theorem refQuote_any (s : ByteArray) (w : World) (hs : s.size ≤ 300000) :
    Calls Tryz.prog 37 #[.string s] w fun e w' => (∃ n, w' = w.drewN n) ∧ ((Lx.valid s.data.toList = true ∧ e = .returned (.tuple #[.string ⟨(Lx.quote s.data.toList).toArray⟩, .int .i64 0])) ∨ (Lx.valid s.data.toList = false ∧ e = .returned (.tuple #[.string ⟨#[]⟩, .int .i64 2]))) := by
  go_enter Tryz.func37, Tryz.ntmps37
  have hi0 : (0 : Int) ≤ (s.size : Int) := Int.natCast_nonneg _
  cases hv : Lx.valid s.data.toList
  · have HV := Lib.hid hv
    clear hv
    go_wp2_with (go_at_call 36; refine (refUtf8_any _ _ (by omega)).mono ?_; rintro e w' ⟨rfl, hw'⟩; obtain rfl := hw'.symm; rw [HV.out])
    refine bodyPost_ret (v := .tuple #[.string ⟨#[]⟩, .int .i64 2]) (by simp [results, Tryz.results37, go_sem]) rfl ?_
    exact ⟨⟨0, rfl⟩, rfl⟩
  · have HV := Lib.hid hv
    clear hv
    go_wp2_with (go_at_call 36; refine (refUtf8_any _ _ (by omega)).mono ?_; rintro e w' ⟨rfl, hw'⟩; obtain rfl := hw'.symm; rw [HV.out])
    go_loopg [5, 6] s.size (fun k s5 s6 wr => ∃ a b, a ≤ s.size ∧ k = s.size - a ∧ s6 = .int .i64 (a : Nat) ∧ s5 = .string b ∧ b.data.toList = 34 :: (s.data.toList.take a).flatMap Lx.qb ∧ ∃ n, wr = w.drewN n)
    case atStart => exact ⟨0, ⟨#[34]⟩, Nat.zero_le _, by omega, rfl, rfl, by simp, 0, rfl⟩
    case round =>
      obtain ⟨a, b, ha, hk, rfl, rfl, hb, nd, hw⟩ := hrel
      have HW := Lib.hid hw
      clear hw
      have HB := Lib.hid hb
      have HK := Lib.hid hk
      have hbs : b.size ≤ 6 * a + 1 := by
        rw [size_list, hb, List.length_cons]
        have := qb_flat_le (s.data.toList.take a)
        rw [List.length_take] at this
        omega
      clear hb hk
      have ha0 : (0 : Int) ≤ (a : Int) := Int.natCast_nonneg _
      by_cases hlt : a < s.size
      · have hlt1 : (a : Int) < s.size := by omega
        have HT := Lib.hid (take_flat s a hlt Lx.qb)
        have HX := Lib.hid (extract_one s a hlt)
        go_wp2_with fail
        go_loopg [5, 10, 11] 7 (fun k s5 s10 s11 wq => ∃ (j : Nat) (b' : ByteArray) (d : Bool), j ≤ 7 ∧ k = 7 - j ∧ s11 = .int .i64 (j : Nat) ∧ s10 = .bool d ∧ d = (!(Lx.qpart (bt s a) j).isEmpty) ∧ s5 = .string b' ∧ b'.data.toList = b.data.toList ++ Lx.qpart (bt s a) j ∧ wq = wr)
        case atStart => exact ⟨0, b, false, by omega, rfl, rfl, rfl, rfl, rfl, by simp [Lx.qpart], rfl⟩
        case round =>
          obtain ⟨j, b', d, hj, hk, rfl, rfl, hd, rfl, hb', rfl⟩ := hrel
          have HD := Lib.hid hd
          clear hd
          have hbs' : b'.size ≤ 6 * a + 15 := by
            have := qpart_len (bt s a) j
            rw [size_list, hb', List.length_append, ← size_list]
            omega
          have HB' := Lib.hid hb'
          have HK' := Lib.hid hk
          clear hb' hk
          by_cases hj7 : j < 7
          · have hj71 : (j : Int) < 7 := by omega
            have hj0 : (0 : Int) ≤ (j : Int) := Int.natCast_nonneg _
            by_cases hq : bt s a = Lx.spl.getD j 0
            · have q1 := eqT (n := (bt s a).toNat) (k := ((bt ⟨#[34, 92, 8, 9, 10, 12, 13]⟩ j).toNat : Int)) (by rw [spl_bt, ← hq])
              have HXJ := Lib.hid (extract_one ⟨#[34, 92, 98, 116, 110, 102, 114]⟩ j (by show j < 7; omega))
              have HP : Hid (Lx.qpart (bt s a) (j + 1) = Lx.qpart (bt s a) j ++ [92, Lx.asl.getD j 0]) := by rw [Lx.qpart, if_pos hq.symm]; exact Lib.hid rfl
              clear hq
              go_wp2
              go_roundg (7 - (j + 1))
              case measure => rw [HK'.out]; omega
              case rel =>
                refine ⟨j + 1, _, true, hj7, rfl, by simp, rfl, ?_, rfl, ?_, rfl⟩
                · rw [HP.out]; simp
                · rw [app_list, app_list, HB'.out, HXJ.out, HP.out, asl_bt]; simp
            · have q1 := eqF (n := (bt s a).toNat) (k := ((bt ⟨#[34, 92, 8, 9, 10, 12, 13]⟩ j).toNat : Int)) (by
                rw [spl_bt]
                intro e
                exact hq (UInt8.toNat_inj.1 (by omega)))
              have HP : Hid (Lx.qpart (bt s a) (j + 1) = Lx.qpart (bt s a) j) := by rw [Lx.qpart, if_neg (fun e => hq e.symm), List.append_nil]; exact Lib.hid rfl
              clear hq
              go_wp2
              go_roundg (7 - (j + 1))
              case measure => rw [HK'.out]; omega
              case rel =>
                refine ⟨j + 1, _, d, hj7, rfl, by simp, rfl, ?_, rfl, ?_, rfl⟩
                · rw [HP.out]; exact HD.out
                · rw [HB'.out, HP.out]
          · obtain rfl : j = 7 := by omega
            have hqp := qpart_all (bt s a)
            by_cases h0 : (Lx.qs (bt s a)).toNat ≠ 0
            · rw [if_pos h0] at hqp
              have HQP := Lib.hid hqp
              have HQB : Hid (Lx.qb (bt s a) = [92, Lx.qs (bt s a)]) := by unfold Lx.qb; rw [if_pos h0]; exact Lib.hid rfl
              obtain rfl : d = true := by rw [HD.out, hqp]; rfl
              clear hqp h0
              go_wp2_with fail
              go_roundg (s.size - (a + 1))
              case measure => rw [HK.out]; omega
              case rel => exact ⟨a + 1, b', hlt, rfl, by simp, rfl, by rw [HB'.out, HB.out, HQP.out, HT.out, HQB.out]; rfl, nd, HW.out⟩
            · rw [if_neg h0] at hqp
              obtain rfl : d = false := by rw [HD.out, hqp]; rfl
              have HQP := Lib.hid hqp
              clear hqp
              by_cases hc : (bt s a).toNat < 32 ∨ (bt s a).toNat = 127
              · have HQB : Hid (Lx.qb (bt s a) = [92, 117, 48, 48, Lx.hexd ((bt s a).toNat / 16), Lx.hexd ((bt s a).toNat % 16)]) := by unfold Lx.qb; rw [if_neg h0, if_pos hc]; exact Lib.hid rfl
                clear h0
                have HX1 := Lib.hid (extract_one ⟨#[48, 49, 50, 51, 52, 53, 54, 55, 56, 57, 97, 98, 99, 100, 101, 102]⟩ ((bt s a).toNat / 16) (by show _ < 16; have := bt_lt s a; omega))
                have HX2 := Lib.hid (extract_one ⟨#[48, 49, 50, 51, 52, 53, 54, 55, 56, 57, 97, 98, 99, 100, 101, 102]⟩ ((bt s a).toNat % 16) (by show _ < 16; omega))
                have HY1 := Lib.hid (hexd_bt ((bt s a).toNat / 16) (by have := bt_lt s a; omega))
                have HY2 := Lib.hid (hexd_bt ((bt s a).toNat % 16) (by omega))
                rcases hc with hc | hc
                · have c1 : ((bt s a).toNat : Int) < 32 := by omega
                  go_wp2_with fail
                  refine wp_region_cuts [] (by kernel_rfl) (by kernel_rfl) ?_; simp only [wpMix, List.take_succ_cons, List.take_zero, List.drop_succ_cons, List.drop_zero, Nat.sub_zero, Nat.reduceSub, Nat.reduceAdd]
                  repeat (go_big_quiet_step (fail))
                  refine wpQuiet_nil ?_; rintro _ ⟨nq, rfl⟩
                  go_wp2_with fail
                  go_roundg (s.size - (a + 1))
                  case measure => rw [HK.out]; omega
                  case rel => exact ⟨a + 1, _, hlt, rfl, by simp, rfl, by rw [app_list, app_list, app_list, HB'.out, HB.out, HQP.out, HT.out, HQB.out, HX1.out, HX2.out, HY1.out, HY2.out]; simp, nd + nq, by rw [HW.out]; exact drewN_add _ _ _⟩
                · have c1 : (32 : Int) ≤ ((bt s a).toNat : Int) := by omega
                  have c2 := eqT (n := (bt s a).toNat) (k := 127) (by omega)
                  have hcb := bt_lt s a
                  clear hc
                  go_wp2_with fail
                  refine wp_region_cuts [] (by kernel_rfl) (by kernel_rfl) ?_; simp only [wpMix, List.take_succ_cons, List.take_zero, List.drop_succ_cons, List.drop_zero, Nat.sub_zero, Nat.reduceSub, Nat.reduceAdd]
                  repeat (go_big_quiet_step (fail))
                  refine wpQuiet_nil ?_; rintro _ ⟨nq, rfl⟩
                  go_wp2_with fail
                  go_roundg (s.size - (a + 1))
                  case measure => rw [HK.out]; omega
                  case rel => exact ⟨a + 1, _, hlt, rfl, by simp, rfl, by rw [app_list, app_list, app_list, HB'.out, HB.out, HQP.out, HT.out, HQB.out, HX1.out, HX2.out, HY1.out, HY2.out]; simp, nd + nq, by rw [HW.out]; exact drewN_add _ _ _⟩
              · have HQB : Hid (Lx.qb (bt s a) = [bt s a]) := by unfold Lx.qb; rw [if_neg h0, if_neg hc]; exact Lib.hid rfl
                have c1 : (32 : Int) ≤ ((bt s a).toNat : Int) := by omega
                have c2 := eqF (n := (bt s a).toNat) (k := 127) (by omega)
                clear h0
                go_wp2_with fail
                go_roundg (s.size - (a + 1))
                case measure => rw [HK.out]; omega
                case rel => exact ⟨a + 1, _, hlt, rfl, by simp, rfl, by rw [app_list, HB'.out, HB.out, HQP.out, HT.out, HQB.out, HX.out]; simp, nd, HW.out⟩
      · have hlt1 : (s.size : Int) ≤ a := by omega
        go_wp2
        refine bodyPost_ret (v := .tuple #[.string (b ++ ⟨#[34]⟩), .int .i64 0]) (by simp [results, Tryz.results37, go_sem]) rfl ?_
        refine ⟨⟨nd, HW.out⟩, congrArg (fun x => Ending.returned (.tuple #[.string x, .int .i64 0])) ?_⟩
        apply ByteArray.ext
        apply Array.toList_inj.1
        rw [app_list, HB.out, List.take_of_length_le (by show s.size ≤ a; omega)]
        rfl
end Go.Proofs.YtefjgpkpplkkgaaGreatDoor
