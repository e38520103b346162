/-
  'ValueDeep', walked.
-/
import Derived.Test.YtabcaljnpahgpaaGreatDoorVk
import Derived.Test.YtabcaljnpahgpaaGreatDoorVlt
import Derived.Test.YtabcaljnpahgpaaGreatDoorVlm
namespace Go.Proofs.YtabcaljnpahgpaaGreatDoor
set_option linter.unusedSimpArgs false
set_option linter.unusedVariables false
open Go Go.RowKit

theorem vu_mod (n : Int) (k : Int) (h : 0 < k) (h2 : k < 100000) : ∃ N : Nat, wrap64 ((IntKind.u64.wrap n).tmod k) = N ∧ (N : Int) < k := by
  have h0 : 0 ≤ IntKind.u64.wrap n := by
    unfold IntKind.wrap IntKind.bits IntKind.signed
    simp
    omega
  refine ⟨((IntKind.u64.wrap n).tmod k).toNat, ?_, ?_⟩
  · rw [Int.tmod_eq_emod_of_nonneg h0]
    have h1 := Int.emod_nonneg (IntKind.u64.wrap n) (by omega : k ≠ 0)
    have h3 := Int.emod_lt_of_pos (IntKind.u64.wrap n) h
    rw [Int.toNat_of_nonneg h1]
    unfold wrap64
    omega
  · rw [Int.tmod_eq_emod_of_nonneg h0]
    have h1 := Int.emod_nonneg (IntKind.u64.wrap n) (by omega : k ≠ 0)
    have h3 := Int.emod_lt_of_pos (IntKind.u64.wrap n) h
    omega
theorem vrep_succ (n : Nat) (x : List UInt8) : Qr.rep (n + 1) x = Qr.rep n x ++ x := by
  unfold Qr.rep
  rw [List.replicate_succ', List.flatten_append]
  simp
theorem vbytes_app (a b : ByteArray) : (a ++ b).data.toList = a.data.toList ++ b.data.toList := by
  rw [ByteArray.data_append, Array.toList_append]
theorem bytes_eq {s : ByteArray} {l : List UInt8} (h : s.data.toList = l) : s = ⟨l.toArray⟩ := by
  subst h; cases s; simp
theorem rep1_len (c : UInt8) (n : Nat) : (Qr.rep n [c]).length = n := by rw [Qr.rep_len]; simp
set_option maxHeartbeats 1000000 in
set_option maxRecDepth 100000 in
theorem vdeep_any (n : Int) (ob : Bool) (w : World) (hn0 : -9223372036854775808 ≤ n) (hn1 : n ≤ 9223372036854775807) (hE : Env w) (h3 : 3 ≤ w.heap.size) :
    Calls Tryz.prog 10 #[.int .i64 n, .bool ob] w (fun e w' => e = .returned (.bool true) ∧ Below w.heap.size w w') := by
  go_enter Tryz.func10, Tryz.ntmps10
  go_wp2_with fail
  refine (vAwake_any w hE h3).mono ?_
  rintro e w1 ⟨rfl, hw1, hE1⟩
  obtain ⟨N, hN, hN2⟩ := vu_mod n 30 (by decide) (by decide)
  have HE1 := Lib.hid hE1
  have HW1 := Lib.hid hw1
  have h31 : 3 ≤ w1.heap.size := by have := hw1.size; omega
  clear hE hE1 hw1
  go_wp2_with fail
  rw [hN]
  clear hN hn0 hn1
  go_loopg [5, 6, 7, 8] (N + 1) (fun k so ss st i wr => ∃ (j : Nat) (a b c : ByteArray), k = N + 1 - j ∧ j ≤ N ∧ i = .int .i64 j ∧ so = .string a ∧ ss = .string b ∧ st = .string c ∧ a.data.toList = Vl.opT ob j ∧ b.data.toList = Vl.shT ob j ∧ c.data.toList = Qr.rep j [91] ∧ a.size ≤ 3 * j ∧ b.size = j ∧ c.size = j ∧ w1 = wr)
  case atStart => exact ⟨0, ⟨#[]⟩, ⟨#[]⟩, ⟨#[]⟩, rfl, Nat.zero_le _, rfl, rfl, rfl, rfl, rfl, rfl, rfl, Nat.le_refl _, rfl, rfl, rfl⟩
  case round =>
    obtain ⟨j, a, b, c, hk, hj, rfl, rfl, rfl, rfl, ha, hb, hc, hza, hzb, hzc, rfl⟩ := hrel
    have HK := Lib.hid hk
    have HA := Lib.hid ha
    have HB := Lib.hid hb
    have HC := Lib.hid hc
    have HZA := Lib.hid hza
    have HZB := Lib.hid hzb
    have HZC := Lib.hid hzc
    have hab : a.size ≤ 100 := by omega
    have hbb : b.size ≤ 100 := by omega
    have hcb : c.size ≤ 100 := by omega
    clear hk ha hb hc hza hzb hzc
    by_cases hjn : j < N
    · have e1 : decide (j < N) = true := decide_eq_true hjn
      cases ob
      · have HO1 : Hid (Vl.opT false (j + 1) = Vl.opT false j ++ [91]) := Lib.hid (by rw [Vl.opT, if_neg (fun h => absurd h.1 (by simp))])
        have HO2 : Hid (Vl.shT false (j + 1) = [93] ++ Vl.shT false j) := Lib.hid (by rw [Vl.shT, if_neg (fun h => absurd h.1 (by simp))])
        have hnA := congrArg List.length HA.out
        have hnB := congrArg List.length HB.out
        go_wp2_with fail
        go_roundg (N + 1 - (j + 1))
        case measure => rw [HK.out]; omega
        case rel =>
          refine ⟨j + 1, _, _, _, rfl, hjn, by go_num, rfl, rfl, rfl, ?_, ?_, ?_, ?_, ?_, ?_, rfl⟩
          · (rw [vbytes_app, HA.out, HO1.out]; try rfl)
          · (rw [vbytes_app, HB.out, HO2.out]; try rfl)
          · rw [vbytes_app, HC.out, vrep_succ]
          · have := HZA.out; rw [ByteArray.size_append]; show a.size + _ ≤ 3 * (j + 1); have h1 : (⟨#[123, 97, 58]⟩ : ByteArray).size = 3 := rfl; have h2 : (⟨#[91]⟩ : ByteArray).size = 1 := rfl; omega
          · have := HZB.out; rw [ByteArray.size_append]; have h1 : (⟨#[125]⟩ : ByteArray).size = 1 := rfl; have h2 : (⟨#[93]⟩ : ByteArray).size = 1 := rfl; omega
          · have := HZC.out; rw [ByteArray.size_append]; have h2 : (⟨#[91]⟩ : ByteArray).size = 1 := rfl; omega
      · by_cases hm : j % 2 = 1
        · have e2 : (((j : Int) % 2) == 1) = true := by rw [beq_iff_eq]; omega
          have HO1 : Hid (Vl.opT true (j + 1) = Vl.opT true j ++ [123, 97, 58]) := Lib.hid (by rw [Vl.opT, if_pos ⟨rfl, hm⟩])
          have HO2 : Hid (Vl.shT true (j + 1) = [125] ++ Vl.shT true j) := Lib.hid (by rw [Vl.shT, if_pos ⟨rfl, hm⟩])
          clear hm
          have hnA := congrArg List.length HA.out
          have hnB := congrArg List.length HB.out
          go_wp2_with fail
          go_roundg (N + 1 - (j + 1))
          case measure => rw [HK.out]; omega
          case rel =>
            refine ⟨j + 1, _, _, _, rfl, hjn, by go_num, rfl, rfl, rfl, ?_, ?_, ?_, ?_, ?_, ?_, rfl⟩
            · (rw [vbytes_app, HA.out, HO1.out]; try rfl)
            · (rw [vbytes_app, HB.out, HO2.out]; try rfl)
            · rw [vbytes_app, HC.out, vrep_succ]
            · have := HZA.out; rw [ByteArray.size_append]; show a.size + _ ≤ 3 * (j + 1); have h1 : (⟨#[123, 97, 58]⟩ : ByteArray).size = 3 := rfl; have h2 : (⟨#[91]⟩ : ByteArray).size = 1 := rfl; omega
            · have := HZB.out; rw [ByteArray.size_append]; have h1 : (⟨#[125]⟩ : ByteArray).size = 1 := rfl; have h2 : (⟨#[93]⟩ : ByteArray).size = 1 := rfl; omega
            · have := HZC.out; rw [ByteArray.size_append]; have h2 : (⟨#[91]⟩ : ByteArray).size = 1 := rfl; omega
        · have e2 : (((j : Int) % 2) == 1) = false := by rw [beq_eq_false_iff_ne]; omega
          have HO1 : Hid (Vl.opT true (j + 1) = Vl.opT true j ++ [91]) := Lib.hid (by rw [Vl.opT, if_neg (fun h => hm h.2)])
          have HO2 : Hid (Vl.shT true (j + 1) = [93] ++ Vl.shT true j) := Lib.hid (by rw [Vl.shT, if_neg (fun h => hm h.2)])
          clear hm
          have hnA := congrArg List.length HA.out
          have hnB := congrArg List.length HB.out
          go_wp2_with fail
          go_roundg (N + 1 - (j + 1))
          case measure => rw [HK.out]; omega
          case rel =>
            refine ⟨j + 1, _, _, _, rfl, hjn, by go_num, rfl, rfl, rfl, ?_, ?_, ?_, ?_, ?_, ?_, rfl⟩
            · (rw [vbytes_app, HA.out, HO1.out]; try rfl)
            · (rw [vbytes_app, HB.out, HO2.out]; try rfl)
            · rw [vbytes_app, HC.out, vrep_succ]
            · have := HZA.out; rw [ByteArray.size_append]; show a.size + _ ≤ 3 * (j + 1); have h1 : (⟨#[123, 97, 58]⟩ : ByteArray).size = 3 := rfl; have h2 : (⟨#[91]⟩ : ByteArray).size = 1 := rfl; omega
            · have := HZB.out; rw [ByteArray.size_append]; have h1 : (⟨#[125]⟩ : ByteArray).size = 1 := rfl; have h2 : (⟨#[93]⟩ : ByteArray).size = 1 := rfl; omega
            · have := HZC.out; rw [ByteArray.size_append]; have h2 : (⟨#[91]⟩ : ByteArray).size = 1 := rfl; omega
    · have hjN : j = N := by omega
      have e1 : decide (j < N) = false := decide_eq_false hjn
      rw [hjN] at HA HB HC HZA HZB HZC
      clear hjN HK hjn hj
      have HPV := Lib.hid (Vl.parse_vd ob N (by omega))
      obtain ⟨T, hT⟩ : ∃ T : ByteArray, T = (a ++ ⟨#[49]⟩) ++ b := ⟨_, rfl⟩
      have HT1 : Hid (T.data.toList = Vl.opT ob N ++ [49] ++ Vl.shT ob N) := Lib.hid (by rw [hT, vbytes_app, vbytes_app, HA.out, HB.out])
      have HTS : Hid (T.size ≤ 9223372036854775807) := Lib.hid (by rw [hT, ByteArray.size_append, ByteArray.size_append]; have : (⟨#[49]⟩ : ByteArray).size = 1 := rfl; omega)
      have HTE := Lib.hid hT
      clear hT
      go_wp2_with fail
      rw [← HTE.out]
      refine (vparse_any T true w1 HTS.out HE1.out h31).mono ?_
      rintro e w2 ⟨hb2, -, hres⟩
      rw [HT1.out] at hres
      have hres2 : ∃ (kd : Int) (tx : ByteArray) (s1 s2 : Value) (q at_ er : Int), e = .returned (.tuple #[.agg #[.int .i64 kd, .string tx, s1, s2, .int .i64 q], .int .i64 at_, .int .i64 er]) ∧ (∃ p1 p2 p3 p4 p5 p6, s1 = .slice p1 p2 p3 ∧ s2 = .slice p4 p5 p6) ∧ (N ≤ 16 → er = 0 ∧ kd ≠ 0) ∧ (¬ N ≤ 16 → er = 42 ∧ at_ = (if ob then 32 else 16 : Nat)) := by
        have hpv := HPV.out
        unfold Vl.vdWant at hpv
        rcases hres with ⟨z, a1, a2, n1, n2, hz, he, rfl, -⟩ | ⟨he, rfl⟩
        · refine ⟨_, _, _, _, _, _, _, rfl, ⟨_, _, _, _, _, _, rfl, rfl⟩, fun h => ⟨rfl, ?_⟩, fun h => ?_⟩
          · rw [if_pos h] at hpv
            simp only [Prod.mk.injEq, decide_eq_true_iff] at hpv
            rw [hz, show ∀ v, (Vl.ofV v).kind = v.kind from fun v => by cases v; unfold Vl.ofV; rfl]
            intro e
            exact hpv.2.2 (by omega)
          · rw [if_neg h] at hpv
            simp only [Prod.mk.injEq] at hpv
            omega
        · refine ⟨_, _, _, _, _, _, _, rfl, ⟨_, _, _, _, _, _, rfl, rfl⟩, fun h => ?_, fun h => ?_⟩
          · rw [if_pos h] at hpv
            simp only [Prod.mk.injEq] at hpv
            omega
          · rw [if_neg h] at hpv
            simp only [Prod.mk.injEq] at hpv
            rw [hpv.1, hpv.2.1]
            exact ⟨rfl, rfl⟩
      clear hres
      obtain ⟨kd, tx, s1, s2, q, at_, er, rfl, ⟨p1, p2, p3, p4, p5, p6, rfl, rfl⟩, hok, herr⟩ := hres2
      obtain ⟨w3, hw3⟩ : ∃ r, r = w2.alloc (.cells #[.int .i64 kd, .string tx, .slice p1 p2 p3, .slice p4 p5 p6, .int .i64 q] 55) := ⟨_, rfl⟩
      have hb3 : Below w2.heap.size w2 w3 := by rw [hw3]; exact (Below.refl _ _).alloc (Nat.le_refl _) _
      have hb13 := hb2.trans (hb3.mono hb2.size)
      have HB3 := Lib.hid (HW1.out.trans (hb13.mono HW1.out.size))
      have HE3 := Lib.hid (HE1.out.below hb13)
      have h33 : 3 ≤ w3.heap.size := by have := hb13.size; omega
      have HX3 : Hid (w3.heap[w2.heap.size]? = some (.cells #[.int .i64 kd, .string tx, .slice p1 p2 p3, .slice p4 p5 p6, .int .i64 q] 55 (0, 0))) := Lib.hid (by rw [hw3]; exact heap_at_new _ _)
      have HW3 := Lib.hid hw3
      have HOK := Lib.hid hok
      have HERR := Lib.hid herr
      clear hb2 hb3 hb13 hw3 hok herr
      go_wp2_with fail
      rw [← HW3.out]
      go_loopg [7, 53] (N + 1) (fun k st i wr => ∃ (j : Nat) (c : ByteArray), k = N + 1 - j ∧ j ≤ N ∧ i = .int .i64 j ∧ st = .string c ∧ c.data.toList = Qr.rep N [91] ++ Qr.rep j [93] ∧ c.size = N + j ∧ w3 = wr)
      case atStart => exact ⟨0, c, rfl, Nat.zero_le _, rfl, rfl, by rw [HC.out]; simp [Qr.rep], HZC.out, rfl⟩
      case round =>
        obtain ⟨j, c, hk, hj, rfl, rfl, hc, hzc, rfl⟩ := hrel
        have HK := Lib.hid hk
        clear HC HZC
        have HC := Lib.hid hc
        have HZC := Lib.hid hzc
        have hcb : c.size ≤ 100 := by omega
        clear hk hc hzc
        by_cases hjn : j < N
        · have e1 : decide (j < N) = true := decide_eq_true hjn
          go_wp2_with fail
          go_roundg (N + 1 - (j + 1))
          case measure => rw [HK.out]; omega
          case rel =>
            refine ⟨j + 1, _, rfl, hjn, by go_num, rfl, ?_, ?_, rfl⟩
            · rw [vbytes_app, HC.out, vrep_succ, List.append_assoc]
            · have := HZC.out; rw [ByteArray.size_append]; have h2 : (⟨#[93]⟩ : ByteArray).size = 1 := rfl; omega
        · have hjN : j = N := by omega
          have e1 : decide (j < N) = false := decide_eq_false hjn
          rw [hjN] at HC HZC
          clear hjN HK hjn hj
          have hcN : (N : Int) ≤ (c.size : Int) := by have := HZC.out; omega
          have hN0 : (0 : Int) ≤ (N : Int) := by omega
          have HX1 : Hid (c.extract 0 N = ⟨(Qr.rep N [91]).toArray⟩) := Lib.hid (by rw [extract_between, sfx, HC.out]; rw [List.drop_zero, Nat.sub_zero, List.take_append_of_le_length (by rw [rep1_len]; exact Nat.le_refl _), List.take_of_length_le (by rw [rep1_len]; exact Nat.le_refl _)])
          have HX2 : Hid (c.extract N c.size = ⟨(Qr.rep N [93]).toArray⟩) := Lib.hid (by
            rw [extract_between, sfx, HC.out, HZC.out, List.drop_append_of_le_length (by rw [rep1_len]; exact Nat.le_refl _), List.drop_eq_nil_of_le (by rw [rep1_len]; exact Nat.le_refl _), List.nil_append, List.take_of_length_le (by rw [rep1_len]; omega)])
          obtain ⟨X1, hX1⟩ : ∃ X, X = c.extract 0 N := ⟨_, rfl⟩
          obtain ⟨X2, hX2⟩ : ∃ X, X = c.extract N c.size := ⟨_, rfl⟩
          have hs1 : X1.size ≤ 100 := by rw [hX1, HX1.out]; show (Qr.rep N [91]).length ≤ _; rw [rep1_len]; omega
          have hs2 : X2.size ≤ 100 := by rw [hX2, HX2.out]; show (Qr.rep N [93]).length ≤ _; rw [rep1_len]; omega
          obtain ⟨T2, hT2⟩ : ∃ T : ByteArray, T = (X1 ++ ⟨#[65]⟩) ++ X2 := ⟨_, rfl⟩
          have HT2 : Hid (T2.data.toList = Vl.tyT N) := Lib.hid (by rw [hT2, vbytes_app, vbytes_app, hX1, hX2, HX1.out, HX2.out]; rfl)
          have HTZ2 : Hid (T2.size ≤ 9223372036854775807) := Lib.hid (by rw [hT2, ByteArray.size_append, ByteArray.size_append]; have : (⟨#[65]⟩ : ByteArray).size = 1 := rfl; omega)
          have HTE2 := Lib.hid hT2
          clear hT2
          have x1 := hX1.symm
          have x2 := hX2.symm
          clear hX1 hX2
          go_wp2_with fail
          refine wp_region_cuts [8] (by kernel_rfl) (by kernel_rfl) ?_; simp only [wpMix, List.take_succ_cons, List.take_zero, List.drop_succ_cons, List.drop_zero, Nat.sub_zero, Nat.reduceSub, Nat.reduceAdd]
          repeat (go_big_quiet_step (fail))
          refine wpQuiet_nil ?_; rintro _ ⟨nq, rfl⟩
          go_wp2_with fail
          rw [← HTE2.out]
          refine (vtype_any T2 (w3.drewN nq) HTZ2.out (HE3.out.below (Below.drewN (Below.refl _ _) nq)) h33).mono ?_
          rintro e w4 ⟨hb4, hres⟩
          rw [HT2.out] at hres
          have hb4' := Below.undrew hb4
          have hr : ∃ (tt : List UInt8) (a5 e5 : Int), e = .returned (.tuple #[.string ⟨tt.toArray⟩, .int .i64 a5, .int .i64 e5]) ∧ (N ≤ 16 → e5 = 0 ∧ tt.length = 2 * N + 1) ∧ (¬ N ≤ 16 → e5 = 42 ∧ a5 = 16 ∧ tt = []) := by
            have hpt := Vl.parse_ty N (by omega)
            unfold Vl.tyWant at hpt
            rcases hres with ⟨he, rfl⟩ | ⟨he, rfl⟩
            · refine ⟨_, _, _, rfl, fun h => ⟨rfl, ?_⟩, fun h => ?_⟩
              · rw [if_pos h, if_pos he] at hpt
                simp only [Prod.mk.injEq] at hpt
                exact hpt.2.2
              · rw [if_neg h] at hpt
                simp only [Prod.mk.injEq] at hpt
                omega
            · refine ⟨[], _, _, rfl, fun h => ?_, fun h => ?_⟩
              · rw [if_pos h] at hpt
                simp only [Prod.mk.injEq] at hpt
                omega
              · rw [if_neg h] at hpt
                simp only [Prod.mk.injEq] at hpt
                rw [hpt.1, hpt.2.1]
                exact ⟨rfl, rfl, rfl⟩
          obtain ⟨tt, a5, e5, rfl, ht1, ht2⟩ := hr
          have HB4 := Lib.hid (HB3.out.trans (hb4'.mono HB3.out.size))
          have HX4 : Hid (w4.heap[w2.heap.size]? = some (.cells #[.int .i64 kd, .string tx, .slice p1 p2 p3, .slice p4 p5 p6, .int .i64 q] 55 (0, 0))) := Lib.hid (by rw [hb4'.block _ (sh_lt HX3.out)]; exact HX3.out)
          clear hres hb4 hb4' x1 x2
          go_wp2
          repeat (go_big_quiet_step (fail))
          refine wpQuiet_nil ?_
          rintro _ ⟨nr, rfl⟩
          have y0 : (w4.drewN nr).cell? ⟨w2.heap.size, 0, none⟩ = some (.int .i64 kd) := blk_cell HX4.out 0 _ rfl
          by_cases h16 : N ≤ 16
          · obtain ⟨rfl, hkd⟩ := HOK.out h16
            obtain ⟨rfl, htl⟩ := ht1 h16
            have e2 : decide ((N : Int) ≤ 16) = true := decide_eq_true (by omega)
            have e2n : decide (N ≤ 16) = true := decide_eq_true h16
            have e3 : (kd != 0) = true := by rw [bne_iff_ne]; exact hkd
            have e4 : ((tt.length : Int) == 2 * (N : Int) + 1) = true := by rw [beq_iff_eq]; omega
            clear ht1 ht2 hkd htl h16 e1
            go_wp2_with fail
            go_ret
            exact ⟨rfl, Below.drewN HB4.out nr⟩
          · obtain ⟨rfl, rfl⟩ := HERR.out h16
            obtain ⟨rfl, rfl, rfl⟩ := ht2 h16
            have e2 : decide ((N : Int) ≤ 16) = false := decide_eq_false (by omega)
            have e2n : decide (N ≤ 16) = false := decide_eq_false h16
            clear ht1 ht2 h16 e1
            cases ob
            · go_wp2_with fail
              go_ret
              exact ⟨rfl, Below.drewN HB4.out nr⟩
            · go_wp2_with fail
              go_ret
              exact ⟨rfl, Below.drewN HB4.out nr⟩
end Go.Proofs.YtabcaljnpahgpaaGreatDoor
