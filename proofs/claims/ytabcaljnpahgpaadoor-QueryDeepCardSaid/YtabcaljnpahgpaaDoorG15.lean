/-
  QueryDeep, walked.
-/
import Derived.Test.YtabcaljnpahgpaaDoorG14
import Derived.Test.YtabcaljnpahgpaaDoorG3
namespace Go.Proofs.YtabcaljnpahgpaaDoor
set_option linter.unusedSimpArgs false
set_option linter.unusedVariables false
open Go Go.RowKit

theorem u_mod (n : Int) (k : Int) (h : 0 < k) (h2 : k < 100000) : ∃ N : Nat, wrap64 ((IntKind.u64.wrap n).tmod k) = N ∧ (N : Int) < k := by
  have h0 : 0 ≤ IntKind.u64.wrap n := by
    unfold IntKind.wrap IntKind.bits IntKind.signed
    simp
    omega
  refine ⟨((IntKind.u64.wrap n).tmod k).toNat, ?_, ?_⟩
  · rw [Int.tmod_eq_emod_of_nonneg h0]
    have h1 := Int.emod_nonneg (IntKind.u64.wrap n) (by omega : k ≠ 0)
    have h3 := Int.emod_lt_of_pos (IntKind.u64.wrap n) h
    rw [Int.toNat_of_nonneg h1]
    unfold wrap64
    omega
  · rw [Int.tmod_eq_emod_of_nonneg h0]
    have h1 := Int.emod_nonneg (IntKind.u64.wrap n) (by omega : k ≠ 0)
    have h3 := Int.emod_lt_of_pos (IntKind.u64.wrap n) h
    omega
theorem rep_succ (n : Nat) (x : List UInt8) : Qr.rep (n + 1) x = Qr.rep n x ++ x := by
  unfold Qr.rep
  rw [List.replicate_succ', List.flatten_append]
  simp
theorem bytes_app (a b : ByteArray) : (a ++ b).data.toList = a.data.toList ++ b.data.toList := by
  rw [ByteArray.data_append, Array.toList_append]
set_option maxHeartbeats 2000000 in
set_option maxRecDepth 100000 in
theorem qdeep_any (n l : Int) (w : World) (hn0 : -9223372036854775808 ≤ n) (hn1 : n ≤ 9223372036854775807) (hb0 : -9223372036854775808 ≤ l) (hb1 : l ≤ 9223372036854775807) (hE : Env w) (h3 : 3 ≤ w.heap.size) :
    Calls Tryd.prog 5 #[.int .i64 n, .int .i64 l] w (fun e w' => e = .returned (.bool true) ∧ Below w.heap.size w w') := by
  go_enter Tryd.func5, Tryd.ntmps5
  go_wp2_with fail
  refine (qrAwake_any w hE h3).mono ?_
  rintro e w1 ⟨rfl, hw1, hE1⟩
  obtain ⟨N, hN, hN2⟩ := u_mod n 20 (by decide) (by decide)
  obtain ⟨L, hL, hL2⟩ := u_mod l 20 (by decide) (by decide)
  have HE1 := Lib.hid hE1
  have HW1 := Lib.hid hw1
  have h31 : 3 ≤ w1.heap.size := by have := hw1.size; omega
  clear hE hE1 hw1
  go_wp2_with fail
  rw [hL]
  clear hN hL hn0 hn1 hb0 hb1
  go_loopg [5, 6] (N + 1) (fun k sv i wr => ∃ (j : Nat) (s : ByteArray), k = N + 1 - j ∧ j ≤ N ∧ i = .int .i64 (j + 1) ∧ sv = .string s ∧ s.data.toList = Qr.rep j [123, 97] ∧ s.size = 2 * j ∧ w1 = wr)
  case atStart => exact ⟨0, ⟨#[]⟩, rfl, Nat.zero_le _, rfl, rfl, rfl, rfl, rfl⟩
  case round =>
    obtain ⟨j, s, hk, hj, rfl, rfl, hs, hz, rfl⟩ := hrel
    have HK := Lib.hid hk
    have HS := Lib.hid hs
    have hzb : s.size ≤ 100 := by omega
    have HZ := Lib.hid hz
    clear hk hs hz
    by_cases hjn : j < N
    · have e1 : decide ((j : Int) + 1 < (N : Int) + 1) = true := decide_eq_true (by omega)
      go_wp2_with fail
      go_roundg (N + 1 - (j + 1))
      case measure => rw [HK.out]; omega
      case rel =>
        refine ⟨j + 1, s ++ ⟨#[123, 97]⟩, rfl, hjn, by go_num, rfl, by rw [bytes_app, HS.out, rep_succ], ?_, rfl⟩
        have := HZ.out
        rw [ByteArray.size_append]
        show s.size + 2 = _
        omega
    · have hjN : j = N := by omega
      subst hjN
      have e1 : decide ((j : Int) + 1 < (j : Int) + 1) = false := decide_eq_false (by omega)
      go_wp2_with fail
      obtain ⟨D, hD⟩ : ∃ D : Nat, D = s.size := ⟨_, rfl⟩
      rw [← hD]
      obtain ⟨M, hM⟩ : ∃ M : Nat, M = j := ⟨_, rfl⟩
      rw [← hM] at HS HZ hN2 ⊢
      have HDM : Hid (D = 2 * M) := Lib.hid (by rw [hD, HZ.out])
      clear hD hM hj hjn HK e1
      go_loopg [5, 8] (L + 1) (fun k sv i wr => ∃ (j : Nat) (s : ByteArray), k = L + 1 - j ∧ j ≤ L ∧ i = .int .i64 j ∧ sv = .string s ∧ s.data.toList = (Qr.rep M [123, 97] ++ [123, 97, 40, 98, 58]) ++ Qr.rep j [91] ∧ s.size = (2 * M + 5) + 1 * j ∧ w1 = wr)
      case atStart =>
        refine ⟨0, _, rfl, Nat.zero_le _, rfl, rfl, by rw [bytes_app, HS.out]; simp [Qr.rep], ?_, rfl⟩
        have := HZ.out
        rw [ByteArray.size_append]
        show s.size + _ = _
        rw [this]; rfl
      case round =>
        obtain ⟨j, s, hk, hj, rfl, rfl, hs, hz, rfl⟩ := hrel
        have HK := Lib.hid hk
        clear HS HZ
        have HS := Lib.hid hs
        have hzb : s.size ≤ 200 := by omega
        have HZ := Lib.hid hz
        clear hk hs hz
        by_cases hjn : j < L
        · have e1 : decide (j < L) = true := decide_eq_true (by omega)
          go_wp2_with fail
          go_roundg (L + 1 - (j + 1))
          case measure => rw [HK.out]; omega
          case rel =>
            refine ⟨j + 1, _, rfl, hjn, by go_num, rfl, by rw [bytes_app, HS.out, rep_succ, List.append_assoc], ?_, rfl⟩
            have := HZ.out
            rw [ByteArray.size_append]
            show s.size + 1 = _
            omega
        · have hjN : j = L := by omega
          have e1 : decide (j < L) = false := decide_eq_false (by omega)
          rw [hjN] at HS HZ
          clear hjN HK hjn hj
          go_wp2_with fail
          go_loopg [9, 10] (L + 1) (fun k sv i wr => ∃ (j : Nat) (s : ByteArray), k = L + 1 - j ∧ j ≤ L ∧ i = .int .i64 j ∧ sv = .string s ∧ s.data.toList = ((Qr.rep M [123, 97] ++ [123, 97, 40, 98, 58]) ++ Qr.rep L [91] ++ [49]) ++ Qr.rep j [93] ∧ s.size = (2 * M + 5 + 1 * L + 1) + 1 * j ∧ w1 = wr)
          case atStart =>
            refine ⟨0, _, rfl, Nat.zero_le _, rfl, rfl, by rw [bytes_app, HS.out]; simp [Qr.rep], ?_, rfl⟩
            have := HZ.out
            rw [ByteArray.size_append]
            show s.size + _ = _
            rw [this]; rfl
          case round =>
            obtain ⟨j, s, hk, hj, rfl, rfl, hs, hz, rfl⟩ := hrel
            have HK := Lib.hid hk
            clear HS HZ
            have HS := Lib.hid hs
            have hzb : s.size ≤ 200 := by omega
            have HZ := Lib.hid hz
            clear hk hs hz
            by_cases hjn : j < L
            · have e1 : decide (j < L) = true := decide_eq_true (by omega)
              go_wp2_with fail
              go_roundg (L + 1 - (j + 1))
              case measure => rw [HK.out]; omega
              case rel =>
                refine ⟨j + 1, _, rfl, hjn, by go_num, rfl, by rw [bytes_app, HS.out, rep_succ, List.append_assoc], ?_, rfl⟩
                have := HZ.out
                rw [ByteArray.size_append]
                show s.size + 1 = _
                omega
            · have hjN : j = L := by omega
              have e1 : decide (j < L) = false := decide_eq_false (by omega)
              rw [hjN] at HS HZ
              clear hjN HK hjn hj
              go_wp2_with fail
              go_loopg [9, 11] (M + 1) (fun k sv i wr => ∃ (j : Nat) (s : ByteArray), k = M + 1 - j ∧ j ≤ M ∧ i = .int .i64 (j + 1) ∧ sv = .string s ∧ s.data.toList = (((Qr.rep M [123, 97] ++ [123, 97, 40, 98, 58]) ++ Qr.rep L [91] ++ [49]) ++ Qr.rep L [93] ++ [41, 125]) ++ Qr.rep j [125] ∧ s.size = (2 * M + 5 + 1 * L + 1 + 1 * L + 2) + 1 * j ∧ w1 = wr)
              case atStart =>
                refine ⟨0, _, rfl, Nat.zero_le _, rfl, rfl, by rw [bytes_app, HS.out]; simp [Qr.rep], ?_, rfl⟩
                have := HZ.out
                rw [ByteArray.size_append]
                show s.size + _ = _
                rw [this]; rfl
              case round =>
                obtain ⟨j, s, hk, hj, rfl, rfl, hs, hz, rfl⟩ := hrel
                have HK := Lib.hid hk
                clear HS HZ
                have HS := Lib.hid hs
                have hzb : s.size ≤ 200 := by omega
                have HZ := Lib.hid hz
                clear hk hs hz
                by_cases hjn : j < M
                · have e1 : decide (j < M) = true := decide_eq_true (by omega)
                  go_wp2_with fail
                  go_roundg (M + 1 - (j + 1))
                  case measure => rw [HK.out]; omega
                  case rel =>
                    refine ⟨j + 1, _, rfl, hjn, by go_num, rfl, by rw [bytes_app, HS.out, rep_succ, List.append_assoc], ?_, rfl⟩
                    have := HZ.out
                    rw [ByteArray.size_append]
                    show s.size + 1 = _
                    omega
                · have hjN : j = M := by omega
                  have e1 : decide (j < M) = false := decide_eq_false (by omega)
                  rw [hjN] at HS HZ
                  clear hjN HK hjn hj
                  go_wp2_with fail
                  have hT : s.data.toList = Qr.dpText M L := HS.out
                  have HT := Lib.hid hT
                  clear hT HS
                  refine (qparse_any s _ (by omega) HE1.out h31).mono ?_
                  rintro e w2 ⟨hb2, -, hres⟩
                  rw [HT.out] at hres
                  have hpd := Qr.parse_dp M L (by omega) (by omega)
                  have HB := Lib.hid (HW1.out.trans (hb2.mono HW1.out.size))
                  have hsz := hb2.size
                  clear hb2 e1
                  by_cases c1 : 16 ≤ M
                  · rw [show Qr.dpWant M L = (42, 32) by unfold Qr.dpWant; rw [if_pos c1]] at hpd
                    obtain ⟨p1, p2⟩ := Prod.mk.inj hpd
                    rcases hres with ⟨a1, a2, c1, c2, he, -⟩ | ⟨-, rfl⟩
                    · rw [p1] at he; exact absurd he (by decide)
                    rw [p1, p2]
                    have e1 : decide ((16 : Int) < (M : Int) + 1) = true := decide_eq_true (by omega)
                    clear p1 p2 hpd
                    go_wp2_with fail
                    refine bodyPost_ret (v := .bool true) (by simp [results, Tryd.results5, go_sem]) rfl ?_
                    exact ⟨rfl, HB.out.trans (((Below.refl _ _).alloc (Nat.le_refl _) _).mono (Nat.le_trans HW1.out.size hsz))⟩
                  have e1 : decide ((16 : Int) < (M : Int) + 1) = false := decide_eq_false (by omega)
                  by_cases c2 : 16 ≤ M + L
                  · rw [show Qr.dpWant M L = (42, 2 * M + 5 + (15 - M)) by unfold Qr.dpWant; rw [if_neg c1, if_pos c2]] at hpd
                    obtain ⟨p1, p2⟩ := Prod.mk.inj hpd
                    rcases hres with ⟨a1, a2, c1, c2, he, -⟩ | ⟨-, rfl⟩
                    · rw [p1] at he; exact absurd he (by decide)
                    rw [p1, p2]
                    have hD := HDM.out
                    have hpl : ((2 * M + 5 + (15 - M) : Nat) : Int) = (M : Int) + 20 := by omega
                    rw [hpl]
                    have e2 : decide ((16 : Int) < (M : Int) + 1 + (L : Int)) = true := decide_eq_true (by omega)
                    have hDi : (D : Int) = 2 * (M : Int) := by omega
                    rw [hDi]
                    have e3 : ((M : Int) + 20 == 2 * (M : Int) + 5 + 16 - ((M : Int) + 1)) = true := by rw [beq_iff_eq]; omega
                    clear p1 p2 hpd hD hpl hDi c1 c2
                    go_wp2_with fail
                    refine bodyPost_ret (v := .bool true) (by simp [results, Tryd.results5, go_sem]) rfl ?_
                    exact ⟨rfl, HB.out.trans (((Below.refl _ _).alloc (Nat.le_refl _) _).mono (Nat.le_trans HW1.out.size hsz))⟩
                  · rw [show Qr.dpWant M L = (0, 0) by unfold Qr.dpWant; rw [if_neg c1, if_neg c2]] at hpd
                    obtain ⟨p1, p2⟩ := Prod.mk.inj hpd
                    rcases hres with ⟨a1, a2, d1, d2, he, rfl, -, -⟩ | ⟨he, -⟩
                    rotate_left
                    · exact absurd p1 he
                    have e2 : decide ((16 : Int) < (M : Int) + 1 + (L : Int)) = false := decide_eq_false (by omega)
                    clear p1 p2 hpd he
                    go_wp2_with fail
                    refine bodyPost_ret (v := .bool true) (by simp [results, Tryd.results5, go_sem]) rfl ?_
                    exact ⟨rfl, HB.out.trans (((Below.refl _ _).alloc (Nat.le_refl _) _).mono (Nat.le_trans HW1.out.size hsz))⟩
end Go.Proofs.YtabcaljnpahgpaaDoor
