/-
  'plain' of package rubriclaw10 and the closures of 'SdlStrings', walked.
-/
import Derived.Test.YtabcaljnpahgpaaGreatDoorSdn1
import Derived.Test.YtabcaljnpahgpaaGreatDoorSdv
namespace Go.Proofs.YtabcaljnpahgpaaGreatDoor
set_option linter.unusedSimpArgs false
set_option linter.unusedVariables false
open Go Go.RowKit

namespace Lx
def isAz (c : UInt8) : Bool := (decide (97 ≤ c.toNat) && decide (c.toNat ≤ 122)) || (decide (65 ≤ c.toNat) && decide (c.toNat ≤ 90))
def az (l : List UInt8) : Bool := l.all isAz && !l.isEmpty
end Lx
theorem sfx_az (s : ByteArray) (a : Nat) (h : a < s.size) : (sfx s a).all Lx.isAz = (Lx.isAz (bt s a) && (sfx s (a + 1)).all Lx.isAz) := by
  rw [sfx_cons s a h, List.all_cons]
theorem az_sfx (s : ByteArray) : Lx.az s.data.toList = ((sfx s 0).all Lx.isAz && !(s.data.toList.isEmpty)) := by
  unfold Lx.az
  rw [sfx_all]

set_option maxHeartbeats 400000 in
theorem az_any (s : ByteArray) (w : World) (hs : s.size ≤ 9223372036854775807) :
    Calls Tryz.prog 14 #[.string s] w fun e w' => e = .returned (.bool (Lx.az s.data.toList)) ∧ w' = w := by
  have HN := Lib.hid (az_sfx s)
  go_enter Tryz.func14, Tryz.ntmps14
  go_wp2
  go_loopg [3] s.size (fun k i wr => wr = w ∧ ∃ a : Nat, k = s.size - a ∧ a ≤ s.size ∧ i = .int .i64 a ∧ (sfx s a).all Lx.isAz = (sfx s 0).all Lx.isAz)
  case atStart => exact ⟨rfl, 0, by omega, Nat.zero_le _, rfl, rfl⟩
  case round =>
    obtain ⟨rfl, a, hk, ha, rfl, hal⟩ := hrel
    have HK := Lib.hid hk
    have HAL := Lib.hid hal
    clear hk hal
    by_cases hlt : a < s.size
    · have hA := Lib.hid (sfx_az s a hlt)
      have hi1 : (0 : Int) ≤ (a : Int) := Int.natCast_nonneg _
      have hi2 : (a : Int) < s.size := by omega
      go_wp2
      all_goals first
        | (go_roundg (s.size - (a + 1))
           case measure => have := HK.out; omega
           case rel => exact ⟨rfl, a + 1, rfl, hlt, rfl, by
            rw [← HAL.out, hA.out, show Lx.isAz (bt s a) = true by (unfold Lx.isAz; simp only [Bool.or_eq_true, Bool.and_eq_true, decide_eq_true_eq]; omega)]; rfl⟩)
        | (go_ret
           refine ⟨ret_bool ?_, rfl⟩
           rw [HN.out, ← HAL.out, hA.out, show Lx.isAz (bt s a) = false by (unfold Lx.isAz; rw [Bool.eq_false_iff]; simp only [ne_eq, Bool.or_eq_true, Bool.and_eq_true, decide_eq_true_eq]; omega)]; rfl)
    · have HF : Hid ((sfx s 0).all Lx.isAz = true) := Lib.hid (by rw [← HAL.out, sfx_end s a (by omega)]; rfl)
      go_wp2
      all_goals go_ret
      all_goals refine ⟨ret_bool ?_, rfl⟩
      all_goals rw [HN.out, HF.out, Lib.toList_data, Bool.true_and]

/-- What is told ahead at place i. -/
def toldS (i : Nat) (b : Bool) : ByteArray := ⟨(Lx.ahead i b).toArray⟩
def bitOf (wh : UInt8) (i : Nat) : Bool := wh.toNat / 2 ^ i % 2 == 1
set_option maxHeartbeats 400000 in
theorem noTold_any (i : Int) (w : World) : Calls Tryz.prog 17 #[.int .i64 i] w fun e w' => e = .returned (.string ⟨#[]⟩) ∧ w' = w := by
  go_enter Tryz.func17, Tryz.ntmps17
  go_wp2
  all_goals go_ret
  all_goals exact ⟨rfl, rfl⟩
set_option maxRecDepth 100000 in
theorem bitf : ∀ n : Fin 256, ∀ k : Fin 5, (bits BinOp.and IntKind.u8 (((n.val / 2 ^ k.val : Nat) : Int)) 1 == 1) = (n.val / 2 ^ k.val % 2 == 1) := by decide +kernel
theorem bit_of (wh : UInt8) (k : Nat) (hk : k < 5) : (bits BinOp.and IntKind.u8 (((wh.toNat / 2 ^ k : Nat) : Int)) 1 == 1) = bitOf wh k := bitf ⟨wh.toNat, UInt8.toNat_lt wh⟩ ⟨k, hk⟩
@[go_sem high] theorem idx_two0 (a b : ByteArray) (w : World) : Sem.run Tryz.prog (Instr.index 30 (.agg #[.string a, .string b]) (.int .i64 0)) w = .ok (.string a) w := by kernel_rfl
@[go_sem high] theorem idx_two1 (a b : ByteArray) (w : World) : Sem.run Tryz.prog (Instr.index 30 (.agg #[.string a, .string b]) (.int .i64 1)) w = .ok (.string b) w := by kernel_rfl
set_option maxHeartbeats 400000 in
set_option maxRecDepth 100000 in
theorem told0_any (g : Nat) (wh : UInt8) (w : World) (hc : w.cell? ⟨g, 0, none⟩ = some (.int .u8 wh.toNat)) :
    Calls Tryz.prog 15 #[.int .i64 0, .pointer (some ⟨g, 0, none⟩)] w fun e w' => e = .returned (.string (toldS 0 (bitOf wh 0))) ∧ w' = w := by
  have hb : (bits BinOp.and IntKind.u8 (↑wh.toNat) 1 == 1) = bitOf wh 0 := by
    rw [← bit_of wh 0 (by decide)]
    first | rfl | simp
  cases hv : bitOf wh 0
  · rw [hv] at hb
    clear hv
    go_enter Tryz.func15, Tryz.ntmps15
    go_wp2
    go_ret
    exact ⟨rfl, rfl⟩
  · rw [hv] at hb
    clear hv
    go_enter Tryz.func15, Tryz.ntmps15
    go_wp2
    go_ret
    exact ⟨rfl, rfl⟩
set_option maxHeartbeats 400000 in
set_option maxRecDepth 100000 in
theorem told1_any (g : Nat) (wh : UInt8) (w : World) (hc : w.cell? ⟨g, 0, none⟩ = some (.int .u8 wh.toNat)) :
    Calls Tryz.prog 15 #[.int .i64 1, .pointer (some ⟨g, 0, none⟩)] w fun e w' => e = .returned (.string (toldS 1 (bitOf wh 1))) ∧ w' = w := by
  have hb : (bits BinOp.and IntKind.u8 (↑wh.toNat / 2) 1 == 1) = bitOf wh 1 := by
    rw [← bit_of wh 1 (by decide)]
    first | rfl | simp
  cases hv : bitOf wh 1
  · rw [hv] at hb
    clear hv
    go_enter Tryz.func15, Tryz.ntmps15
    go_wp2
    go_ret
    exact ⟨rfl, rfl⟩
  · rw [hv] at hb
    clear hv
    go_enter Tryz.func15, Tryz.ntmps15
    go_wp2
    go_ret
    exact ⟨rfl, rfl⟩
set_option maxHeartbeats 400000 in
set_option maxRecDepth 100000 in
theorem told2_any (g : Nat) (wh : UInt8) (w : World) (hc : w.cell? ⟨g, 0, none⟩ = some (.int .u8 wh.toNat)) :
    Calls Tryz.prog 15 #[.int .i64 2, .pointer (some ⟨g, 0, none⟩)] w fun e w' => e = .returned (.string (toldS 2 (bitOf wh 2))) ∧ w' = w := by
  have hb : (bits BinOp.and IntKind.u8 (↑wh.toNat / 4) 1 == 1) = bitOf wh 2 := by
    rw [← bit_of wh 2 (by decide)]
    first | rfl | simp
  cases hv : bitOf wh 2
  · rw [hv] at hb
    clear hv
    go_enter Tryz.func15, Tryz.ntmps15
    go_wp2
    go_ret
    exact ⟨rfl, rfl⟩
  · rw [hv] at hb
    clear hv
    go_enter Tryz.func15, Tryz.ntmps15
    go_wp2
    go_ret
    exact ⟨rfl, rfl⟩
set_option maxHeartbeats 400000 in
set_option maxRecDepth 100000 in
theorem told3_any (g : Nat) (wh : UInt8) (w : World) (hc : w.cell? ⟨g, 0, none⟩ = some (.int .u8 wh.toNat)) :
    Calls Tryz.prog 15 #[.int .i64 3, .pointer (some ⟨g, 0, none⟩)] w fun e w' => e = .returned (.string (toldS 3 (bitOf wh 3))) ∧ w' = w := by
  have hb : (bits BinOp.and IntKind.u8 (↑wh.toNat / 8) 1 == 1) = bitOf wh 3 := by
    rw [← bit_of wh 3 (by decide)]
    first | rfl | simp
  cases hv : bitOf wh 3
  · rw [hv] at hb
    clear hv
    go_enter Tryz.func15, Tryz.ntmps15
    go_wp2
    go_ret
    exact ⟨rfl, rfl⟩
  · rw [hv] at hb
    clear hv
    go_enter Tryz.func15, Tryz.ntmps15
    go_wp2
    go_ret
    exact ⟨rfl, rfl⟩
set_option maxHeartbeats 400000 in
set_option maxRecDepth 100000 in
theorem told4_any (g : Nat) (wh : UInt8) (w : World) (hc : w.cell? ⟨g, 0, none⟩ = some (.int .u8 wh.toNat)) :
    Calls Tryz.prog 15 #[.int .i64 4, .pointer (some ⟨g, 0, none⟩)] w fun e w' => e = .returned (.string (toldS 4 (bitOf wh 4))) ∧ w' = w := by
  have hb : (bits BinOp.and IntKind.u8 (↑wh.toNat / 16) 1 == 1) = bitOf wh 4 := by
    rw [← bit_of wh 4 (by decide)]
    first | rfl | simp
  cases hv : bitOf wh 4
  · rw [hv] at hb
    clear hv
    go_enter Tryz.func15, Tryz.ntmps15
    go_wp2
    go_ret
    exact ⟨rfl, rfl⟩
  · rw [hv] at hb
    clear hv
    go_enter Tryz.func15, Tryz.ntmps15
    go_wp2
    go_ret
    exact ⟨rfl, rfl⟩
end Go.Proofs.YtabcaljnpahgpaaGreatDoor
