/-
  What is valid UTF-8: the library's reading, the lexer's, the document's.
-/
import Derived.Test.YtabcaljnpahgpaaGreatDoorLxval
import Derived.Test.YtabcaljnpahgpaaGreatDoorK1
import Derived.Test.YtabcaljnpahgpaaGreatDoorK6
import Derived.Test.YtabcaljnpahgpaaGreatDoorK3
import Derived.Outline
import Derived.Deep.LoopGhost
namespace Go.Proofs.YtabcaljnpahgpaaGreatDoor
set_option linter.unusedSimpArgs false
set_option linter.unusedVariables false
open Go Go.RowKit

theorem decodeL_pos (l : List UInt8) (h : l ≠ []) : 1 ≤ (Lib.decodeL l).2 := by
  have hl : 0 < l.length := List.length_pos_iff.2 h
  unfold Lib.decodeL
  rw [Lx.decode_plain l _ _ _ _ rfl rfl rfl rfl]
  repeat' split
  all_goals first | omega | simp
theorem valid_go : ∀ (n : Nat) (l : List UInt8), Lib.validGoD n l = Lx.validGo n l
  | 0, _ => rfl
  | n + 1, l => by
    unfold Lib.validGoD Lx.validGo
    by_cases h : l = []
    · rw [if_pos h, if_pos h]
    · rw [if_neg h, if_neg h]
      have h1 := Lx.rune_decode l
      have h2 : Lib.decodeGo ⟨l.toArray⟩ = Lib.decodeL l := by
        unfold Lib.decodeGo Lib.decodeL
        rw [if_neg]
        show ¬ l.length = 0
        intro e
        exact h (List.length_eq_zero_iff.1 e)
      rw [h2] at h1
      have h3 : 1 ≤ (Lib.decodeL l).2 := decodeL_pos l h
      by_cases hb : (Lib.decodeL l).1 = 65533 ∧ (Lib.decodeL l).2 = 1
      · have hr : (Lx.rune l).2 = 0 := by
          rw [← h1]
          unfold Lx.clip
          rw [if_pos ⟨hb.1, by omega⟩]
        rw [if_pos hb, if_pos hr]
      · have hc : Lx.clip (Lib.decodeL l) = Lib.decodeL l := by
          unfold Lx.clip
          rw [if_neg (fun x => hb ⟨x.1, by omega⟩)]
        rw [hc] at h1
        rw [if_neg hb, ← h1, if_neg (by omega)]
        exact valid_go n _
theorem validD_eq (l : List UInt8) : Lib.validD l = Lx.valid l := valid_go _ l

/-- The document's byte at a place: -1 behind the end. -/
def oneAt (s : ByteArray) (a : Nat) : Int := if a < s.size then (bt s a).toNat else -1

set_option maxHeartbeats 400000 in
theorem one_any (s : ByteArray) (a : Nat) (w : World) (hs : s.size ≤ 9223372036854775807) (ha : a ≤ 9223372036854775807) :
    Calls Tryz.prog 134 #[.string s, .int .i64 a] w fun e w' => e = .returned (.int .i64 (oneAt s a)) ∧ w' = w := by
  have hi0 : (0 : Int) ≤ (a : Int) := Int.natCast_nonneg _
  unfold oneAt
  by_cases hlt : a < s.size
  · rw [if_pos hlt]
    have hi1 : (a : Int) < s.size := by omega
    have hwr : wrap64 ((bt s a).toNat : Int) = (bt s a).toNat := by have := bt_lt s a; unfold wrap64; omega
    go_enter Tryz.func134, Tryz.ntmps134
    go_wp2
    go_ret
    exact ⟨ret_int hwr, rfl⟩
  · rw [if_neg hlt]
    go_enter Tryz.func134, Tryz.ntmps134
    go_wp2
    go_ret
    exact ⟨rfl, rfl⟩
set_option maxHeartbeats 400000 in
theorem goes_any (s : ByteArray) (a : Nat) (w : World) (hs : s.size ≤ 9223372036854775807) (ha : a ≤ 9223372036854775807) :
    Calls Tryz.prog 135 #[.string s, .int .i64 a] w fun e w' => e = .returned (.bool (decide (a < s.size) && Lx.cont (bt s a))) ∧ w' = w := by
  have HO := Lib.hid (show oneAt s a = if a < s.size then ((bt s a).toNat : Int) else -1 from rfl)
  have hq : -1 ≤ oneAt s a ∧ oneAt s a ≤ 255 := by
    rw [HO.out]
    have := bt_lt s a
    split <;> omega
  have HA := Lib.hid (fun w => one_any s a w hs ha)
  generalize hg : oneAt s a = q at *
  have HG := Lib.hid hg
  clear hg
  obtain ⟨hq0, hq1⟩ := hq
  go_enter Tryz.func135, Tryz.ntmps135
  go_wp2_with (go_at_call 134; refine (HA.out _).mono ?_; rintro e w' ⟨rfl, hw'⟩; obtain rfl := hw'.symm)
  all_goals go_ret
  all_goals refine ⟨ret_bool ?_, rfl⟩
  all_goals
    have hq := HO.out
    by_cases hlt : a < s.size
    · rw [if_pos hlt] at hq
      rw [Bool.eq_iff_iff]
      simp only [hlt, Lx.cont, decide_true, Bool.true_and, Bool.and_eq_true, decide_eq_true_eq, Bool.false_eq_true, false_iff]
      omega
    · rw [if_neg hlt] at hq
      rw [Bool.eq_iff_iff]
      simp only [hlt, decide_false, Bool.false_and, decide_eq_true_eq, Bool.false_eq_true, iff_false]
      try omega

end Go.Proofs.YtabcaljnpahgpaaGreatDoor
