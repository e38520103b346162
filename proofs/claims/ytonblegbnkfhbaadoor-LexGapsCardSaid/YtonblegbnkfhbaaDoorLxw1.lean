/-
  The lexer's small functions, walked: letter, digit, a name's byte, peek, rune, hex.
-/
import Derived.Test.YtonblegbnkfhbaaDoorLxEnv
import Derived.Test.YtonblegbnkfhbaaDoorLxd
import Derived.Test.YtonblegbnkfhbaaDoorCuts
import Derived.Outline
namespace Go.Proofs.YtonblegbnkfhbaaDoor
set_option linter.unusedSimpArgs false
set_option linter.unusedVariables false
open Go Go.RowKit

def orLet (n : Nat) : Bool := (bits BinOp.or IntKind.u8 (n : Int) 32 : Int) == (((UInt8.ofNat n) ||| 32).toNat : Int)
theorem or32 (c : UInt8) : bits BinOp.or IntKind.u8 (c.toNat : Int) 32 = ((c ||| 32).toNat : Int) := by
  have h : ∀ n : Fin 256, orLet n.val = true := by decide +kernel
  have := h ⟨c.toNat, UInt8.toNat_lt c⟩
  simpa [orLet] using this

set_option maxHeartbeats 400000 in
theorem letter_any (c : UInt8) (w : World) :
    Calls Tryd.prog 20 #[.int .u8 c.toNat] w fun e w' => e = .returned (.bool (Lx.isLetter c)) ∧ w' = w := by
  have h32 := Lib.hid (or32 c)
  go_enter Tryd.func20, Tryd.ntmps20
  go_wp2
  all_goals go_ret
  all_goals refine ⟨ret_bool ?_, rfl⟩
  all_goals rw [Bool.eq_iff_iff]
  all_goals simp only [beq_iff_eq, Lx.isLetter, Bool.or_eq_true, Bool.and_eq_true, decide_eq_true_eq, Bool.false_eq_true, false_iff, true_iff, iff_true, iff_false]
  all_goals (try simp only [h32.out] at *)
  all_goals omega

set_option maxHeartbeats 400000 in
theorem digit_any (c : UInt8) (w : World) :
    Calls Tryd.prog 21 #[.int .u8 c.toNat] w fun e w' => e = .returned (.bool (Lx.isDigit c)) ∧ w' = w := by
  go_enter Tryd.func21, Tryd.ntmps21
  go_wp2
  all_goals go_ret
  all_goals refine ⟨ret_bool ?_, rfl⟩
  all_goals rw [Bool.eq_iff_iff]
  all_goals simp only [Lx.isDigit, Bool.and_eq_true, decide_eq_true_eq, Bool.false_eq_true, false_iff, true_iff]
  all_goals omega

abbrev isWord := Lx.isWord
set_option maxHeartbeats 400000 in
theorem word_any (c : UInt8) (w : World) :
    Calls Tryd.prog 32 #[.int .u8 c.toNat] w fun e w' => e = .returned (.bool (isWord c)) ∧ w' = w := by
  go_enter Tryd.func32, Tryd.ntmps32
  go_wp2_with (first | (go_at_call 20; refine (letter_any _ _).mono ?_; rintro e w' ⟨rfl, rfl⟩) | (go_at_call 21; refine (digit_any _ _).mono ?_; rintro e w' ⟨rfl, rfl⟩))
  all_goals go_ret
  all_goals refine ⟨ret_bool ?_, rfl⟩
  all_goals simp_all [Lx.isWord]

set_option maxHeartbeats 400000 in
theorem peek_any (bx : Nat) (s : ByteArray) (a k : Nat) (w : World) (hs : s.size ≤ 4096) (hat : a ≤ s.size) (hk : k ≤ 10) (h : Scan w bx s a) :
    Calls Tryd.prog 30 #[.pointer (some ⟨bx, 0, none⟩), .int .i64 k] w fun e w' => e = .returned (.int .u8 (bt s (a + k)).toNat) ∧ ∃ n, w' = w.drewN n := by
  have h0 := h.c0; have h1 := h.c1; clear h
  by_cases hlt : a + k < s.size
  · go_enter Tryd.func30, Tryd.ntmps30
    go_wp2
    go_quiet (fail)
    go_wp2
    go_quiet (fail)
    go_wp2
    go_ret
    exact ⟨rfl, _, World.drewN_drewN _ _ _⟩
  · go_enter Tryd.func30, Tryd.ntmps30
    go_wp2
    go_quiet (fail)
    go_wp2
    go_ret
    exact ⟨ret_int (by rw [bt_end _ _ (by omega)]; rfl), _, rfl⟩

theorem peek0_any (bx : Nat) (s : ByteArray) (a : Nat) (w : World) (hs : s.size ≤ 4096) (hat : a ≤ s.size) (h : Scan w bx s a) :
    Calls Tryd.prog 30 #[.pointer (some ⟨bx, 0, none⟩), .int .i64 0] w fun e w' => e = .returned (.int .u8 (bt s a).toNat) ∧ ∃ n, w' = w.drewN n := peek_any bx s a 0 w hs hat (by omega) h
theorem peek1_any (bx : Nat) (s : ByteArray) (a : Nat) (w : World) (hs : s.size ≤ 4096) (hat : a ≤ s.size) (h : Scan w bx s a) :
    Calls Tryd.prog 30 #[.pointer (some ⟨bx, 0, none⟩), .int .i64 1] w fun e w' => e = .returned (.int .u8 (bt s (a + 1)).toNat) ∧ ∃ n, w' = w.drewN n := peek_any bx s a 1 w hs hat (by omega) h

theorem extract_sfx (s : ByteArray) (a : Nat) : s.extract a s.size = ⟨(sfx s a).toArray⟩ := by
  have h : (s.extract a s.size).data = (sfx s a).toArray := by
    apply Array.ext'
    simp only [ByteArray.data_extract, Array.toList_extract, sfx, List.extract_eq_take_drop]
    exact List.take_of_length_le (by simp)
  cases h' : s.extract a s.size
  simp_all

theorem ret_rune {a b : Nat × Nat} (h : a = b) : Ending.returned (.tuple #[.int .i32 a.1, .int .i64 a.2]) = .returned (.tuple #[.int .i32 b.1, .int .i64 b.2]) := by rw [h]

set_option maxHeartbeats 400000 in
set_option maxRecDepth 100000 in
theorem rune_any (bx : Nat) (s : ByteArray) (a : Nat) (w : World) (hs : s.size ≤ 4096) (hat : a ≤ s.size) (h : Scan w bx s a) (hE : Env w) :
    Calls Tryd.prog 29 #[.pointer (some ⟨bx, 0, none⟩)] w fun e w' => e = .returned (.tuple #[.int .i32 (Lx.rune (sfx s a)).1, .int .i64 (Lx.rune (sfx s a)).2]) ∧ Below w.heap.size w w' := by
  have hr := Lx.rune_decode (sfx s a)
  have h0 := h.c0; have h1 := h.c1
  have hx := extract_sfx s a
  have hT : Lib.Utf8Tabs 0 1 w := hE.1
  have HT : Hid (∀ n, Lib.Utf8Tabs 0 1 (w.drewN n)) := fun n => hT; have HR := Lib.hid hr
  clear h hE hT hr
  go_enter Tryd.func29, Tryd.ntmps29
  go_wp2
  refine wp_region_cuts [9] (by kernel_rfl) (by kernel_rfl) ?_; simp only [wpMix, List.take_succ_cons, List.take_zero, List.drop_succ_cons, List.drop_zero, Nat.sub_zero, Nat.reduceSub, Nat.reduceAdd]
  repeat (go_big_quiet_step (fail))
  refine wpQuiet_nil ?_; rintro _ ⟨nq, rfl⟩
  go_wp2_with fail
  refine (Tryd.utf8_DecodeRuneInString _ _ (HT.out nq)).mono ?_
  rintro e w1 ⟨rfl, hb0⟩
  have hb := Below.undrew hb0
  clear hb0
  go_wp2
  repeat (go_big_quiet_step (fail))
  rename_i q0
  refine wpQuiet_nil ?_; rintro _ ⟨nq, rfl⟩
  go_wp2
  all_goals go_ret2
  · have e : Lx.rune (sfx s a) = (0, 0) := by rw [← HR.out]; unfold Lx.clip; rw [if_pos ⟨by omega, by omega⟩]
    rw [e]
    exact ⟨rfl, Below.drewN hb _⟩
  · have e : Lx.rune (sfx s a) = Lib.decodeGo ⟨(sfx s a).toArray⟩ := by rw [← HR.out]; unfold Lx.clip; rw [if_neg (by omega)]
    have e1 : (Lib.decodeGo ⟨(sfx s a).toArray⟩).1 = 65533 := by omega
    rw [e, e1]
    exact ⟨rfl, Below.drewN hb _⟩
  · have e : Lx.rune (sfx s a) = Lib.decodeGo ⟨(sfx s a).toArray⟩ := by rw [← HR.out]; unfold Lx.clip; rw [if_neg (by omega)]
    rw [e]
    exact ⟨rfl, Below.drewN hb _⟩
end Go.Proofs.YtonblegbnkfhbaaDoor
