/-
  The lexer's 'while', walked, at its two functions.
-/
import Derived.Test.YtonblegbnkfhbaaDoorLxw1
import Derived.Outline
import Derived.Deep.LoopGhost
namespace Go.Proofs.YtonblegbnkfhbaaDoor
set_option linter.unusedSimpArgs false
set_option linter.unusedVariables false
open Go Go.RowKit

theorem takeWhile_step {p : UInt8 → Bool} {l : List UInt8} {c : UInt8} (h : p c = true) : (c :: l).dropWhile p = l.dropWhile p := by simp [h]

set_option maxHeartbeats 400000 in
set_option maxRecDepth 100000 in
theorem while_digit (bx : Nat) (s : ByteArray) (a : Nat) (w : World) (hs : s.size ≤ 4096) (hat : a ≤ s.size) (h : Scan w bx s a) :
    Calls Tryd.prog 31 #[.pointer (some ⟨bx, 0, none⟩), .func (.func 21) #[] #[]] w fun e w' => ∃ b, a ≤ b ∧ b ≤ s.size ∧ sfx s b = (sfx s a).dropWhile Lx.isDigit ∧ e = .returned (.int .i64 ((b : Int) - a)) ∧ Scan w' bx s b ∧ Fr bx w w' := by
  have HS := Lib.hid h
  have h0 := h.c0; have h1 := h.c1
  clear h
  go_enter Tryd.func31, Tryd.ntmps31
  go_wp2
  go_loopg [] (s.size - a) (fun k wr => ∃ b, k = s.size - b ∧ a ≤ b ∧ b ≤ s.size ∧ (sfx s b).dropWhile Lx.isDigit = (sfx s a).dropWhile Lx.isDigit ∧ Scan wr bx s b ∧ Fr bx w wr)
  case atStart => exact ⟨a, rfl, Nat.le_refl _, hat, rfl, HS.out, But.refl _ _⟩
  case round =>
    obtain ⟨b, hk, hab, hb, hd, hS, hF⟩ := hrel
    have c0 := hS.c0; have c1 := hS.c1; have f1 := hS.f1
    have HD := Lib.hid hd; have HK := Lib.hid hk
    clear hd hk h0 h1
    by_cases hlt : b < s.size
    · have hi0 : (0 : Int) ≤ (b : Int) := Int.natCast_nonneg _
      have hi1 : (b : Int) < s.size := by omega
      cases hp : Lx.isDigit (bt s b)
      · have HP := Lib.hid hp
        go_wp2
        go_quiet ((refine Calls.quiet_of_same (v := .bool false) ((digit_any (bt s b) _).mono ?_); rintro e w' ⟨rfl, hw⟩; exact ⟨by rw [HP.out], hw⟩))
        go_wp2
        go_ret
        refine ⟨b, hab, hb, ?_, rfl, hS.drewN _, hF.drewN _⟩
        rw [← HD.out, sfx_cons s b hlt, List.dropWhile_cons, HP.out]
        simp
      · have HP := Lib.hid hp
        clear hp
        go_wp2
        go_quiet ((refine Calls.quiet_of_same (v := .bool true) ((digit_any (bt s b) _).mono ?_); rintro e w' ⟨rfl, hw⟩; exact ⟨by rw [HP.out], hw⟩))
        go_wp2
        go_roundg (s.size - (b + 1))
        case measure => rw [HK.out]; omega
        case rel =>
          refine ⟨b + 1, rfl, by omega, hlt, ?_, (hS.drewN _).put (b + 1), (hF.drewN _).setCell (.inl rfl) _⟩
          rw [← HD.out, sfx_cons s b hlt, List.dropWhile_cons, HP.out]
          simp
    · have hi1 : (s.size : Int) ≤ b := by omega
      go_wp2
      go_quiet (fail)
      go_wp2
      go_ret
      refine ⟨b, hab, hb, ?_, rfl, hS.drewN _, hF.drewN _⟩
      rw [← HD.out, sfx_end s b (by omega)]
      rfl
set_option maxHeartbeats 400000 in
set_option maxRecDepth 100000 in
theorem while_word (bx : Nat) (s : ByteArray) (a : Nat) (w : World) (hs : s.size ≤ 4096) (hat : a ≤ s.size) (h : Scan w bx s a) :
    Calls Tryd.prog 31 #[.pointer (some ⟨bx, 0, none⟩), .func (.func 32) #[] #[]] w fun e w' => ∃ b, a ≤ b ∧ b ≤ s.size ∧ sfx s b = (sfx s a).dropWhile isWord ∧ e = .returned (.int .i64 ((b : Int) - a)) ∧ Scan w' bx s b ∧ Fr bx w w' := by
  have HS := Lib.hid h
  have h0 := h.c0; have h1 := h.c1
  clear h
  go_enter Tryd.func31, Tryd.ntmps31
  go_wp2
  go_loopg [] (s.size - a) (fun k wr => ∃ b, k = s.size - b ∧ a ≤ b ∧ b ≤ s.size ∧ (sfx s b).dropWhile isWord = (sfx s a).dropWhile isWord ∧ Scan wr bx s b ∧ Fr bx w wr)
  case atStart => exact ⟨a, rfl, Nat.le_refl _, hat, rfl, HS.out, But.refl _ _⟩
  case round =>
    obtain ⟨b, hk, hab, hb, hd, hS, hF⟩ := hrel
    have c0 := hS.c0; have c1 := hS.c1; have f1 := hS.f1
    have HD := Lib.hid hd; have HK := Lib.hid hk
    clear hd hk h0 h1
    by_cases hlt : b < s.size
    · have hi0 : (0 : Int) ≤ (b : Int) := Int.natCast_nonneg _
      have hi1 : (b : Int) < s.size := by omega
      cases hp : isWord (bt s b)
      · have HP := Lib.hid hp
        go_wp2
        go_quiet ((refine Calls.quiet_of_same (v := .bool false) ((word_any (bt s b) _).mono ?_); rintro e w' ⟨rfl, hw⟩; exact ⟨by rw [HP.out], hw⟩))
        go_wp2
        go_ret
        refine ⟨b, hab, hb, ?_, rfl, hS.drewN _, hF.drewN _⟩
        rw [← HD.out, sfx_cons s b hlt, List.dropWhile_cons, HP.out]
        simp
      · have HP := Lib.hid hp
        clear hp
        go_wp2
        go_quiet ((refine Calls.quiet_of_same (v := .bool true) ((word_any (bt s b) _).mono ?_); rintro e w' ⟨rfl, hw⟩; exact ⟨by rw [HP.out], hw⟩))
        go_wp2
        go_roundg (s.size - (b + 1))
        case measure => rw [HK.out]; omega
        case rel =>
          refine ⟨b + 1, rfl, by omega, hlt, ?_, (hS.drewN _).put (b + 1), (hF.drewN _).setCell (.inl rfl) _⟩
          rw [← HD.out, sfx_cons s b hlt, List.dropWhile_cons, HP.out]
          simp
    · have hi1 : (s.size : Int) ≤ b := by omega
      go_wp2
      go_quiet (fail)
      go_wp2
      go_ret
      refine ⟨b, hab, hb, ?_, rfl, hS.drewN _, hF.drewN _⟩
      rw [← HD.out, sfx_end s b (by omega)]
      rfl
end Go.Proofs.YtonblegbnkfhbaaDoor
