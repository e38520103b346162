/-
  What the world holds while the lexer runs: the library's tables; the scanner's block. The lexer's small functions, walked: letter, digit, a name's byte, peek, rune, hex. The lexer's 'while', walked, at its two functions. The lexer's 'gap', walked. The lexer's 'number', walked. The lexer's 'hex', walked.
-/
import Derived.Test.YtmgoebfcfgilfaaGreatDoorZi6
import Derived.Test.YtmgoebfcfgilfaaGreatDoorZi3
import Derived.Test.YtmgoebfcfgilfaaGreatDoorZi9
import Derived.Test.YtmgoebfcfgilfaaGreatDoorZi7
import Derived.Outline
import Derived.Deep.LoopGhost
import Derived.Deep.DeepCutAuto
namespace Go.Proofs.YtmgoebfcfgilfaaGreatDoor
set_option linter.unusedSimpArgs false
set_option linter.unusedVariables false
open Go Go.RowKit

/-- The library's variables hold what their initialisers lay. -/
def Env (w : World) : Prop :=
  Lib.Utf8Tabs 0 1 w ∧ ∃ m, w.cell? ⟨2, 0, none⟩ = some (.int .i64 m)

theorem cell_lt {w : World} {a : Addr} {v : Value} (h : w.cell? a = some v) : a.block < w.heap.size := by
  unfold World.cell? at h
  rcases Nat.lt_or_ge a.block w.heap.size with h' | h'
  · exact h'
  · simp [Array.getElem?_eq_none h'] at h

theorem Env.but {X : Nat → Prop} {w w' : World} (h : Env w) (hb : But X w w') (hx : ∀ k, X k → 3 ≤ k) : Env w' := by
  obtain ⟨⟨h1, h2⟩, m, h3⟩ := h
  refine ⟨⟨fun c hc => ?_, fun i hi => ⟨?_, ?_⟩⟩, m, ?_⟩
  · rw [hb.cell (cell_lt (h1 c hc)) (fun x => by have := hx _ x; simp at this)]; exact h1 c hc
  · rw [hb.cell (cell_lt (h2 i hi).1) (fun x => by have := hx _ x; simp at this)]; exact (h2 i hi).1
  · rw [hb.cell (cell_lt (h2 i hi).2) (fun x => by have := hx _ x; simp at this)]; exact (h2 i hi).2
  · rw [hb.cell (cell_lt h3) (fun x => by have := hx _ x; simp at this)]; exact h3

theorem Env.below {w w' : World} (h : Env w) (hb : Below w.heap.size w w') : Env w' := h.but (X := fun _ => False) (But.of_below hb) (fun _ f => f.elim)
theorem Env.drewN {w : World} (h : Env w) (n : Nat) : Env (w.drewN n) := h.but (X := fun _ => False) ((But.refl _ w).drewN n) (fun _ f => f.elim)

/-- The scanner's block: the text, the place. -/
def Scan (w : World) (bx : Nat) (s : ByteArray) (a : Nat) : Prop := w.heap[bx]? = some (.cells #[.string s, .int .i64 a] 210 (0, 0))

theorem Scan.c0 {w : World} {bx : Nat} {s : ByteArray} {a : Nat} (h : Scan w bx s a) : w.cell? ⟨bx, 0, none⟩ = some (.string s) := by
  unfold Scan at h; simp [World.cell?, h]
theorem Scan.c1 {w : World} {bx : Nat} {s : ByteArray} {a : Nat} (h : Scan w bx s a) : w.cell? ⟨bx, 1, none⟩ = some (.int .i64 a) := by
  unfold Scan at h; simp [World.cell?, h]
theorem Scan.f1 {w : World} {bx : Nat} {s : ByteArray} {a : Nat} (h : Scan w bx s a) : w.frozen? ⟨bx, 1, none⟩ = false := by
  unfold Scan at h; simp [World.frozen?, h]
theorem Scan.lt {w : World} {bx : Nat} {s : ByteArray} {a : Nat} (h : Scan w bx s a) : bx < w.heap.size := cell_lt h.c0
theorem Scan.put {w : World} {bx : Nat} {s : ByteArray} {a : Nat} (h : Scan w bx s a) (b : Nat) : Scan (w.setCell ⟨bx, 1, none⟩ (.int .i64 b)) bx s b := by
  unfold Scan at *; simp [World.setCell, Array.getElem?_modify, h]
theorem Scan.drewN {w : World} {bx : Nat} {s : ByteArray} {a : Nat} (h : Scan w bx s a) (n : Nat) : Scan (w.drewN n) bx s a := h
theorem Scan.drew {w : World} {bx : Nat} {s : ByteArray} {a : Nat} (h : Scan w bx s a) : Scan w.drew bx s a := h
theorem Scan.but {X : Nat → Prop} {w w' : World} {bx : Nat} {s : ByteArray} {a : Nat} (h : Scan w bx s a) (hb : But X w w') (hx : ¬ X bx) : Scan w' bx s a := by
  unfold Scan at *; rw [hb.block bx (Scan.lt h) hx]; exact h
theorem Scan.below {w w' : World} {bx : Nat} {s : ByteArray} {a : Nat} (h : Scan w bx s a) (hb : Below w.heap.size w w') : Scan w' bx s a := by
  have h' := h; unfold Scan at *; rw [hb.block bx (Scan.lt h')]; exact h

/-- The frame of a scanner's method. -/
abbrev Fr (bx : Nat) (w w' : World) : Prop := But (fun k => k = bx) w w'
theorem Fr.set {bx : Nat} {w w' : World} (h : Fr bx w w') (o : Nat) (v : Value) : Fr bx w (w'.setCell ⟨bx, o, none⟩ v) := But.setCell h (.inl rfl) v
theorem Env.fr {w w' : World} {bx : Nat} (h : Env w) (hb : Fr bx w w') (h3 : 3 ≤ bx) : Env w' := h.but hb (fun k hk => by rw [hk]; exact h3)

end Go.Proofs.YtmgoebfcfgilfaaGreatDoor
namespace Go.Proofs.YtmgoebfcfgilfaaGreatDoor
set_option linter.unusedSimpArgs false
set_option linter.unusedVariables false
open Go Go.RowKit

def orLet (n : Nat) : Bool := (bits BinOp.or IntKind.u8 (n : Int) 32 : Int) == (((UInt8.ofNat n) ||| 32).toNat : Int)
theorem or32 (c : UInt8) : bits BinOp.or IntKind.u8 (c.toNat : Int) 32 = ((c ||| 32).toNat : Int) := by
  have h : ∀ n : Fin 256, orLet n.val = true := by decide +kernel
  have := h ⟨c.toNat, UInt8.toNat_lt c⟩
  simpa [orLet] using this

set_option maxHeartbeats 400000 in
theorem letter_any (c : UInt8) (w : World) :
    Calls Tryz.prog 189 #[.int .u8 c.toNat] w fun e w' => e = .returned (.bool (Lx.isLetter c)) ∧ w' = w := by
  have h32 := Lib.hid (or32 c)
  go_enter Tryz.func189, Tryz.ntmps189
  go_wp2
  all_goals go_ret
  all_goals refine ⟨ret_bool ?_, rfl⟩
  all_goals rw [Bool.eq_iff_iff]
  all_goals simp only [beq_iff_eq, Lx.isLetter, Bool.or_eq_true, Bool.and_eq_true, decide_eq_true_eq, Bool.false_eq_true, false_iff, true_iff, iff_true, iff_false]
  all_goals (try simp only [h32.out] at *)
  all_goals omega

set_option maxHeartbeats 400000 in
theorem digit_any (c : UInt8) (w : World) :
    Calls Tryz.prog 190 #[.int .u8 c.toNat] w fun e w' => e = .returned (.bool (Lx.isDigit c)) ∧ w' = w := by
  go_enter Tryz.func190, Tryz.ntmps190
  go_wp2
  all_goals go_ret
  all_goals refine ⟨ret_bool ?_, rfl⟩
  all_goals rw [Bool.eq_iff_iff]
  all_goals simp only [Lx.isDigit, Bool.and_eq_true, decide_eq_true_eq, Bool.false_eq_true, false_iff, true_iff]
  all_goals omega

abbrev isWord := Lx.isWord
set_option maxHeartbeats 400000 in
theorem word_any (c : UInt8) (w : World) :
    Calls Tryz.prog 207 #[.int .u8 c.toNat] w fun e w' => e = .returned (.bool (isWord c)) ∧ w' = w := by
  go_enter Tryz.func207, Tryz.ntmps207
  go_wp2_with (first | (go_at_call 189; refine (letter_any _ _).mono ?_; rintro e w' ⟨rfl, rfl⟩) | (go_at_call 190; refine (digit_any _ _).mono ?_; rintro e w' ⟨rfl, rfl⟩))
  all_goals go_ret
  all_goals refine ⟨ret_bool ?_, rfl⟩
  all_goals simp_all [Lx.isWord]

set_option maxHeartbeats 400000 in
theorem peek_any (bx : Nat) (s : ByteArray) (a k : Nat) (w : World) (hs : s.size ≤ 4096) (hat : a ≤ s.size) (hk : k ≤ 10) (h : Scan w bx s a) :
    Calls Tryz.prog 205 #[.pointer (some ⟨bx, 0, none⟩), .int .i64 k] w fun e w' => e = .returned (.int .u8 (bt s (a + k)).toNat) ∧ ∃ n, w' = w.drewN n := by
  have h0 := h.c0; have h1 := h.c1; clear h
  by_cases hlt : a + k < s.size
  · go_enter Tryz.func205, Tryz.ntmps205
    go_wp2
    go_quiet (fail)
    go_wp2
    go_quiet (fail)
    go_wp2
    go_ret
    exact ⟨rfl, _, World.drewN_drewN _ _ _⟩
  · go_enter Tryz.func205, Tryz.ntmps205
    go_wp2
    go_quiet (fail)
    go_wp2
    go_ret
    exact ⟨ret_int (by rw [bt_end _ _ (by omega)]; rfl), _, rfl⟩

theorem peek0_any (bx : Nat) (s : ByteArray) (a : Nat) (w : World) (hs : s.size ≤ 4096) (hat : a ≤ s.size) (h : Scan w bx s a) :
    Calls Tryz.prog 205 #[.pointer (some ⟨bx, 0, none⟩), .int .i64 0] w fun e w' => e = .returned (.int .u8 (bt s a).toNat) ∧ ∃ n, w' = w.drewN n := peek_any bx s a 0 w hs hat (by omega) h
theorem peek1_any (bx : Nat) (s : ByteArray) (a : Nat) (w : World) (hs : s.size ≤ 4096) (hat : a ≤ s.size) (h : Scan w bx s a) :
    Calls Tryz.prog 205 #[.pointer (some ⟨bx, 0, none⟩), .int .i64 1] w fun e w' => e = .returned (.int .u8 (bt s (a + 1)).toNat) ∧ ∃ n, w' = w.drewN n := peek_any bx s a 1 w hs hat (by omega) h

theorem extract_sfx (s : ByteArray) (a : Nat) : s.extract a s.size = ⟨(sfx s a).toArray⟩ := by
  have h : (s.extract a s.size).data = (sfx s a).toArray := by
    apply Array.ext'
    simp only [ByteArray.data_extract, Array.toList_extract, sfx, List.extract_eq_take_drop]
    exact List.take_of_length_le (by simp)
  cases h' : s.extract a s.size
  simp_all

set_option maxHeartbeats 400000 in
set_option maxRecDepth 100000 in
theorem rune_any (bx : Nat) (s : ByteArray) (a : Nat) (w : World) (hs : s.size ≤ 4096) (hat : a ≤ s.size) (h : Scan w bx s a) (hE : Env w) :
    Calls Tryz.prog 204 #[.pointer (some ⟨bx, 0, none⟩)] w fun e w' => e = .returned (.tuple #[.int .i32 (Lx.rune (sfx s a)).1, .int .i64 (Lx.rune (sfx s a)).2]) ∧ Below w.heap.size w w' := by
  have hr := Lx.rune_decode (sfx s a)
  have h0 := h.c0; have h1 := h.c1
  have hx := extract_sfx s a
  have hT : Lib.Utf8Tabs 0 1 w := hE.1
  have HT : Hid (∀ n, Lib.Utf8Tabs 0 1 (w.drewN n)) := fun n => hT; have HR := Lib.hid hr
  clear h hE hT hr
  go_enter Tryz.func204, Tryz.ntmps204
  go_wp2
  refine wp_region_cuts [9] (by kernel_rfl) (by kernel_rfl) ?_; simp only [wpMix, List.take_succ_cons, List.take_zero, List.drop_succ_cons, List.drop_zero, Nat.sub_zero, Nat.reduceSub, Nat.reduceAdd]
  repeat (go_big_quiet_step (fail))
  refine wpQuiet_nil ?_; rintro _ ⟨nq, rfl⟩
  go_wp2_with fail
  refine (Tryz.utf8_DecodeRuneInString _ _ (HT.out nq)).mono ?_
  rintro e w1 ⟨rfl, hb0⟩
  have hb := Below.undrew hb0
  clear hb0
  go_wp2
  repeat (go_big_quiet_step (fail))
  rename_i q0
  refine wpQuiet_nil ?_; rintro _ ⟨nq, rfl⟩
  go_wp2
  all_goals go_ret2
  · have e : Lx.rune (sfx s a) = (0, 0) := by rw [← HR.out]; unfold Lx.clip; rw [if_pos ⟨by omega, by omega⟩]
    rw [e]
    exact ⟨rfl, Below.drewN hb _⟩
  · have e : Lx.rune (sfx s a) = Lib.decodeGo ⟨(sfx s a).toArray⟩ := by rw [← HR.out]; unfold Lx.clip; rw [if_neg (by omega)]
    have e1 : (Lib.decodeGo ⟨(sfx s a).toArray⟩).1 = 65533 := by omega
    rw [e, e1]
    exact ⟨rfl, Below.drewN hb _⟩
  · have e : Lx.rune (sfx s a) = Lib.decodeGo ⟨(sfx s a).toArray⟩ := by rw [← HR.out]; unfold Lx.clip; rw [if_neg (by omega)]
    rw [e]
    exact ⟨rfl, Below.drewN hb _⟩
end Go.Proofs.YtmgoebfcfgilfaaGreatDoor
namespace Go.Proofs.YtmgoebfcfgilfaaGreatDoor
set_option linter.unusedSimpArgs false
set_option linter.unusedVariables false
open Go Go.RowKit

set_option maxHeartbeats 400000 in
set_option maxRecDepth 100000 in
theorem while_digit (bx : Nat) (s : ByteArray) (a : Nat) (w : World) (hs : s.size ≤ 4096) (hat : a ≤ s.size) (h : Scan w bx s a) :
    Calls Tryz.prog 206 #[.pointer (some ⟨bx, 0, none⟩), .func (.func 190) #[] #[]] w fun e w' => ∃ b, a ≤ b ∧ b ≤ s.size ∧ sfx s b = (sfx s a).dropWhile Lx.isDigit ∧ e = .returned (.int .i64 ((b : Int) - a)) ∧ Scan w' bx s b ∧ Fr bx w w' := by
  have HS := Lib.hid h
  have h0 := h.c0; have h1 := h.c1
  clear h
  go_enter Tryz.func206, Tryz.ntmps206
  go_wp2
  go_loopg [] (s.size - a) (fun k wr => ∃ b, k = s.size - b ∧ a ≤ b ∧ b ≤ s.size ∧ (sfx s b).dropWhile Lx.isDigit = (sfx s a).dropWhile Lx.isDigit ∧ Scan wr bx s b ∧ Fr bx w wr)
  case atStart => exact ⟨a, rfl, Nat.le_refl _, hat, rfl, HS.out, But.refl _ _⟩
  case round =>
    obtain ⟨b, hk, hab, hb, hd, hS, hF⟩ := hrel
    have c0 := hS.c0; have c1 := hS.c1; have f1 := hS.f1
    have HD := Lib.hid hd; have HK := Lib.hid hk
    clear hd hk h0 h1
    by_cases hlt : b < s.size
    · have hi0 : (0 : Int) ≤ (b : Int) := Int.natCast_nonneg _
      have hi1 : (b : Int) < s.size := by omega
      cases hp : Lx.isDigit (bt s b)
      · have HP := Lib.hid hp
        go_wp2
        go_quiet ((refine Calls.quiet_of_same (v := .bool false) ((digit_any (bt s b) _).mono ?_); rintro e w' ⟨rfl, hw⟩; exact ⟨by rw [HP.out], hw⟩))
        go_wp2
        go_ret
        refine ⟨b, hab, hb, ?_, rfl, hS.drewN _, hF.drewN _⟩
        rw [← HD.out, sfx_cons s b hlt, List.dropWhile_cons, HP.out]
        simp
      · have HP := Lib.hid hp
        clear hp
        go_wp2
        go_quiet ((refine Calls.quiet_of_same (v := .bool true) ((digit_any (bt s b) _).mono ?_); rintro e w' ⟨rfl, hw⟩; exact ⟨by rw [HP.out], hw⟩))
        go_wp2
        go_roundg (s.size - (b + 1))
        case measure => rw [HK.out]; omega
        case rel =>
          refine ⟨b + 1, rfl, by omega, hlt, ?_, (hS.drewN _).put (b + 1), (hF.drewN _).setCell (.inl rfl) _⟩
          rw [← HD.out, sfx_cons s b hlt, List.dropWhile_cons, HP.out]
          simp
    · have hi1 : (s.size : Int) ≤ b := by omega
      go_wp2
      go_quiet (fail)
      go_wp2
      go_ret
      refine ⟨b, hab, hb, ?_, rfl, hS.drewN _, hF.drewN _⟩
      rw [← HD.out, sfx_end s b (by omega)]
      rfl
set_option maxHeartbeats 400000 in
set_option maxRecDepth 100000 in
theorem while_word (bx : Nat) (s : ByteArray) (a : Nat) (w : World) (hs : s.size ≤ 4096) (hat : a ≤ s.size) (h : Scan w bx s a) :
    Calls Tryz.prog 206 #[.pointer (some ⟨bx, 0, none⟩), .func (.func 207) #[] #[]] w fun e w' => ∃ b, a ≤ b ∧ b ≤ s.size ∧ sfx s b = (sfx s a).dropWhile isWord ∧ e = .returned (.int .i64 ((b : Int) - a)) ∧ Scan w' bx s b ∧ Fr bx w w' := by
  have HS := Lib.hid h
  have h0 := h.c0; have h1 := h.c1
  clear h
  go_enter Tryz.func206, Tryz.ntmps206
  go_wp2
  go_loopg [] (s.size - a) (fun k wr => ∃ b, k = s.size - b ∧ a ≤ b ∧ b ≤ s.size ∧ (sfx s b).dropWhile isWord = (sfx s a).dropWhile isWord ∧ Scan wr bx s b ∧ Fr bx w wr)
  case atStart => exact ⟨a, rfl, Nat.le_refl _, hat, rfl, HS.out, But.refl _ _⟩
  case round =>
    obtain ⟨b, hk, hab, hb, hd, hS, hF⟩ := hrel
    have c0 := hS.c0; have c1 := hS.c1; have f1 := hS.f1
    have HD := Lib.hid hd; have HK := Lib.hid hk
    clear hd hk h0 h1
    by_cases hlt : b < s.size
    · have hi0 : (0 : Int) ≤ (b : Int) := Int.natCast_nonneg _
      have hi1 : (b : Int) < s.size := by omega
      cases hp : isWord (bt s b)
      · have HP := Lib.hid hp
        go_wp2
        go_quiet ((refine Calls.quiet_of_same (v := .bool false) ((word_any (bt s b) _).mono ?_); rintro e w' ⟨rfl, hw⟩; exact ⟨by rw [HP.out], hw⟩))
        go_wp2
        go_ret
        refine ⟨b, hab, hb, ?_, rfl, hS.drewN _, hF.drewN _⟩
        rw [← HD.out, sfx_cons s b hlt, List.dropWhile_cons, HP.out]
        simp
      · have HP := Lib.hid hp
        clear hp
        go_wp2
        go_quiet ((refine Calls.quiet_of_same (v := .bool true) ((word_any (bt s b) _).mono ?_); rintro e w' ⟨rfl, hw⟩; exact ⟨by rw [HP.out], hw⟩))
        go_wp2
        go_roundg (s.size - (b + 1))
        case measure => rw [HK.out]; omega
        case rel =>
          refine ⟨b + 1, rfl, by omega, hlt, ?_, (hS.drewN _).put (b + 1), (hF.drewN _).setCell (.inl rfl) _⟩
          rw [← HD.out, sfx_cons s b hlt, List.dropWhile_cons, HP.out]
          simp
    · have hi1 : (s.size : Int) ≤ b := by omega
      go_wp2
      go_quiet (fail)
      go_wp2
      go_ret
      refine ⟨b, hab, hb, ?_, rfl, hS.drewN _, hF.drewN _⟩
      rw [← HD.out, sfx_end s b (by omega)]
      rfl
end Go.Proofs.YtmgoebfcfgilfaaGreatDoor
namespace Go.Proofs.YtmgoebfcfgilfaaGreatDoor
set_option linter.unusedSimpArgs false
set_option linter.unusedVariables false
open Go Go.RowKit

set_option maxHeartbeats 4000000 in
set_option maxRecDepth 100000 in
theorem gap_any (bx : Nat) (s : ByteArray) (a : Nat) (w : World) (hs : s.size ≤ 4096) (hat : a ≤ s.size) (h : Scan w bx s a) (hE : Env w) (h3 : 3 ≤ bx) :
    Calls Tryz.prog 143 #[.pointer (some ⟨bx, 0, none⟩)] w fun e w' => ∃ b r, a ≤ b ∧ b ≤ s.size ∧ Lx.gap (decide (a = 0)) (sfx s a) = (sfx s b, r) ∧ e = .returned (.bool r) ∧ Scan w' bx s b ∧ Fr bx w w' := by
  go_enter Tryz.func143, Tryz.ntmps143
  go_wp2
  go_loopg [] (s.size - a) (fun k wr => ∃ b, k = s.size - b ∧ a ≤ b ∧ b ≤ s.size ∧ Lx.gap (decide (b = 0)) (sfx s b) = Lx.gap (decide (a = 0)) (sfx s a) ∧ Scan wr bx s b ∧ Fr bx w wr)
  case atStart => exact ⟨a, rfl, Nat.le_refl _, hat, rfl, h, But.refl _ _⟩
  case round =>
    obtain ⟨b, hk, hab, hb, hd, hS, hF⟩ := hrel
    obtain ⟨wo, rfl⟩ : ∃ wo : World, wo = wr := ⟨_, rfl⟩
    have hE0 := Lib.hid hE
    have c0 := hS.c0; have c1 := hS.c1; have f1 := hS.f1
    have HD := Lib.hid hd; have HK := Lib.hid hk
    clear hd hk h hE
    by_cases hlt : b < s.size
    · have hi0 : (0 : Int) ≤ (b : Int) := Int.natCast_nonneg _
      have hi1 : (b : Int) < s.size := by omega
      have HC := Lib.hid (sfx_cons s b hlt)
      cases hbl : Lx.isBlank (bt s b)
      · have hn := hbl
        simp only [Lx.isBlank, Bool.or_eq_false_iff, decide_eq_false_iff_not] at hn
        obtain ⟨⟨⟨⟨n1, n2⟩, n3⟩, n4⟩, n5⟩ := hn
        have e1 := eqF (n := (bt s b).toNat) (k := 32) (by omega); have e2 := eqF (n := (bt s b).toNat) (k := 9) (by omega); have e3 := eqF (n := (bt s b).toNat) (k := 10) (by omega)
        have e4 := eqF (n := (bt s b).toNat) (k := 13) (by omega); have e5 := eqF (n := (bt s b).toNat) (k := 44) (by omega)
        have HBL := Lib.hid hbl
        clear hbl n1 n2 n3 n4 n5
        by_cases hbom : b = 0 ∧ Lx.bom (sfx s b) = true
        · obtain ⟨rfl, hbm⟩ := hbom
          have hsz : 3 ≤ s.size := by
            have h1 := hbm
            rw [Lx.bom, decide_eq_true_eq] at h1
            have h2 := congrArg List.length h1
            rw [List.length_take, sfx_len] at h2
            simp at h2; omega
          have hpr : Lib.hasPrefix s.data.toList [239, 187, 191] = true := by rw [← Lx.bom_prefix, ← sfx_all]; exact hbm
          have c1' : wo.cell? ⟨bx, 1, none⟩ = some (.int .i64 0) := c1
          have HBM := Lib.hid hbm
          have HPR := Lib.hid hpr
          clear c1 hbm hpr
          go_wp2
          go_quiet (fail)
          go_wp2
          go_quiet (fail)
          go_wp2_with (go_at_call 203; refine (Tryz.strings_HasPrefix _ _ _).mono ?_; rintro e w' ⟨rfl, rfl⟩; rw [HPR.out])
          go_roundg (s.size - 3)
          case measure => rw [HK.out]; omega
          case rel =>
            refine ⟨3, rfl, by omega, hsz, ?_, (hS.drewN _).put 3, by (repeat' (first | (with_reducible assumption) | (with_reducible exact But.refl _ _) | (with_reducible refine But.drewN ?_ _) | (with_reducible refine But.drew ?_) | (with_reducible refine Fr.set ?_ _ _) | (with_reducible refine But.alloc ?_ _)))⟩
            rw [← HD.out]
            have hg := Lx.gap_bom HBL.out (t := sfx s 1) (by have := HBM.out; rwa [sfx_cons s 0 hlt] at this)
            have e0 : sfx s 0 = bt s 0 :: sfx s 1 := HC.out
            rw [e0]
            refine Eq.trans ?_ hg.symm
            rw [← e0, sfx_drop]
            rfl
        · have hcase : (((b : Int) == 0) = true ∧ Lib.hasPrefix s.data.toList [239, 187, 191] = false) ∨ ((b : Int) == 0) = false := by
            by_cases hb0 : b = 0
            · refine .inl ⟨eqT (by omega), ?_⟩
              rw [← Lx.bom_prefix, ← sfx_all]
              subst hb0
              simpa using hbom
            · exact .inr (eqF (by omega))
          have HP : Hid (¬ (decide (b = 0) = true ∧ Lx.bom (bt s b :: sfx s (b + 1)) = true)) := by
            rw [← HC.out]
            intro h
            exact hbom ⟨by simpa using h.1, h.2⟩
          clear hbom
          by_cases h35 : (bt s b).toNat = 35
          · have H35 := Lib.hid h35
            have e6 := eqT (n := (bt s b).toNat) (k := 35) (by omega)
            clear h35
            rcases hcase with ⟨e0, hpr⟩ | e0
            all_goals
              try (have HPR := Lib.hid hpr; clear hpr)
              go_wp2
              go_quiet (fail)
              go_wp2
              go_quiet (fail)
              go_wp2_with (go_at_call 203; refine (Tryz.strings_HasPrefix _ _ _).mono ?_; rintro e w' ⟨rfl, rfl⟩; rw [HPR.out])
              clear c0 c1 f1 e0 e1 e2 e3 e4 e5 e6
              go_loopg [] (s.size - b) (fun k wi => ∃ d, k = s.size - d ∧ b ≤ d ∧ d ≤ s.size ∧ Lx.remark (sfx s d) = Lx.remark (sfx s (b + 1)) ∧ Scan wi bx s d ∧ Fr bx w wi)
              case atStart => exact ⟨b, rfl, Nat.le_refl _, hb, by rw [HC.out, Lx.remark_hash H35.out], by (repeat' (first | (with_reducible assumption) | (with_reducible refine Scan.drewN ?_ _) | (with_reducible refine Scan.drew ?_))), by (repeat' (first | (with_reducible assumption) | (with_reducible exact But.refl _ _) | (with_reducible refine But.drewN ?_ _) | (with_reducible refine But.drew ?_) | (with_reducible refine Fr.set ?_ _ _) | (with_reducible refine But.alloc ?_ _)))⟩
              case round =>
                obtain ⟨d, hk, hbd, hd, hm, hS', hF'⟩ := hrel
                have hE' := hE0.out.fr hF' h3
                have c0 := hS'.c0; have c1 := hS'.c1; have f1 := hS'.f1
                have HM := Lib.hid hm; have HK2 := Lib.hid hk
                clear hm hk
                by_cases hdl : d < s.size
                · have hi0 : (0 : Int) ≤ (d : Int) := Int.natCast_nonneg _
                  have hi1 : (d : Int) < s.size := by omega
                  have HCd := Lib.hid (sfx_cons s d hdl)
                  by_cases hnl : (bt s d).toNat = 10 ∨ (bt s d).toNat = 13
                  · have hbd' : b < d := by
                      rcases Nat.lt_or_ge b d with h' | h'
                      · exact h'
                      · have hbe : d = b := by omega
                        rw [hbe, H35.out] at hnl
                        omega
                    have HNL := Lib.hid hnl
                    have hcase2 : (((bt s d).toNat : Int) != 10) = false ∨ (((bt s d).toNat : Int) != 10) = true ∧ (((bt s d).toNat : Int) != 13) = false := by
                      rcases hnl with h' | h'
                      · exact .inl (neF (by omega))
                      · exact .inr ⟨neT (by omega), neF (by omega)⟩
                    clear hnl
                    rcases hcase2 with e1 | ⟨e1, e2⟩
                    all_goals
                      go_wp2
                      go_quiet (fail)
                      go_wp2
                      go_roundg (s.size - d)
                      case measure => rw [HK.out]; omega
                      case rel =>
                        refine ⟨d, rfl, by omega, hd, ?_, by (repeat' (first | (with_reducible assumption) | (with_reducible refine Scan.drewN ?_ _) | (with_reducible refine Scan.drew ?_))), by (repeat' (first | (with_reducible assumption) | (with_reducible exact But.refl _ _) | (with_reducible refine But.drewN ?_ _) | (with_reducible refine But.drew ?_) | (with_reducible refine Fr.set ?_ _ _) | (with_reducible refine But.alloc ?_ _)))⟩
                        rw [← HD.out, HC.out, Lx.gap_rem H35.out, ← HM.out, HCd.out, Lx.remark_end HNL.out, if_pos rfl, decide_eq_false (by omega)]
                  · have e1 := neT (n := (bt s d).toNat) (k := 10) (by omega)
                    have e2 := neT (n := (bt s d).toNat) (k := 13) (by omega)
                    have HNL := Lib.hid hnl
                    have hn4 := Lx.rune_le4 (sfx s d)
                    have hnl2 := Lx.rune_len (sfx s d)
                    rw [sfx_len] at hnl2
                    clear hnl
                    rcases Lx.ctl_cases (Lx.rune (sfx s d)).1 (Lx.rune (sfx s d)).2 with ⟨q1, q4⟩ | ⟨q1, q2, q3, q4⟩ | ⟨q1, q2, q3, q4⟩ | ⟨q1, q2, q4⟩
                    all_goals
                      have Q4 := Lib.hid q4
                      clear q4
                      go_wp2
                      go_quiet (fail)
                      go_wp2_with fail
                      refine (rune_any bx s d _ hs hd (by (repeat' (first | (with_reducible assumption) | (with_reducible refine Scan.drewN ?_ _) | (with_reducible refine Scan.drew ?_)))) (hE'.drewN _)).mono ?_
                      rintro e w1 ⟨rfl, hb1⟩
                      have hb2 := Below.undrew hb1
                      have hS1 := hS'.below hb2
                      have hF1 : Fr bx w w1 := hF'.trans (But.of_below hb2)
                      clear hb1 c0 c1 f1
                      have c0 := hS1.c0; have c1 := hS1.c1; have f1 := hS1.f1
                      go_wp2
                      first
                      | (go_ret
                         refine ⟨d, false, by omega, hd, ?_, rfl, by (repeat' (first | (with_reducible assumption) | (with_reducible refine Scan.drewN ?_ _) | (with_reducible refine Scan.drew ?_))), by (repeat' (first | (with_reducible assumption) | (with_reducible exact But.refl _ _) | (with_reducible refine But.drewN ?_ _) | (with_reducible refine But.drew ?_) | (with_reducible refine Fr.set ?_ _ _) | (with_reducible refine But.alloc ?_ _)))⟩
                         rw [← HD.out, HC.out, Lx.gap_rem H35.out, ← HM.out, HCd.out, Lx.remark_bad HNL.out (by rw [← HCd.out]; exact Q4.out)]
                         rfl)
                      | (have q5 : (Lx.rune (sfx s d)).2 ≠ 0 := fun h => Q4.out (.inl h)
                         go_roundg (s.size - (d + (Lx.rune (sfx s d)).2))
                         case measure => rw [HK2.out]; omega
                         case rel =>
                           refine ⟨d + (Lx.rune (sfx s d)).2, rfl, by omega, by omega, ?_, hS1.put _, by (repeat' (first | (with_reducible assumption) | (with_reducible exact But.refl _ _) | (with_reducible refine But.drewN ?_ _) | (with_reducible refine But.drew ?_) | (with_reducible refine Fr.set ?_ _ _) | (with_reducible refine But.alloc ?_ _)))⟩
                           rw [← HM.out, ← sfx_drop]
                           have := Lx.remark_go HNL.out (t := sfx s (d + 1)) (by rw [← HCd.out]; exact Q4.out)
                           rw [← HCd.out] at this
                           exact this.symm)
                · have hi1 : (s.size : Int) ≤ d := by omega
                  go_wp2
                  go_quiet (fail)
                  go_wp2
                  go_roundg (s.size - d)
                  case measure => rw [HK.out]; omega
                  case rel =>
                    refine ⟨d, rfl, by omega, hd, ?_, by (repeat' (first | (with_reducible assumption) | (with_reducible refine Scan.drewN ?_ _) | (with_reducible refine Scan.drew ?_))), by (repeat' (first | (with_reducible assumption) | (with_reducible exact But.refl _ _) | (with_reducible refine But.drewN ?_ _) | (with_reducible refine But.drew ?_) | (with_reducible refine Fr.set ?_ _ _) | (with_reducible refine But.alloc ?_ _)))⟩
                    rw [← HD.out, HC.out, Lx.gap_rem H35.out, ← HM.out, sfx_end s d (by omega), Lx.remark_nil, if_pos rfl, decide_eq_false (by omega)]
          · have e6 := eqF (n := (bt s b).toNat) (k := 35) (by omega)
            have H35 := Lib.hid h35
            clear h35
            rcases hcase with ⟨e0, hpr⟩ | e0
            all_goals
              try (have HPR := Lib.hid hpr; clear hpr)
              go_wp2
              go_quiet (fail)
              go_wp2
              go_quiet (fail)
              go_wp2_with (go_at_call 203; refine (Tryz.strings_HasPrefix _ _ _).mono ?_; rintro e w' ⟨rfl, rfl⟩; rw [HPR.out])
              go_ret
              refine ⟨b, true, hab, hb, ?_, rfl, by (repeat' (first | (with_reducible assumption) | (with_reducible refine Scan.drewN ?_ _) | (with_reducible refine Scan.drew ?_))), by (repeat' (first | (with_reducible assumption) | (with_reducible exact But.refl _ _) | (with_reducible refine But.drewN ?_ _) | (with_reducible refine But.drew ?_) | (with_reducible refine Fr.set ?_ _ _) | (with_reducible refine But.alloc ?_ _)))⟩
              rw [← HD.out, HC.out]
              exact Lx.gap_stop HBL.out HP.out H35.out
      · have hn := hbl
        simp only [Lx.isBlank, Bool.or_eq_true, decide_eq_true_eq] at hn
        have HBL := Lib.hid hbl
        clear hbl
        rcases hn with (((hn | hn) | hn) | hn) | hn
        all_goals
          go_wp2
          go_quiet (fail)
          go_wp2
          go_quiet (fail)
          go_wp2
          go_roundg (s.size - (b + 1))
          case measure => rw [HK.out]; omega
          case rel =>
            refine ⟨b + 1, rfl, by omega, hlt, ?_, (hS.drewN _).put (b + 1), by (repeat' (first | (with_reducible assumption) | (with_reducible exact But.refl _ _) | (with_reducible refine But.drewN ?_ _) | (with_reducible refine But.drew ?_) | (with_reducible refine Fr.set ?_ _ _) | (with_reducible refine But.alloc ?_ _)))⟩
            rw [← HD.out, HC.out, Lx.gap_blank HBL.out]
            rfl
    · have hi1 : (s.size : Int) ≤ b := by omega
      go_wp2
      go_quiet (fail)
      go_wp2
      go_ret
      refine ⟨b, true, hab, hb, ?_, rfl, hS.drewN _, hF.drewN _⟩
      rw [← HD.out, sfx_end s b (by omega), Lx.gap_nil]
end Go.Proofs.YtmgoebfcfgilfaaGreatDoor
namespace Go.Proofs.YtmgoebfcfgilfaaGreatDoor
set_option linter.unusedSimpArgs false
set_option linter.unusedVariables false
open Go Go.RowKit

theorem hd_sfx (s : ByteArray) (n : Nat) : Lx.hd (sfx s n) = bt s n := by
  have := sfx_getD s n 0
  unfold Lx.hd
  cases h : sfx s n with
  | nil => rw [h] at this; simpa using this
  | cons c t => rw [h] at this; simpa using this

/-- What 'number' leaves. -/
def NumPost (bx : Nat) (s : ByteArray) (a : Nat) (w : World) (e : Ending) (w' : World) : Prop :=
  ∃ b, a ≤ b ∧ b ≤ s.size ∧ Scan w' bx s b ∧ Fr bx w w' ∧
    ((∃ k : Nat, Lx.number (sfx s a) = some (k, sfx s b) ∧ (k = 2 ∨ k = 3) ∧ e = .returned (.int .i64 k)) ∨ (Lx.number (sfx s a) = none ∧ e = .returned (.int .i64 0)))

set_option maxHeartbeats 4000000 in
set_option maxRecDepth 100000 in
theorem number_any (bx : Nat) (s : ByteArray) (a : Nat) (w : World) (hs : s.size ≤ 4096) (hat : a ≤ s.size) (h : Scan w bx s a) :
    Calls Tryz.prog 208 #[.pointer (some ⟨bx, 0, none⟩)] w (NumPost bx s a w) := by
  go_enter Tryz.func208, Tryz.ntmps208
  go_wp2_with fail; refine (peek0_any bx s a _ hs (by omega) (by (repeat' (first | (with_reducible assumption) | (with_reducible refine Scan.drewN ?_ _) | (with_reducible refine Scan.drew ?_))))).mono ?_; rintro e w' ⟨rfl, n1, rfl⟩
  go_upto_if 10 with (fail)
  go_cut [] (fun wx => ∃ b, a ≤ b ∧ b ≤ s.size ∧ sfx s b = (if (Lx.hd (sfx s a)).toNat = 45 then (sfx s a).drop 1 else sfx s a) ∧ Scan wx bx s b ∧ Fr bx w wx)
  case first =>
    have c0 := h.c0; have c1 := h.c1; have f1 := h.f1
    by_cases h45 : (bt s a).toNat = 45
    · have e1 := eqT (n := (bt s a).toNat) (k := 45) (by omega)
      have H45 := Lib.hid h45
      clear h45
      have hlt : a < s.size := by
        rcases Nat.lt_or_ge a s.size with h' | h'
        · exact h'
        · rw [bt_end _ _ h'] at H45; exact absurd H45.out (by decide)
      go_wp2_with fail
      go_meet
      exact ⟨a + 1, by omega, hlt, by rw [hd_sfx, if_pos H45.out, sfx_drop], (h.drewN _).put (a + 1), by (repeat' (first | (with_reducible assumption) | (with_reducible exact But.refl _ _) | (with_reducible refine But.drewN ?_ _) | (with_reducible refine But.drew ?_) | (with_reducible refine Fr.set ?_ _ _) | (with_reducible refine But.alloc ?_ _)))⟩
    · have e1 := eqF (n := (bt s a).toNat) (k := 45) (by omega)
      have H45 := Lib.hid h45
      clear h45
      go_wp2_with fail
      go_meet
      exact ⟨a, by omega, hat, by rw [hd_sfx, if_neg H45.out], by (repeat' (first | (with_reducible assumption) | (with_reducible refine Scan.drewN ?_ _) | (with_reducible refine Scan.drew ?_))), by (repeat' (first | (with_reducible assumption) | (with_reducible exact But.refl _ _) | (with_reducible refine But.drewN ?_ _) | (with_reducible refine But.drew ?_) | (with_reducible refine Fr.set ?_ _ _) | (with_reducible refine But.alloc ?_ _)))⟩
  case rest =>
    obtain ⟨b, hab, hb, hl1, hS, hF⟩ := hcut
    have HN := Lib.hid (Lx.number_at _ _ hl1)
    clear hl1
    go_wp2_with fail; refine (peek0_any bx s b _ hs (by omega) (by (repeat' (first | (with_reducible assumption) | (with_reducible refine Scan.drewN ?_ _) | (with_reducible refine Scan.drew ?_))))).mono ?_; rintro e w' ⟨rfl, n2, rfl⟩
    go_wp2_with fail
    refine (while_digit bx s b _ hs hb (by (repeat' (first | (with_reducible assumption) | (with_reducible refine Scan.drewN ?_ _) | (with_reducible refine Scan.drew ?_))))).mono ?_
    rintro e w1 ⟨c, hbc, hc, hdc, rfl, hS1, hF1⟩
    have hF1 := But.undrew hF1
    have HDC := Lib.hid hdc
    clear hdc
    have hF2 : Fr bx w w1 := hF.trans hF1
    clear hF1
    have fin : ∀ w', Scan w' bx s c → Fr bx w w' → ((Lx.digits (sfx s b)).length = (sfx s b).length ∨ ((Lx.hd (sfx s b)).toNat = 48 ∧ 1 < (sfx s b).length - (Lx.digits (sfx s b)).length)) →
        NumPost bx s a w (.returned (.int .i64 0)) w' := fun w' h1 h2 h3 => ⟨c, by omega, hc, h1, h2, .inr ⟨by rw [HN.out, if_pos h3], rfl⟩⟩
    have hlen1 : (Lx.digits (sfx s b)).length = s.size - c := by
      have h1 := congrArg List.length HDC.out
      rw [sfx_len] at h1
      exact h1.symm
    have hlen2 := sfx_len s b
    have FIN := Lib.hid fin; have HL1 := Lib.hid hlen1; have HL2 := Lib.hid hlen2
    clear fin hlen1 hlen2
    by_cases hcb : c = b
    · have e1 : ((c : Int) - (b : Int) == 0) = true := by rw [beq_iff_eq]; omega
      have HCB := Lib.hid hcb
      clear hcb
      go_wp2_with fail
      go_ret
      exact FIN.out _ hS1 hF2 (.inl (by rw [HL1.out, HL2.out, HCB.out]))
    · have e1 : ((c : Int) - (b : Int) == 0) = false := by rw [beq_eq_false_iff_ne]; omega
      have HCB := Lib.hid hcb
      clear hcb
      by_cases h48 : (bt s b).toNat = 48 ∧ 1 < c - b
      · have e2 := eqT (n := (bt s b).toNat) (k := 48) (by omega)
        have e3 : decide (1 < (c : Int) - (b : Int)) = true := by simp; omega
        have H48 := Lib.hid h48
        clear h48
        go_wp2_with fail
        go_ret
        exact FIN.out _ hS1 hF2 (.inr ⟨by rw [hd_sfx]; exact H48.out.1, by rw [HL1.out, HL2.out]; have := H48.out.2; omega⟩)
      · have hcase : ((((bt s b).toNat : Int) == 48) = false) ∨ ((((bt s b).toNat : Int) == 48) = true ∧ decide (1 < (c : Int) - (b : Int)) = false) := by
          by_cases h1 : (bt s b).toNat = 48
          · exact .inr ⟨eqT (by omega), by simp; omega⟩
          · exact .inl (eqF (by omega))
        have HN2 : Hid (Lx.number (sfx s a) = Lx.numFrac (sfx s c)) := by
          show _ = _
          rw [HN.out, if_neg, HDC.out]
          · rfl
          · rw [HL1.out, HL2.out, hd_sfx]
            have := HCB.out
            omega
        have hac : a ≤ c := by omega
        clear HN FIN HL1 HL2 h48 HDC HCB hbc hab hb
        rcases hcase with e2 | ⟨e2, e3⟩
        all_goals
          go_wp2_with fail; refine (peek0_any bx s c _ hs (by omega) (by (repeat' (first | (with_reducible assumption) | (with_reducible refine Scan.drewN ?_ _) | (with_reducible refine Scan.drew ?_))))).mono ?_; rintro e w' ⟨rfl, n3, rfl⟩
          clear e1
          try clear e2
          try clear e3
          go_upto_if 34 with (fail)
          go_cut [3] (fun s3 wx => ∃ (k : Nat) (d : Nat), s3 = .int .i64 k ∧ (k = 2 ∨ k = 3) ∧ a ≤ d ∧ d ≤ s.size ∧ Lx.number (sfx s a) = Lx.numExp (k, sfx s d) ∧ Scan wx bx s d ∧ Fr bx w wx)
          case first =>
            have c0 := hS1.c0; have c1 := hS1.c1; have f1 := hS1.f1
            by_cases h46 : (bt s c).toNat = 46
            · have e1 := eqT (n := (bt s c).toNat) (k := 46) (by omega)
              have H46 := Lib.hid h46
              clear h46
              have hlt : c < s.size := by
                rcases Nat.lt_or_ge c s.size with h' | h'
                · exact h'
                · have := H46.out; rw [bt_end _ _ h'] at this; exact absurd this (by decide)
              go_wp2_with fail
              refine (while_digit bx s (c + 1) _ hs hlt ((hS1.drewN _).put (c + 1))).mono ?_
              rintro e w2 ⟨d, hcd, hd, hdd, rfl, hS2, hF3⟩
              have hF4 : Fr bx w w2 := But.trans (by (repeat' (first | (with_reducible assumption) | (with_reducible exact But.refl _ _) | (with_reducible refine But.drewN ?_ _) | (with_reducible refine But.drew ?_) | (with_reducible refine Fr.set ?_ _ _) | (with_reducible refine But.alloc ?_ _)))) hF3
              have HFR : Hid (Lx.numFrac (sfx s c) = if d = c + 1 then none else Lx.numExp (3, sfx s d)) := by
                show _ = _
                have hl := congrArg List.length hdd
                rw [sfx_len] at hl
                unfold Lx.numFrac
                rw [hd_sfx, if_pos H46.out, sfx_drop, Lx.digits, ← hdd, sfx_len, sfx_len]
                by_cases hdc : d = c + 1
                · rw [if_pos (by omega), if_pos hdc]
                · rw [if_neg (by omega), if_neg hdc]
              clear hdd c0 c1 f1 hF3 e1
              by_cases hdc : d = c + 1
              · have e1 : ((d : Int) - ((c : Int) + 1) == 0) = true := by rw [beq_iff_eq]; omega
                have HDC := Lib.hid hdc
                clear hdc
                go_wp2_with fail
                go_ret
                exact ⟨d, by omega, hd, hS2, hF4, .inr ⟨by rw [HN2.out, HFR.out, if_pos HDC.out], rfl⟩⟩
              · have e1 : ((d : Int) - ((c : Int) + 1) == 0) = false := by rw [beq_eq_false_iff_ne]; omega
                have HDC := Lib.hid hdc
                clear hdc
                go_wp2_with fail
                go_meet
                exact ⟨3, d, rfl, .inr rfl, by omega, hd, by rw [HN2.out, HFR.out, if_neg HDC.out], hS2, hF4⟩
            · have e1 := eqF (n := (bt s c).toNat) (k := 46) (by omega)
              have H46 := Lib.hid h46
              clear h46
              go_wp2_with fail
              go_meet
              exact ⟨2, c, rfl, .inl rfl, by omega, hc, by rw [HN2.out, Lx.numFrac, hd_sfx, if_neg H46.out], by (repeat' (first | (with_reducible assumption) | (with_reducible refine Scan.drewN ?_ _) | (with_reducible refine Scan.drew ?_))), by (repeat' (first | (with_reducible assumption) | (with_reducible exact But.refl _ _) | (with_reducible refine But.drewN ?_ _) | (with_reducible refine But.drew ?_) | (with_reducible refine Fr.set ?_ _ _) | (with_reducible refine But.alloc ?_ _)))⟩
          case rest =>
            obtain ⟨k, d, rfl, hk, had, hd, hnum, hS2, hF3⟩ := hcut
            have HN3 := Lib.hid hnum
            have HK := Lib.hid hk
            clear hnum hk HN2 hc hac hS1 hF2 hF1 h hF hS
            go_wp2_with fail; refine (peek0_any bx s d _ hs (by omega) (by (repeat' (first | (with_reducible assumption) | (with_reducible refine Scan.drewN ?_ _) | (with_reducible refine Scan.drew ?_))))).mono ?_; rintro e w' ⟨rfl, n4, rfl⟩
            have h32 := or32 (bt s d)
            go_upto_if 48 with (fail)
            go_cut [3] (fun s3 wx => ∃ (k : Nat) (d : Nat), s3 = .int .i64 k ∧ (k = 2 ∨ k = 3) ∧ a ≤ d ∧ d ≤ s.size ∧ Lx.number (sfx s a) = Lx.numEnd (k, sfx s d) ∧ Scan wx bx s d ∧ Fr bx w wx)
            case first =>
              have c0 := hS2.c0; have c1 := hS2.c1; have f1 := hS2.f1
              by_cases h101 : (bt s d).toNat ||| 32 = 101
              · have e1 : ((((bt s d).toNat ||| 32 : Nat) : Int) == 101) = true := eqT (by omega)
                have hlt : d < s.size := by
                  rcases Nat.lt_or_ge d s.size with h' | h'
                  · exact h'
                  · rw [bt_end _ _ h'] at h101; exact absurd h101 (by decide)
                have H101 := Lib.hid h101
                clear h101
                go_wp2_with fail
                refine (peek0_any bx s (d + 1) _ hs hlt ((hS2.drewN _).put (d + 1))).mono ?_
                rintro e w3 ⟨rfl, n5, hw3⟩
                have hS3 : Scan w3 bx s (d + 1) := by rw [hw3]; exact Scan.drewN ((hS2.drewN _).put (d + 1)) _
                have hF4 : Fr bx w w3 := by rw [hw3]; (repeat' (first | (with_reducible assumption) | (with_reducible exact But.refl _ _) | (with_reducible refine But.drewN ?_ _) | (with_reducible refine But.drew ?_) | (with_reducible refine Fr.set ?_ _ _) | (with_reducible refine But.alloc ?_ _)))
                clear hw3 c0 c1 f1 e1 h32
                have c0 := hS3.c0; have c1 := hS3.c1; have f1 := hS3.f1
                have hsg : ((((bt s (d + 1)).toNat : Int) == 43) = true ∧ ((bt s (d + 1)).toNat = 43 ∨ (bt s (d + 1)).toNat = 45)) ∨
                    ((((bt s (d + 1)).toNat : Int) == 43) = false ∧ (((bt s (d + 1)).toNat : Int) == 45) = true ∧ ((bt s (d + 1)).toNat = 43 ∨ (bt s (d + 1)).toNat = 45)) ∨
                    ((((bt s (d + 1)).toNat : Int) == 43) = false ∧ (((bt s (d + 1)).toNat : Int) == 45) = false ∧ ¬ ((bt s (d + 1)).toNat = 43 ∨ (bt s (d + 1)).toNat = 45)) := by
                  by_cases h1 : (bt s (d + 1)).toNat = 43
                  · exact .inl ⟨eqT (by omega), .inl h1⟩
                  · by_cases h2 : (bt s (d + 1)).toNat = 45
                    · exact .inr (.inl ⟨eqF (by omega), eqT (by omega), .inr h2⟩)
                    · exact .inr (.inr ⟨eqF (by omega), eqF (by omega), by omega⟩)
                have HX : Hid (Lx.numExp (k, sfx s d) = (let l2 := if (bt s (d + 1)).toNat = 43 ∨ (bt s (d + 1)).toNat = 45 then (sfx s (d + 1)).drop 1 else sfx s (d + 1); if (Lx.digits l2).length = l2.length then none else Lx.numEnd (3, Lx.digits l2))) := by
                  show _ = _
                  unfold Lx.numExp
                  rw [if_pos (by rw [hd_sfx, UInt8.toNat_or]; exact H101.out), sfx_drop]
                  simp only [hd_sfx]
                have HX2 : ∀ g f, sfx s g = (if (bt s (d + 1)).toNat = 43 ∨ (bt s (d + 1)).toNat = 45 then (sfx s (d + 1)).drop 1 else sfx s (d + 1)) → g ≤ f → f ≤ s.size → sfx s f = (sfx s g).dropWhile Lx.isDigit →
                    Lx.number (sfx s a) = if f = g then none else Lx.numEnd (3, sfx s f) := fun g f hg hgf hf hd' => by
                  rw [HN3.out, HX.out]
                  simp only [← hg]
                  have hl := congrArg List.length hd'
                  rw [sfx_len] at hl
                  unfold Lx.digits
                  rw [← hd', sfx_len, sfx_len]
                  by_cases hfg : f = g
                  · rw [if_pos (by omega), if_pos hfg]
                  · rw [if_neg (by omega), if_neg hfg]
                have HY := Lib.hid HX2
                clear HX HX2 HN3
                have hd1 : d + 1 ≤ s.size := hlt
                rcases hsg with ⟨e1, e3⟩ | ⟨e1, e2, e3⟩ | ⟨e1, e2, e3⟩
                all_goals
                  have E3 := Lib.hid e3
                  clear e3
                  go_wp2_with fail
                  first
                  | (have hlt2 : d + 1 < s.size := by
                       rcases Nat.lt_or_ge (d + 1) s.size with h' | h'
                       · exact h'
                       · have := E3.out; rw [bt_end _ _ h'] at this; exact absurd this (by decide)
                     refine (while_digit bx s (d + 1 + 1) _ hs hlt2 (hS3.put (d + 1 + 1))).mono ?_
                     rintro e w4 ⟨f, hgf, hf, hdf, rfl, hS4, hF5⟩
                     have hF6 : Fr bx w w4 := But.trans (by (repeat' (first | (with_reducible assumption) | (with_reducible exact But.refl _ _) | (with_reducible refine But.drewN ?_ _) | (with_reducible refine But.drew ?_) | (with_reducible refine Fr.set ?_ _ _) | (with_reducible refine But.alloc ?_ _)))) hF5
                     have HZ := Lib.hid (HY.out (d + 1 + 1) f (by rw [if_pos E3.out, sfx_drop]) hgf hf hdf)
                     clear hdf hF5 c0 c1 f1 e1
                     by_cases hfg : f = d + 1 + 1
                     · have e4 : ((f : Int) - ((d : Int) + 1 + 1) == 0) = true := by rw [beq_iff_eq]; omega
                       have HFG := Lib.hid hfg
                       clear hfg
                       go_wp2_with fail
                       go_ret
                       exact ⟨f, by omega, hf, hS4, hF6, .inr ⟨by rw [HZ.out, if_pos HFG.out], rfl⟩⟩
                     · have e4 : ((f : Int) - ((d : Int) + 1 + 1) == 0) = false := by rw [beq_eq_false_iff_ne]; omega
                       have HFG := Lib.hid hfg
                       clear hfg
                       go_wp2_with fail
                       go_meet
                       exact ⟨3, f, rfl, .inr rfl, by omega, hf, by rw [HZ.out, if_neg HFG.out], hS4, hF6⟩)
                  | (refine (while_digit bx s (d + 1) _ hs hd1 hS3).mono ?_
                     rintro e w4 ⟨f, hgf, hf, hdf, rfl, hS4, hF5⟩
                     have hF6 : Fr bx w w4 := But.trans hF4 hF5
                     have HZ := Lib.hid (HY.out (d + 1) f (by rw [if_neg E3.out]) hgf hf hdf)
                     clear hdf hF5 c0 c1 f1 e1
                     by_cases hfg : f = d + 1
                     · have e4 : ((f : Int) - ((d : Int) + 1) == 0) = true := by rw [beq_iff_eq]; omega
                       have HFG := Lib.hid hfg
                       clear hfg
                       go_wp2_with fail
                       go_ret
                       exact ⟨f, by omega, hf, hS4, hF6, .inr ⟨by rw [HZ.out, if_pos HFG.out], rfl⟩⟩
                     · have e4 : ((f : Int) - ((d : Int) + 1) == 0) = false := by rw [beq_eq_false_iff_ne]; omega
                       have HFG := Lib.hid hfg
                       clear hfg
                       go_wp2_with fail
                       go_meet
                       exact ⟨3, f, rfl, .inr rfl, by omega, hf, by rw [HZ.out, if_neg HFG.out], hS4, hF6⟩)
              · have e1 : ((((bt s d).toNat ||| 32 : Nat) : Int) == 101) = false := eqF (by omega)
                have H101 := Lib.hid h101
                clear h101
                go_wp2_with fail
                go_meet
                exact ⟨k, d, rfl, HK.out, had, hd, by rw [HN3.out, Lx.numExp, if_neg (by rw [hd_sfx, UInt8.toNat_or]; exact H101.out)], by (repeat' (first | (with_reducible assumption) | (with_reducible refine Scan.drewN ?_ _) | (with_reducible refine Scan.drew ?_))), by (repeat' (first | (with_reducible assumption) | (with_reducible exact But.refl _ _) | (with_reducible refine But.drewN ?_ _) | (with_reducible refine But.drew ?_) | (with_reducible refine Fr.set ?_ _ _) | (with_reducible refine But.alloc ?_ _)))⟩
            case rest =>
              clear hS2 hF3 HN3 HK h32
              obtain ⟨k, d, rfl, hk, had, hd, hnum, hS2, hF3⟩ := hcut
              have HN3 := Lib.hid hnum
              have HK := Lib.hid hk
              clear hnum hk
              go_wp2_with fail; refine (peek0_any bx s d _ hs (by omega) (by (repeat' (first | (with_reducible assumption) | (with_reducible refine Scan.drewN ?_ _) | (with_reducible refine Scan.drew ?_))))).mono ?_; rintro e w' ⟨rfl, n5, rfl⟩
              by_cases h46 : (bt s d).toNat = 46
              · have e1 := eqT (n := (bt s d).toNat) (k := 46) (by omega)
                have H46 := Lib.hid h46
                clear h46
                go_wp2_with fail
                go_ret
                exact ⟨d, had, hd, by (repeat' (first | (with_reducible assumption) | (with_reducible refine Scan.drewN ?_ _) | (with_reducible refine Scan.drew ?_))), by (repeat' (first | (with_reducible assumption) | (with_reducible exact But.refl _ _) | (with_reducible refine But.drewN ?_ _) | (with_reducible refine But.drew ?_) | (with_reducible refine Fr.set ?_ _ _) | (with_reducible refine But.alloc ?_ _))), .inr ⟨by rw [HN3.out, Lx.numEnd, hd_sfx, if_pos (.inl H46.out)], rfl⟩⟩
              · have e1 := eqF (n := (bt s d).toNat) (k := 46) (by omega)
                have H46 := Lib.hid h46
                clear h46
                cases hlet : Lx.isLetter (bt s d)
                · have HLE := Lib.hid hlet
                  clear hlet
                  cases hdig : Lx.isDigit (bt s d)
                  · have HDI := Lib.hid hdig
                    clear hdig
                    go_wp2_with (first | (go_at_call 189; refine (letter_any _ _).mono ?_; rintro e w' ⟨rfl, rfl⟩; rw [HLE.out]) | (go_at_call 190; refine (digit_any _ _).mono ?_; rintro e w' ⟨rfl, rfl⟩; rw [HDI.out]))
                    go_ret
                    refine ⟨d, had, hd, by (repeat' (first | (with_reducible assumption) | (with_reducible refine Scan.drewN ?_ _) | (with_reducible refine Scan.drew ?_))), by (repeat' (first | (with_reducible assumption) | (with_reducible exact But.refl _ _) | (with_reducible refine But.drewN ?_ _) | (with_reducible refine But.drew ?_) | (with_reducible refine Fr.set ?_ _ _) | (with_reducible refine But.alloc ?_ _))), .inl ⟨k, ?_, HK.out, rfl⟩⟩
                    rw [HN3.out, Lx.numEnd, hd_sfx, HLE.out, HDI.out, if_neg (by have := H46.out; simp [this])]
                  · have HDI := Lib.hid hdig
                    clear hdig
                    go_wp2_with (first | (go_at_call 189; refine (letter_any _ _).mono ?_; rintro e w' ⟨rfl, rfl⟩; rw [HLE.out]) | (go_at_call 190; refine (digit_any _ _).mono ?_; rintro e w' ⟨rfl, rfl⟩; rw [HDI.out]))
                    go_ret
                    exact ⟨d, had, hd, by (repeat' (first | (with_reducible assumption) | (with_reducible refine Scan.drewN ?_ _) | (with_reducible refine Scan.drew ?_))), by (repeat' (first | (with_reducible assumption) | (with_reducible exact But.refl _ _) | (with_reducible refine But.drewN ?_ _) | (with_reducible refine But.drew ?_) | (with_reducible refine Fr.set ?_ _ _) | (with_reducible refine But.alloc ?_ _))), .inr ⟨by rw [HN3.out, Lx.numEnd, hd_sfx, if_pos (.inr (.inr HDI.out))], rfl⟩⟩
                · have HLE := Lib.hid hlet
                  clear hlet
                  go_wp2_with (first | (go_at_call 189; refine (letter_any _ _).mono ?_; rintro e w' ⟨rfl, rfl⟩; rw [HLE.out]) | (go_at_call 190; refine (digit_any _ _).mono ?_; rintro e w' ⟨rfl, rfl⟩))
                  go_ret
                  exact ⟨d, had, hd, by (repeat' (first | (with_reducible assumption) | (with_reducible refine Scan.drewN ?_ _) | (with_reducible refine Scan.drew ?_))), by (repeat' (first | (with_reducible assumption) | (with_reducible exact But.refl _ _) | (with_reducible refine But.drewN ?_ _) | (with_reducible refine But.drew ?_) | (with_reducible refine Fr.set ?_ _ _) | (with_reducible refine But.alloc ?_ _))), .inr ⟨by rw [HN3.out, Lx.numEnd, hd_sfx, if_pos (.inr (.inl HLE.out))], rfl⟩⟩
end Go.Proofs.YtmgoebfcfgilfaaGreatDoor
namespace Go.Proofs.YtmgoebfcfgilfaaGreatDoor
set_option linter.unusedSimpArgs false
set_option linter.unusedVariables false
open Go Go.RowKit

def hexDigits : List UInt8 := [48, 49, 50, 51, 52, 53, 54, 55, 56, 57, 97, 98, 99, 100, 101, 102]
def hexGo (c : UInt8) : Option Nat :=
  if Lib.indexByte hexDigits (c ||| 32) < 0 ∨ c.toNat < 48 ∨ (57 < c.toNat ∧ c.toNat < 65) then none else some (Lib.indexByte hexDigits (c ||| 32)).toNat
theorem hexGo_fin : ∀ n : Fin 256, hexGo (UInt8.ofNat n.val) = Lx.hexv (UInt8.ofNat n.val) ∧ Lib.indexByte hexDigits (UInt8.ofNat n.val ||| 32) < 16 ∧ -1 ≤ Lib.indexByte hexDigits (UInt8.ofNat n.val ||| 32) := by decide +kernel
theorem hexGo_eq (c : UInt8) : hexGo c = Lx.hexv c ∧ Lib.indexByte hexDigits (c ||| 32) < 16 ∧ -1 ≤ Lib.indexByte hexDigits (c ||| 32) := by
  have := hexGo_fin ⟨c.toNat, UInt8.toNat_lt c⟩
  simpa using this

theorem hexIdx (c : UInt8) (w : World) :
    Calls Tryz.prog 211 #[.string ⟨#[48, 49, 50, 51, 52, 53, 54, 55, 56, 57, 97, 98, 99, 100, 101, 102]⟩, .int .u8 ((c.toNat ||| 32 : Nat) : Int)] w fun e w' => e = .returned (.int .i64 (Lib.indexByte hexDigits (c ||| 32))) ∧ w' = w := by
  refine (Tryz.strings_IndexByte _ _ _).mono ?_
  rintro e w' ⟨rfl, rfl⟩
  refine ⟨?_, rfl⟩
  have h1 : (((c.toNat ||| 32 : Nat) : Int)).toNat.toUInt8 = c ||| 32 := by
    rw [Int.toNat_natCast, show c.toNat ||| 32 = (c ||| 32).toNat from (UInt8.toNat_or c 32).symm]
    simp
  rw [h1]
  rfl

def hexAns (o : Option Nat) : Int := match o with | some v => v | none => -1
def HexPost (s : ByteArray) (w : World) (e : Ending) (w' : World) : Prop := e = .returned (.int .i32 (hexAns (Lx.hex s.data.toList))) ∧ w' = w

theorem hexs_none {s : ByteArray} {k r : Nat} (hk : k < 4) (hks : k < s.size) (h : Lx.hexv (bt s k) = none) : Lx.hexs (4 - k) r (sfx s k) = none := by
  rw [sfx_cons s k hks, show 4 - k = (3 - k) + 1 by omega, Lx.hexs, h]
theorem hexs_some {s : ByteArray} {k r v : Nat} (hk : k < 4) (hks : k < s.size) (h : Lx.hexv (bt s k) = some v) : Lx.hexs (4 - k) r (sfx s k) = Lx.hexs (4 - (k + 1)) (r * 16 + v) (sfx s (k + 1)) := by
  rw [sfx_cons s k hks, show 4 - k = (3 - k) + 1 by omega, Lx.hexs, h]
  rw [show 4 - (k + 1) = 3 - k by omega]
theorem hexs_short : ∀ (n r : Nat) (l : List UInt8), l.length < n → Lx.hexs n r l = none
  | 0, _, _, h => by omega
  | n + 1, r, [], _ => rfl
  | n + 1, r, c :: l, h => by
    unfold Lx.hexs
    split
    · rfl
    · exact hexs_short n _ l (by simpa using h)

set_option maxHeartbeats 4000000 in
set_option maxRecDepth 100000 in
theorem hex_any (s : ByteArray) (w : World) (hs : s.size ≤ 4096) : Calls Tryz.prog 243 #[.string s] w (HexPost s w) := by
  by_cases h4 : s.size < 4
  · have h4' : (s.size : Int) < 4 := by omega
    go_enter Tryz.func243, Tryz.ntmps243
    go_wp2
    go_ret
    have : Lx.hex s.data.toList = none := hexs_short 4 0 _ (by simpa using h4)
    exact ⟨by rw [this]; rfl, rfl⟩
  · have h4' : (4 : Int) ≤ s.size := by omega
    have hm0 : Lx.hexs (4 - 0) 0 (sfx s 0) = Lx.hex s.data.toList := by rw [sfx_all]; rfl
    have HM0 := Lib.hid hm0
    clear hm0
    go_enter Tryz.func243, Tryz.ntmps243
    go_wp2
    go_loop [3, 9] (fun s3 s9 => ∃ (k r : Nat), k ≤ 4 ∧ r < 16 ^ k ∧ s3 = .int .i32 r ∧ s9 = .int .i64 k ∧ Lx.hexs (4 - k) r (sfx s k) = Lx.hex s.data.toList) (fun _ s9 => (4 - intOf s9).toNat)
    case atStart => exact ⟨0, 0, by omega, by decide, rfl, rfl, HM0.out⟩
    case round =>
      obtain ⟨k, r, hk, hr, rfl, rfl, hm⟩ := hrel
      have HM := Lib.hid hm
      have HR := Lib.hid hr
      clear hm hr
      by_cases hk4 : k < 4
      · have hks : (k : Int) < s.size := by omega
        have hr16 : r < 4096 := by
          have h1 := HR.out
          have h2 : 16 ^ k ≤ 16 ^ 3 := Nat.pow_le_pow_right (by omega) (by omega)
          omega
        obtain ⟨g1, g2, g3⟩ := hexGo_eq (bt s k)
        have h32 := or32 (bt s k)
        have hI := hexIdx (bt s k)
        unfold hexGo at g1
        generalize Lib.indexByte hexDigits (bt s k ||| 32) = kk at g1 g2 g3 hI
        have HG := Lib.hid g1
        have HI := Lib.hid hI
        clear g1 hI
        have hcase : (decide (kk < 0) = true ∧ Lx.hexv (bt s k) = none) ∨ (decide (kk < 0) = false ∧ decide (((bt s k).toNat : Int) < 48) = true ∧ Lx.hexv (bt s k) = none) ∨
            (decide (kk < 0) = false ∧ decide (((bt s k).toNat : Int) < 48) = false ∧ decide (57 < ((bt s k).toNat : Int)) = true ∧ decide (((bt s k).toNat : Int) < 65) = true ∧ Lx.hexv (bt s k) = none) ∨
            (decide (kk < 0) = false ∧ decide (((bt s k).toNat : Int) < 48) = false ∧ decide (57 < ((bt s k).toNat : Int)) = true ∧ decide (((bt s k).toNat : Int) < 65) = false ∧ Lx.hexv (bt s k) = some kk.toNat ∧ 0 ≤ kk) ∨
            (decide (kk < 0) = false ∧ decide (((bt s k).toNat : Int) < 48) = false ∧ decide (57 < ((bt s k).toNat : Int)) = false ∧ Lx.hexv (bt s k) = some kk.toNat ∧ 0 ≤ kk) := by
          have hg := HG.out
          by_cases a1 : kk < 0
          · exact .inl ⟨by simpa using a1, by rw [← hg, if_pos (.inl a1)]⟩
          · by_cases a2 : (bt s k).toNat < 48
            · exact .inr (.inl ⟨by simpa using a1, by simp; omega, by rw [← hg, if_pos (.inr (.inl a2))]⟩)
            · by_cases a3 : 57 < (bt s k).toNat
              · by_cases a4 : (bt s k).toNat < 65
                · exact .inr (.inr (.inl ⟨by simpa using a1, by simp; omega, by simp; omega, by simp; omega, by rw [← hg, if_pos (.inr (.inr ⟨a3, a4⟩))]⟩))
                · exact .inr (.inr (.inr (.inl ⟨by simpa using a1, by simp; omega, by simp; omega, by simp; omega, by rw [← hg, if_neg (by omega)], by omega⟩)))
              · exact .inr (.inr (.inr (.inr ⟨by simpa using a1, by simp; omega, by simp; omega, by rw [← hg, if_neg (by omega)], by omega⟩)))
        rcases hcase with ⟨e1, e5⟩ | ⟨e1, e2, e5⟩ | ⟨e1, e2, e3, e4, e5⟩ | ⟨e1, e2, e3, e4, e5, e6⟩ | ⟨e1, e2, e3, e5, e6⟩
        all_goals
          have E5 := Lib.hid e5
          clear e5
          go_wp2_with (go_at_call 211; refine (HI.out _).mono ?_; rintro e w' ⟨rfl, hw'⟩; subst hw')
        · go_ret
          exact ⟨by rw [← HM.out, hexs_none hk4 (by omega) E5.out]; rfl, rfl⟩
        · go_ret
          exact ⟨by rw [← HM.out, hexs_none hk4 (by omega) E5.out]; rfl, rfl⟩
        · go_ret
          exact ⟨by rw [← HM.out, hexs_none hk4 (by omega) E5.out]; rfl, rfl⟩
        all_goals
          obtain ⟨v, rfl⟩ := Int.eq_ofNat_of_zero_le e6
          have hor : bits BinOp.or IntKind.i32 ((r : Int) * 16) (v : Int) = ((r * 16 + v : Nat) : Int) := by
            rw [bits_join .i32 31 (by decide) wraps_i32 4 _ _ (by omega) (by omega) (by omega) (by omega) (by omega) (by omega)]
            omega
          refine ⟨⟨k + 1, r * 16 + v, by omega, ?_, by rw [hor], by go_num, ?_⟩, by simp [intOf]; omega⟩
          · have h1 := HR.out
            rw [Nat.pow_succ]
            omega
          · rw [← HM.out]
            have := hexs_some (r := r) hk4 (by omega) E5.out
            rw [Int.toNat_natCast] at this
            exact this.symm
      · have hk4' : (4 : Int) ≤ k := by omega
        have hke : k = 4 := by omega
        go_wp2
        go_ret
        refine ⟨?_, rfl⟩
        rw [← HM.out, hke]
        rfl
end Go.Proofs.YtmgoebfcfgilfaaGreatDoor
