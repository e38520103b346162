/-
  'Name', the lexer's and the document's; a name alone is one token.
-/
import Derived.Test.YtabcaljnpahgpaaGreatDoorNm
import Derived.Test.YtabcaljnpahgpaaGreatDoorK9
import Derived.Test.YtabcaljnpahgpaaGreatDoorK6
import Derived.Outline
import Derived.Deep.LoopGhost
namespace Go.Proofs.YtabcaljnpahgpaaGreatDoor
set_option linter.unusedSimpArgs false
set_option linter.unusedVariables false
open Go Go.RowKit

theorem letter_ne {c : UInt8} (k : UInt8) (h : Lx.isLetter c = true) (hk : Lx.isLetter k = false) : c.toNat ≠ k.toNat := fun e => by
  have := UInt8.toNat_inj.1 e
  subst this
  rw [h] at hk
  cases hk
theorem gap_letter (f : Bool) (c : UInt8) (t : List UInt8) (h : Lx.isLetter c = true) : Lx.gap f (c :: t) = (c :: t, true) := by
  have h1 : c.toNat ≠ 32 := letter_ne 32 h (by decide)
  have h2 : c.toNat ≠ 9 := letter_ne 9 h (by decide)
  have h3 : c.toNat ≠ 10 := letter_ne 10 h (by decide)
  have h4 : c.toNat ≠ 13 := letter_ne 13 h (by decide)
  have h5 : c.toNat ≠ 44 := letter_ne 44 h (by decide)
  have h6 : c.toNat ≠ 35 := letter_ne 35 h (by decide)
  have h7 : c.toNat ≠ 239 := letter_ne 239 h (by decide)
  have hb : Lx.bom (c :: t) = false := by
    unfold Lx.bom
    rw [decide_eq_false_iff_not]
    intro e
    simp at e
    exact h7 (by rw [e.1]; rfl)
  rw [Lx.gap, if_neg (by simp [Lx.isBlank, h1, h2, h3, h4, h5]), if_neg (by simp [hb]), if_neg h6]
theorem gap_nil (f : Bool) : Lx.gap f [] = ([], true) := by rw [Lx.gap]

theorem dropWhile_all (p : UInt8 → Bool) : ∀ l : List UInt8, l.all p = true → l.dropWhile p = []
  | [], _ => rfl
  | c :: t, h => by
    rw [List.all_cons, Bool.and_eq_true] at h
    rw [List.dropWhile_cons, if_pos h.1]
    exact dropWhile_all p t h.2
set_option maxRecDepth 10000 in
theorem or32_num : ∀ n : Fin 256, n.val ||| 32 = n.val + (if n.val / 32 % 2 = 0 then 32 else 0) := by decide
theorem or32_val (c : UInt8) : (c ||| 32).toNat = c.toNat + (if c.toNat / 32 % 2 = 0 then 32 else 0) := by
  rw [UInt8.toNat_or]
  exact or32_num ⟨c.toNat, UInt8.toNat_lt c⟩
theorem lex_name (l : List UInt8) (h : Lx.isName l = true) (hl : l.length ≤ 4096) : Lx.lex l = .ok [⟨1, l, 0⟩, ⟨0, [], l.length⟩] := by
  match l with
  | [] => exact absurd h (by decide)
  | c :: t =>
    simp only [Lx.isName, Lx.hd, List.headD_cons, Bool.and_eq_true] at h
    have hd : (c :: t).dropWhile Lx.isWord = [] := by
      exact dropWhile_all _ _ h.2
    have ht : Lx.token (c :: t) = some (1, c :: t, []) := by
      unfold Lx.token
      rw [if_pos (by exact h.1), hd]
      simp
    unfold Lx.lex
    rw [if_neg (by omega), Lx.lexGo, gap_letter _ _ _ h.1, if_neg (by simp), if_neg (by simp), ht]
    simp only [List.length_nil]
    rw [if_neg (by omega), show (c :: t).length = t.length + 1 from rfl, Lx.lexGo, gap_nil, if_neg (by simp)]
    simp

set_option maxHeartbeats 400000 in
theorem refLetter_any (c : UInt8) (w : World) :
    Calls Tryz.prog 47 #[.int .u8 c.toNat] w fun e w' => e = .returned (.bool (Lx.isLetter c)) ∧ w' = w := by
  have h32 := Lib.hid (or32_val c)
  go_enter Tryz.func47, Tryz.ntmps47
  go_wp2
  all_goals go_ret
  all_goals refine ⟨ret_bool ?_, rfl⟩
  all_goals rw [Bool.eq_iff_iff]
  all_goals simp only [beq_iff_eq, Lx.isLetter, Bool.or_eq_true, Bool.and_eq_true, decide_eq_true_eq, Bool.false_eq_true, false_iff, true_iff, iff_true, iff_false]
  all_goals (rw [h32.out]; split <;> omega)

set_option maxHeartbeats 400000 in
theorem refDigit_any (c : UInt8) (w : World) :
    Calls Tryz.prog 48 #[.int .u8 c.toNat] w fun e w' => e = .returned (.bool (Lx.isDigit c)) ∧ w' = w := by
  go_enter Tryz.func48, Tryz.ntmps48
  go_wp2
  all_goals go_ret
  all_goals refine ⟨ret_bool ?_, rfl⟩
  all_goals rw [Bool.eq_iff_iff]
  all_goals simp only [Lx.isDigit, Bool.and_eq_true, decide_eq_true_eq, Bool.false_eq_true, false_iff, true_iff]
  all_goals omega

theorem all_sfx (s : ByteArray) (p : UInt8 → Bool) (a : Nat) (h : a < s.size) : (sfx s a).all p = (p (bt s a) && (sfx s (a + 1)).all p) := by
  rw [sfx_cons s a h, List.all_cons]
theorem isName_sfx (s : ByteArray) : Lx.isName s.data.toList = (Lx.isLetter (bt s 0) && (sfx s 0).all Lx.isWord) := by
  unfold Lx.isName
  rw [sfx_all]
  congr 2
  rw [Lx.hd, ← sfx_all]
  by_cases h : 0 < s.size
  · rw [sfx_cons s 0 h]; rfl
  · rw [sfx_end s 0 (by omega), bt_end s 0 (by omega)]; rfl
theorem empty_of {s : ByteArray} (h : ¬ 0 < s.size) : s = ⟨#[]⟩ := by
  cases s with
  | mk d =>
    have : d.size = 0 := by simpa [ByteArray.size] using h
    rw [Array.size_eq_zero_iff] at this
    rw [this]

theorem ne_empty {s : ByteArray} (h : 0 < s.size) : (s.toList == []) = false := by
  rw [beq_eq_false_iff_ne, Lib.toList_data]
  intro e
  have : s.data.toList.length = 0 := by rw [e]; rfl
  have h2 : s.data.toList.length = s.size := rfl
  omega
set_option maxHeartbeats 400000 in
theorem lexName_any (s : ByteArray) (w : World) (hs : s.size ≤ 9223372036854775807) :
    Calls Tryz.prog 99 #[.string s] w fun e w' => e = .returned (.bool (Lx.isName s.data.toList)) ∧ w' = w := by
  have HN := Lib.hid (isName_sfx s)
  by_cases h0 : 0 < s.size
  · have hne := ne_empty h0
    have hi0 : (0 : Int) < s.size := by omega
    go_enter Tryz.func99, Tryz.ntmps99
    cases hl0 : Lx.isLetter (bt s 0)
    · have HL := Lib.hid hl0
      have HR : Hid (Lx.isName s.data.toList = false) := by rw [HN.out, hl0]; rfl
      clear hl0 HN
      go_wp2_with (first | (go_at_call 128; refine (letter_any _ _).mono ?_; rintro e w' ⟨rfl, hw'⟩; obtain rfl := hw'.symm; rw [HL.out]) | fail)
      go_ret
      exact ⟨congrArg (fun b => Ending.returned (.bool b)) HR.out.symm, rfl⟩
    · have HL := Lib.hid hl0
      have HR : Hid (Lx.isName s.data.toList = (sfx s 0).all Lx.isWord) := by rw [HN.out, hl0]; rfl
      clear hl0 HN
      go_wp2_with (first | (go_at_call 128; refine (letter_any _ _).mono ?_; rintro e w' ⟨rfl, hw'⟩; obtain rfl := hw'.symm; rw [HL.out]) | fail)
      go_loopg [14] s.size (fun k i wr => wr = w ∧ ∃ a : Nat, k = s.size - a ∧ a ≤ s.size ∧ i = .int .i64 a ∧ (sfx s a).all Lx.isWord = (sfx s 0).all Lx.isWord)
      case atStart => exact ⟨rfl, 0, by omega, Nat.zero_le _, rfl, rfl⟩
      case round =>
        obtain ⟨rfl, a, hk, ha, rfl, hal⟩ := hrel
        have HK := Lib.hid hk
        have HAL := Lib.hid hal
        clear hk hal hne
        by_cases hlt : a < s.size
        · have hA := all_sfx s Lx.isWord a hlt
          have hi1 : (0 : Int) ≤ (a : Int) := Int.natCast_nonneg _
          have hi2 : (a : Int) < s.size := by omega
          cases hla : Lx.isLetter (bt s a)
          · cases hda : Lx.isDigit (bt s a)
            · have HLA := Lib.hid hla
              have HDA := Lib.hid hda
              have HF : Hid (Lx.isName s.data.toList = false) := by rw [HR.out, ← HAL.out, hA, show Lx.isWord (bt s a) = false by simp [Lx.isWord, hla, hda]]; rfl
              clear hla hda hA
              go_wp2_with (first | (go_at_call 128; refine (letter_any _ _).mono ?_; rintro e w' ⟨rfl, hw'⟩; obtain rfl := hw'.symm; rw [HLA.out]) | (go_at_call 129; refine (digit_any _ _).mono ?_; rintro e w' ⟨rfl, hw'⟩; obtain rfl := hw'.symm; rw [HDA.out]) | fail)
              go_ret
              exact ⟨congrArg (fun b => Ending.returned (.bool b)) HF.out.symm, rfl⟩
            · have HLA := Lib.hid hla
              have HDA := Lib.hid hda
              have HF : Hid ((sfx s (a + 1)).all Lx.isWord = (sfx s 0).all Lx.isWord) := by rw [← HAL.out, hA, show Lx.isWord (bt s a) = true by simp [Lx.isWord, hla, hda]]; rfl
              clear hla hda hA
              go_wp2_with (first | (go_at_call 128; refine (letter_any _ _).mono ?_; rintro e w' ⟨rfl, hw'⟩; obtain rfl := hw'.symm; rw [HLA.out]) | (go_at_call 129; refine (digit_any _ _).mono ?_; rintro e w' ⟨rfl, hw'⟩; obtain rfl := hw'.symm; rw [HDA.out]) | fail)
              go_roundg (s.size - (a + 1))
              case measure => have := HK.out; omega
              case rel => exact ⟨rfl, a + 1, rfl, hlt, rfl, HF.out⟩
          · have HLA := Lib.hid hla
            have HF : Hid ((sfx s (a + 1)).all Lx.isWord = (sfx s 0).all Lx.isWord) := by rw [← HAL.out, hA, show Lx.isWord (bt s a) = true by simp [Lx.isWord, hla]]; rfl
            clear hla hA
            go_wp2_with (first | (go_at_call 128; refine (letter_any _ _).mono ?_; rintro e w' ⟨rfl, hw'⟩; obtain rfl := hw'.symm; rw [HLA.out]) | fail)
            go_roundg (s.size - (a + 1))
            case measure => have := HK.out; omega
            case rel => exact ⟨rfl, a + 1, rfl, hlt, rfl, HF.out⟩
        · have HF : Hid (Lx.isName s.data.toList = true) := by rw [HR.out, ← HAL.out, sfx_end s a (by omega)]; rfl
          go_wp2_with fail
          go_ret
          exact ⟨congrArg (fun b => Ending.returned (.bool b)) HF.out.symm, rfl⟩
  · obtain rfl := empty_of h0
    go_enter Tryz.func99, Tryz.ntmps99
    go_wp2_with fail
    go_ret
    exact ⟨rfl, rfl⟩
set_option maxHeartbeats 400000 in
theorem refName_any (s : ByteArray) (w : World) (hs : s.size ≤ 9223372036854775807) :
    Calls Tryz.prog 23 #[.string s] w fun e w' => e = .returned (.bool (Lx.isName s.data.toList)) ∧ w' = w := by
  have HN := Lib.hid (isName_sfx s)
  by_cases h0 : 0 < s.size
  · have hne := ne_empty h0
    have hi0 : (0 : Int) < s.size := by omega
    go_enter Tryz.func23, Tryz.ntmps23
    cases hl0 : Lx.isLetter (bt s 0)
    · have HL := Lib.hid hl0
      have HR : Hid (Lx.isName s.data.toList = false) := by rw [HN.out, hl0]; rfl
      clear hl0 HN
      go_wp2_with (first | (go_at_call 47; refine (refLetter_any _ _).mono ?_; rintro e w' ⟨rfl, hw'⟩; obtain rfl := hw'.symm; rw [HL.out]) | fail)
      go_ret
      exact ⟨congrArg (fun b => Ending.returned (.bool b)) HR.out.symm, rfl⟩
    · have HL := Lib.hid hl0
      have HR : Hid (Lx.isName s.data.toList = (sfx s 0).all Lx.isWord) := by rw [HN.out, hl0]; rfl
      clear hl0 HN
      go_wp2_with (first | (go_at_call 47; refine (refLetter_any _ _).mono ?_; rintro e w' ⟨rfl, hw'⟩; obtain rfl := hw'.symm; rw [HL.out]) | fail)
      go_loopg [3] s.size (fun k i wr => wr = w ∧ ∃ a : Nat, k = s.size - a ∧ a ≤ s.size ∧ i = .int .i64 a ∧ (sfx s a).all Lx.isWord = (sfx s 0).all Lx.isWord)
      case atStart => exact ⟨rfl, 0, by omega, Nat.zero_le _, rfl, rfl⟩
      case round =>
        obtain ⟨rfl, a, hk, ha, rfl, hal⟩ := hrel
        have HK := Lib.hid hk
        have HAL := Lib.hid hal
        clear hk hal hne
        by_cases hlt : a < s.size
        · have hA := all_sfx s Lx.isWord a hlt
          have hi1 : (0 : Int) ≤ (a : Int) := Int.natCast_nonneg _
          have hi2 : (a : Int) < s.size := by omega
          cases hla : Lx.isLetter (bt s a)
          · cases hda : Lx.isDigit (bt s a)
            · have HLA := Lib.hid hla
              have HDA := Lib.hid hda
              have HF : Hid (Lx.isName s.data.toList = false) := by rw [HR.out, ← HAL.out, hA, show Lx.isWord (bt s a) = false by simp [Lx.isWord, hla, hda]]; rfl
              clear hla hda hA
              go_wp2_with (first | (go_at_call 47; refine (refLetter_any _ _).mono ?_; rintro e w' ⟨rfl, hw'⟩; obtain rfl := hw'.symm; rw [HLA.out]) | (go_at_call 48; refine (refDigit_any _ _).mono ?_; rintro e w' ⟨rfl, hw'⟩; obtain rfl := hw'.symm; rw [HDA.out]) | fail)
              go_ret
              exact ⟨congrArg (fun b => Ending.returned (.bool b)) HF.out.symm, rfl⟩
            · have HLA := Lib.hid hla
              have HDA := Lib.hid hda
              have HF : Hid ((sfx s (a + 1)).all Lx.isWord = (sfx s 0).all Lx.isWord) := by rw [← HAL.out, hA, show Lx.isWord (bt s a) = true by simp [Lx.isWord, hla, hda]]; rfl
              clear hla hda hA
              go_wp2_with (first | (go_at_call 47; refine (refLetter_any _ _).mono ?_; rintro e w' ⟨rfl, hw'⟩; obtain rfl := hw'.symm; rw [HLA.out]) | (go_at_call 48; refine (refDigit_any _ _).mono ?_; rintro e w' ⟨rfl, hw'⟩; obtain rfl := hw'.symm; rw [HDA.out]) | fail)
              go_roundg (s.size - (a + 1))
              case measure => have := HK.out; omega
              case rel => exact ⟨rfl, a + 1, rfl, hlt, rfl, HF.out⟩
          · have HLA := Lib.hid hla
            have HF : Hid ((sfx s (a + 1)).all Lx.isWord = (sfx s 0).all Lx.isWord) := by rw [← HAL.out, hA, show Lx.isWord (bt s a) = true by simp [Lx.isWord, hla]]; rfl
            clear hla hA
            go_wp2_with (first | (go_at_call 47; refine (refLetter_any _ _).mono ?_; rintro e w' ⟨rfl, hw'⟩; obtain rfl := hw'.symm; rw [HLA.out]) | fail)
            go_roundg (s.size - (a + 1))
            case measure => have := HK.out; omega
            case rel => exact ⟨rfl, a + 1, rfl, hlt, rfl, HF.out⟩
        · have HF : Hid (Lx.isName s.data.toList = true) := by rw [HR.out, ← HAL.out, sfx_end s a (by omega)]; rfl
          go_wp2_with fail
          go_ret
          exact ⟨congrArg (fun b => Ending.returned (.bool b)) HF.out.symm, rfl⟩
  · obtain rfl := empty_of h0
    go_enter Tryz.func23, Tryz.ntmps23
    go_wp2_with fail
    go_ret
    exact ⟨rfl, rfl⟩
end Go.Proofs.YtabcaljnpahgpaaGreatDoor
