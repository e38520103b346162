/-
  The document's lexer: one token. The document's lexer: one token, the other kinds. The document's lexer: one token, all kinds. What stands behind a token is the text's end from there. The document's lexer, walked whole: its code is the program's.
-/
import Derived.Test.YtefjgpkpplkkgaaGreatDoorZa20
import Derived.Test.YtefjgpkpplkkgaaGreatDoorZa14
import Derived.Test.YtefjgpkpplkkgaaGreatDoorZa4
import Derived.Test.YtefjgpkpplkkgaaGreatDoorZa17
namespace Go.Proofs.YtefjgpkpplkkgaaGreatDoor
set_option linter.unusedSimpArgs false
set_option linter.unusedVariables false
open Go Go.RowKit

/-- The place behind a token; none: 0. -/
def nxE (s : ByteArray) (a : Nat) : Nat := match Lx.token (sfx s a) with
  | none => 0
  | some (_, _, r) => s.size - r.length
theorem nx_range (s : ByteArray) (a : Nat) (ha : a < s.size) : nxE s a = 0 ∨ (a < nxE s a ∧ nxE s a ≤ s.size) := by
  unfold nxE
  cases h : Lx.token (sfx s a) with
  | none => exact .inl rfl
  | some p =>
    obtain ⟨k, T, r⟩ := p
    have := Lx.token_lt h
    rw [sfx_len] at this
    refine .inr ⟨?_, Nat.sub_le _ _⟩
    show a < s.size - r.length
    omega
theorem nx_word (s : ByteArray) (a : Nat) (h : Lx.isLetter (bt s a) = true) : nxE s a = s.size - ((sfx s a).dropWhile Lx.isWord).length := by
  unfold nxE Lx.token
  rw [hd_sfx, if_pos h]
theorem nx_num (s : ByteArray) (a : Nat) (h : Lx.isLetter (bt s a) = false) (h2 : (bt s a).toNat = 45 ∨ Lx.isDigit (bt s a) = true) : nxE s a = (numEnd8 s (Lx.number (sfx s a))).2 := by
  unfold nxE Lx.token
  rw [hd_sfx, if_neg (by simp [h]), if_pos h2]
  cases Lx.number (sfx s a) with
  | none => rfl
  | some p => rfl
theorem nx_block (s : ByteArray) (a : Nat) (h : Lx.isLetter (bt s a) = false) (h2 : ¬ ((bt s a).toNat = 45 ∨ Lx.isDigit (bt s a) = true)) (h3 : Lx.quotes3 (sfx s a) = true) : nxE s a = blE s (a + 3) := by
  unfold nxE blE Lx.token
  rw [hd_sfx, if_neg (by simp [h]), if_neg h2, if_pos h3, sfx_drop]
  cases Lx.block [] (sfx s (a + 3)) with
  | none => rfl
  | some p => rfl
theorem nx_text (s : ByteArray) (a : Nat) (h : Lx.isLetter (bt s a) = false) (h2 : ¬ ((bt s a).toNat = 45 ∨ Lx.isDigit (bt s a) = true)) (h3 : Lx.quotes3 (sfx s a) = false) (h4 : (bt s a).toNat = 34) : nxE s a = txE s (a + 1) := by
  unfold nxE txE Lx.token
  rw [hd_sfx, if_neg (by simp [h]), if_neg h2, if_neg (by simp [h3]), if_pos h4, sfx_drop]
  cases Lx.text [] (sfx s (a + 1)) with
  | none => rfl
  | some p => rfl
theorem nx_dots (s : ByteArray) (a : Nat) (h : Lx.isLetter (bt s a) = false) (h2 : ¬ ((bt s a).toNat = 45 ∨ Lx.isDigit (bt s a) = true)) (h3 : Lx.quotes3 (sfx s a) = false) (h4 : ¬ (bt s a).toNat = 34) (h5 : Lx.dots3 (sfx s a) = true) (h6 : a + 3 ≤ s.size) : nxE s a = a + 3 := by
  unfold nxE Lx.token
  rw [hd_sfx, if_neg (by simp [h]), if_neg h2, if_neg (by simp [h3]), if_neg h4, if_pos h5, sfx_drop]
  show s.size - (sfx s (a + 3)).length = _
  rw [sfx_len]
  omega
theorem nx_sign (s : ByteArray) (a : Nat) (ha : a < s.size) (h : Lx.isLetter (bt s a) = false) (h2 : ¬ ((bt s a).toNat = 45 ∨ Lx.isDigit (bt s a) = true)) (h3 : Lx.quotes3 (sfx s a) = false) (h4 : ¬ (bt s a).toNat = 34) (h5 : Lx.dots3 (sfx s a) = false) : nxE s a = if Lx.signs.contains (bt s a) then a + 1 else 0 := by
  unfold nxE Lx.token
  rw [hd_sfx, if_neg (by simp [h]), if_neg h2, if_neg (by simp [h3]), if_neg h4, if_neg (by simp [h5])]
  by_cases hc : Lx.signs.contains (bt s a) = true
  · have h0 : (bt s a).toNat ≠ 0 := by
      intro e
      have e0 : bt s a = 0 := UInt8.toNat_inj.1 e
      rw [e0] at hc
      exact absurd hc (by decide)
    rw [if_pos ⟨h0, hc⟩, if_pos hc, sfx_drop]
    show s.size - (sfx s (a + 1)).length = _
    rw [sfx_len]
    omega
  · rw [if_neg (fun e => hc e.2), if_neg hc]
theorem d3_extract (s : ByteArray) (a : Nat) : ((s.extract a (a + 3)).toList == [46, 46, 46]) = Lx.dots3 (sfx s a) := by
  rw [Lib.toList_data, extract_between, show a + 3 - a = 3 by omega]
  unfold Lx.dots3
  rw [Bool.eq_iff_iff]
  simp
theorem d3_short (s : ByteArray) (a : Nat) (h : ¬ a + 3 ≤ s.size) : Lx.dots3 (sfx s a) = false := by
  unfold Lx.dots3
  rw [decide_eq_false_iff_not]
  intro e
  have := congrArg List.length e
  rw [List.length_take, sfx_len] at this
  simp at this
  omega
theorem dw_yes (s : ByteArray) (b : Nat) (h : b < s.size) (hw : Lx.isWord (bt s b) = true) : (sfx s b).dropWhile Lx.isWord = (sfx s (b + 1)).dropWhile Lx.isWord := by
  rw [sfx_cons s b h, List.dropWhile_cons, if_pos hw]
theorem dw_no (s : ByteArray) (b : Nat) (h : b < s.size) (hw : Lx.isWord (bt s b) = false) : (sfx s b).dropWhile Lx.isWord = sfx s b := by
  rw [sfx_cons s b h, List.dropWhile_cons, if_neg (by simp [hw])]
theorem dw_end (s : ByteArray) (b : Nat) (h : s.size ≤ b) : (sfx s b).dropWhile Lx.isWord = [] := by
  rw [sfx_end s b h]; rfl
theorem tk_word (s : ByteArray) (a : Nat) (h : Lx.isLetter (bt s a) = true) : ∀ k' T' r', Lx.token (sfx s a) = some (k', T', r') → k' = 1 := by
  intro k' T' r' e
  unfold Lx.token at e
  rw [hd_sfx, if_pos h] at e
  cases e; rfl
theorem tk_num (s : ByteArray) (a k e : Nat) (ha : a < s.size) (h : Lx.isLetter (bt s a) = false) (h2 : (bt s a).toNat = 45 ∨ Lx.isDigit (bt s a) = true) (hke : numEnd8 s (Lx.number (sfx s a)) = (k, e)) : ∀ k' T' r', Lx.token (sfx s a) = some (k', T', r') → k = k' ∧ s.extract a e = ⟨T'.toArray⟩ := by
  intro k' T' r' ht
  unfold Lx.token at ht
  rw [hd_sfx, if_neg (by simp [h]), if_pos h2] at ht
  obtain ⟨p, hp, he⟩ := Option.map_eq_some_iff.1 ht
  cases he
  rw [hp] at hke
  have h1 : (p.1, s.size - p.2.length) = (k, e) := hke
  simp only [Prod.mk.injEq] at h1
  refine ⟨h1.1.symm, ?_⟩
  rw [extract_between, sfx_len, ← h1.2]
  congr 3
  omega
theorem tk_four (s : ByteArray) (a : Nat) (h : Lx.isLetter (bt s a) = false) (h2 : ¬ ((bt s a).toNat = 45 ∨ Lx.isDigit (bt s a) = true)) (h3 : Lx.quotes3 (sfx s a) = true ∨ (bt s a).toNat = 34) : ∀ k' T' r', Lx.token (sfx s a) = some (k', T', r') → k' = 4 := by
  intro k' T' r' e
  unfold Lx.token at e
  rw [hd_sfx, if_neg (by simp [h]), if_neg h2] at e
  split at e
  · obtain ⟨p, hp, he⟩ := Option.map_eq_some_iff.1 e
    cases he; rfl
  · rename_i hq
    rw [if_pos (h3.resolve_left hq)] at e
    obtain ⟨p, hp, he⟩ := Option.map_eq_some_iff.1 e
    cases he; rfl
theorem tk_five (s : ByteArray) (a : Nat) (h : Lx.isLetter (bt s a) = false) (h2 : ¬ ((bt s a).toNat = 45 ∨ Lx.isDigit (bt s a) = true)) (h3 : Lx.quotes3 (sfx s a) = false) (h4 : ¬ (bt s a).toNat = 34) : ∀ k' T' r', Lx.token (sfx s a) = some (k', T', r') → k' = 5 := by
  intro k' T' r' e
  unfold Lx.token at e
  rw [hd_sfx, if_neg (by simp [h]), if_neg h2, if_neg (by simp [h3]), if_neg h4] at e
  split at e
  · cases e; rfl
  split at e
  · cases e; rfl
  · cases e
theorem tk_gone (s : ByteArray) (a : Nat) (ha : a < s.size) (h : nxE s a = 0) (P : Nat → List UInt8 → List UInt8 → Prop) : ∀ k' T' r', Lx.token (sfx s a) = some (k', T', r') → P k' T' r' := by
  intro k' T' r' e
  have h2 := Lx.token_lt e
  rw [sfx_len] at h2
  have h4 : nxE s a = s.size - r'.length := by unfold nxE; rw [e]
  omega
def NxPost (s : ByteArray) (a : Nat) (w : World) (r : Ending) (w' : World) : Prop := ∃ (k : Int) (t : ByteArray), r = .returned (.tuple #[.agg #[.int .i64 k, .string t, .int .i64 a], .int .i64 (nxE s a : Nat)]) ∧ Below w.heap.size w w' ∧ (∀ k' T' r', Lx.token (sfx s a) = some (k', T', r') → k = (k' : Nat) ∧ ((k' = 2 ∨ k' = 3) → t = ⟨T'.toArray⟩))
set_option maxHeartbeats 4000000 in
set_option maxRecDepth 100000 in
theorem refNext_word (s : ByteArray) (a : Nat) (w : World) (hs : s.size ≤ 4096) (ha : a < s.size) (hl : Lx.isLetter (bt s a) = true) :
    Calls Tryz.prog 42 #[.string s, .int .i64 a] w (NxPost s a w) := by
  have hs1 : s.size ≤ 9223372036854775807 := by omega
  have ha0 : (0 : Int) ≤ (a : Int) := Int.natCast_nonneg _
  have hzz : (0 : Int) ≤ (s.size : Int) := Int.natCast_nonneg _
  have ha1 : (a : Int) < s.size := by omega
  have HL := Lib.hid hl
  have HE := Lib.hid (nx_word s a hl)
  have HTK := Lib.hid (tk_word s a hl)
  obtain ⟨dg, hdg⟩ : ∃ dg, dg = (sfx s a).dropWhile Lx.isWord := ⟨_, rfl⟩
  have HDG := Lib.hid hdg
  rw [← hdg] at HE
  clear hl hdg
  go_enter Tryz.func42, Tryz.ntmps42
  go_wp2_with (first | (go_at_call 92; refine (refLetter_any _ _).mono ?_; rintro e w' ⟨rfl, hw'⟩; obtain rfl := hw'.symm; rw [HL.out]) | fail)
  go_loopg [8] (s.size + 1 - a) (fun k i wr => ∃ b : Nat, k = s.size + 1 - b ∧ a ≤ b ∧ b ≤ s.size ∧ i = .int .i64 (b : Nat) ∧ (sfx s b).dropWhile Lx.isWord = dg ∧ wr = ((w.alloc (Obj.cells #[Value.int IntKind.i64 0, Value.string { data := #[] }, Value.int IntKind.i64 0] 83)).alloc (Obj.cells #[Value.int IntKind.i64 0, Value.string { data := #[] }, Value.int IntKind.i64 ↑a] 83)))
  case atStart => exact ⟨a, rfl, Nat.le_refl _, by omega, rfl, HDG.out.symm, rfl⟩
  case round =>
    obtain ⟨b, hk, hab, hb, rfl, hv, rfl⟩ := hrel
    have HK := Lib.hid hk
    have HV := Lib.hid hv
    clear hk hv HDG
    have hb0 : (0 : Int) ≤ (b : Int) := Int.natCast_nonneg _
    by_cases hlt : b < s.size
    · have hlt1 : (b : Int) < s.size := by omega
      have hcs : (Lx.isLetter (bt s b) = true ∧ Lx.isWord (bt s b) = true) ∨ (Lx.isLetter (bt s b) = false ∧ Lx.isDigit (bt s b) = true ∧ Lx.isWord (bt s b) = true) ∨ (Lx.isLetter (bt s b) = false ∧ Lx.isDigit (bt s b) = false ∧ Lx.isWord (bt s b) = false) := by
        unfold Lx.isWord
        cases Lx.isLetter (bt s b) <;> cases Lx.isDigit (bt s b) <;> simp
      rcases hcs with ⟨c1, c3⟩ | ⟨c1, c2, c3⟩ | ⟨c1, c2, c3⟩
      · have HD := Lib.hid c1
        have HN := Lib.hid ((dw_yes s b hlt c3).symm.trans HV.out)
        clear c1 c3
        go_wp2_with (first | (go_at_call 92; refine (refLetter_any _ _).mono ?_; rintro e w' ⟨rfl, hw'⟩; obtain rfl := hw'.symm; rw [HD.out]) | fail)
        go_roundg (s.size + 1 - (b + 1))
        case measure => rw [HK.out]; omega
        case rel => exact ⟨b + 1, rfl, by omega, hlt, by go_num, HN.out, rfl⟩
      · have HD := Lib.hid c1
        have HD2 := Lib.hid c2
        have HN := Lib.hid ((dw_yes s b hlt c3).symm.trans HV.out)
        clear c1 c2 c3
        go_wp2_with (first | (go_at_call 92; refine (refLetter_any _ _).mono ?_; rintro e w' ⟨rfl, hw'⟩; obtain rfl := hw'.symm; rw [HD.out]) | (go_at_call 93; refine (refDigit_any _ _).mono ?_; rintro e w' ⟨rfl, hw'⟩; obtain rfl := hw'.symm; rw [HD2.out]) | fail)
        go_roundg (s.size + 1 - (b + 1))
        case measure => rw [HK.out]; omega
        case rel => exact ⟨b + 1, rfl, by omega, hlt, by go_num, HN.out, rfl⟩
      · have hne : b ≠ a := by
          rintro rfl
          rw [HL.out] at c1
          cases c1
        have hpos : (0 : Int) < (b : Int) := by omega
        have hpos2 : 0 < b := by omega
        have HD := Lib.hid c1
        have HD2 := Lib.hid c2
        have HN : Hid (nxE s a = b) := Lib.hid (by
          rw [HE.out, ← HV.out, dw_no s b hlt c3, sfx_len]; omega)
        clear c1 c2 c3 hne
        go_wp2_with (first | (go_at_call 92; refine (refLetter_any _ _).mono ?_; rintro e w' ⟨rfl, hw'⟩; obtain rfl := hw'.symm; rw [HD.out]) | (go_at_call 93; refine (refDigit_any _ _).mono ?_; rintro e w' ⟨rfl, hw'⟩; obtain rfl := hw'.symm; rw [HD2.out]) | fail)
        refine bodyPost_ret (v := .tuple #[.agg #[.int .i64 1, .string (s.extract a b), .int .i64 a], .int .i64 (nxE s a : Nat)]) (by rw [HN.out]; simp [results, Tryz.results42, go_sem]) rfl ⟨1, (s.extract a b), rfl, ?_, (fun k' T' r' h => by have := HTK.out k' T' r' h; subst this; exact ⟨rfl, fun h => by omega⟩)⟩
        (repeat' (first | (with_reducible assumption) | (with_reducible exact Below.refl _ _) | (with_reducible refine Below.drewN ?_ _) | (with_reducible refine Below.drew ?_) | (with_reducible refine Below.alloc ?_ ?_ _))) <;> (simp; try omega)
    · have hlt1 : (s.size : Int) ≤ b := by omega
      have hpos : (0 : Int) < (b : Int) := by omega
      have hpos2 : 0 < b := by omega
      have HN : Hid (nxE s a = b) := Lib.hid (by
        rw [HE.out, ← HV.out, dw_end s b (by omega)]; show s.size - 0 = b; omega)
      go_wp2_with fail
      refine bodyPost_ret (v := .tuple #[.agg #[.int .i64 1, .string (s.extract a b), .int .i64 a], .int .i64 (nxE s a : Nat)]) (by rw [HN.out]; simp [results, Tryz.results42, go_sem]) rfl ⟨1, (s.extract a b), rfl, ?_, (fun k' T' r' h => by have := HTK.out k' T' r' h; subst this; exact ⟨rfl, fun h => by omega⟩)⟩
      (repeat' (first | (with_reducible assumption) | (with_reducible exact Below.refl _ _) | (with_reducible refine Below.drewN ?_ _) | (with_reducible refine Below.drew ?_) | (with_reducible refine Below.alloc ?_ ?_ _))) <;> (simp; try omega)
set_option maxHeartbeats 4000000 in
set_option maxRecDepth 100000 in
theorem refNext_num (s : ByteArray) (a : Nat) (w : World) (hs : s.size ≤ 4096) (ha : a < s.size) (hl : Lx.isLetter (bt s a) = false) (h2 : (bt s a).toNat = 45 ∨ Lx.isDigit (bt s a) = true) :
    Calls Tryz.prog 42 #[.string s, .int .i64 a] w (NxPost s a w) := by
  have hs1 : s.size ≤ 9223372036854775807 := by omega
  have ha0 : (0 : Int) ≤ (a : Int) := Int.natCast_nonneg _
  have hzz : (0 : Int) ≤ (s.size : Int) := Int.natCast_nonneg _
  have ha1 : (a : Int) < s.size := by omega
  have hrg := nx_range s a ha
  have HL := Lib.hid hl
  obtain ⟨k, e, hke⟩ : ∃ k e, numEnd8 s (Lx.number (sfx s a)) = (k, e) := ⟨_, _, rfl⟩
  have hE := nx_num s a hl h2
  have HTK := Lib.hid (tk_num s a k e ha hl h2 hke)
  rw [hke] at hE
  have HN : Hid (nxE s a = e) := Lib.hid hE
  have HNUM : Hid (∀ w, Calls Tryz.prog 107 #[.string s, .int .i64 a] w fun r w' => r = .returned (.tuple #[.int .i64 k, .int .i64 e]) ∧ w' = w) := Lib.hid fun w => refNumber_any s a w hs (by omega) k e hke
  rw [hE] at hrg
  have hcs : (((bt s a).toNat : Int) == 45) = true ∨ ((((bt s a).toNat : Int) == 45) = false ∧ Lx.isDigit (bt s a) = true) := by
    by_cases h : (bt s a).toNat = 45
    · exact .inl (eqT (by omega))
    · exact .inr ⟨eqF (by omega), h2.resolve_left h⟩
  have he0 : (0 : Int) ≤ (e : Int) := Int.natCast_nonneg _
  clear hl hke hE h2
  rcases hrg with h0 | ⟨h1, h3⟩
  · have t0 : decide (e > 0) = false := decide_eq_false (by omega)
    subst h0
    rcases hcs with c1 | ⟨c1, c2⟩
    · go_enter Tryz.func42, Tryz.ntmps42
      go_wp2_with (first | (go_at_call 92; refine (refLetter_any _ _).mono ?_; rintro e w' ⟨rfl, hw'⟩; obtain rfl := hw'.symm; rw [HL.out]) | (go_at_call 107; refine (HNUM.out _).mono ?_; rintro e2 w2 ⟨rfl, hw2⟩; obtain rfl := hw2.symm) | fail)
      refine bodyPost_ret (v := .tuple #[.agg #[.int .i64 k, .string ⟨#[]⟩, .int .i64 a], .int .i64 (nxE s a : Nat)]) (by rw [HN.out]; simp [results, Tryz.results42, go_sem]) rfl ⟨k, ⟨#[]⟩, rfl, ?_, (fun k' T' r' h => tk_gone s a ha HN.out (fun k' T' r' => (k : Int) = (k' : Nat) ∧ ((k' = 2 ∨ k' = 3) → (⟨#[]⟩ : ByteArray) = ⟨T'.toArray⟩)) k' T' r' h)⟩
      (repeat' (first | (with_reducible assumption) | (with_reducible exact Below.refl _ _) | (with_reducible refine Below.drewN ?_ _) | (with_reducible refine Below.drew ?_) | (with_reducible refine Below.alloc ?_ ?_ _))) <;> (simp; try omega)
    · have HD := Lib.hid c2
      clear c2
      go_enter Tryz.func42, Tryz.ntmps42
      go_wp2_with (first | (go_at_call 92; refine (refLetter_any _ _).mono ?_; rintro e w' ⟨rfl, hw'⟩; obtain rfl := hw'.symm; rw [HL.out]) | (go_at_call 93; refine (refDigit_any _ _).mono ?_; rintro e w' ⟨rfl, hw'⟩; obtain rfl := hw'.symm; rw [HD.out]) | (go_at_call 107; refine (HNUM.out _).mono ?_; rintro e2 w2 ⟨rfl, hw2⟩; obtain rfl := hw2.symm) | fail)
      refine bodyPost_ret (v := .tuple #[.agg #[.int .i64 k, .string ⟨#[]⟩, .int .i64 a], .int .i64 (nxE s a : Nat)]) (by rw [HN.out]; simp [results, Tryz.results42, go_sem]) rfl ⟨k, ⟨#[]⟩, rfl, ?_, (fun k' T' r' h => tk_gone s a ha HN.out (fun k' T' r' => (k : Int) = (k' : Nat) ∧ ((k' = 2 ∨ k' = 3) → (⟨#[]⟩ : ByteArray) = ⟨T'.toArray⟩)) k' T' r' h)⟩
      (repeat' (first | (with_reducible assumption) | (with_reducible exact Below.refl _ _) | (with_reducible refine Below.drewN ?_ _) | (with_reducible refine Below.drew ?_) | (with_reducible refine Below.alloc ?_ ?_ _))) <;> (simp; try omega)
  · have hpos : (0 : Int) < (e : Int) := by omega
    have hpos2 : 0 < e := by omega
    rcases hcs with c1 | ⟨c1, c2⟩
    · go_enter Tryz.func42, Tryz.ntmps42
      go_wp2_with (first | (go_at_call 92; refine (refLetter_any _ _).mono ?_; rintro e w' ⟨rfl, hw'⟩; obtain rfl := hw'.symm; rw [HL.out]) | (go_at_call 107; refine (HNUM.out _).mono ?_; rintro e2 w2 ⟨rfl, hw2⟩; obtain rfl := hw2.symm) | fail)
      refine bodyPost_ret (v := .tuple #[.agg #[.int .i64 k, .string (s.extract a e), .int .i64 a], .int .i64 (nxE s a : Nat)]) (by rw [HN.out]; simp [results, Tryz.results42, go_sem]) rfl ⟨k, (s.extract a e), rfl, ?_, (fun k' T' r' h => ⟨by rw [(HTK.out k' T' r' h).1], fun _ => (HTK.out k' T' r' h).2⟩)⟩
      (repeat' (first | (with_reducible assumption) | (with_reducible exact Below.refl _ _) | (with_reducible refine Below.drewN ?_ _) | (with_reducible refine Below.drew ?_) | (with_reducible refine Below.alloc ?_ ?_ _))) <;> (simp; try omega)
    · have HD := Lib.hid c2
      clear c2
      go_enter Tryz.func42, Tryz.ntmps42
      go_wp2_with (first | (go_at_call 92; refine (refLetter_any _ _).mono ?_; rintro e w' ⟨rfl, hw'⟩; obtain rfl := hw'.symm; rw [HL.out]) | (go_at_call 93; refine (refDigit_any _ _).mono ?_; rintro e w' ⟨rfl, hw'⟩; obtain rfl := hw'.symm; rw [HD.out]) | (go_at_call 107; refine (HNUM.out _).mono ?_; rintro e2 w2 ⟨rfl, hw2⟩; obtain rfl := hw2.symm) | fail)
      refine bodyPost_ret (v := .tuple #[.agg #[.int .i64 k, .string (s.extract a e), .int .i64 a], .int .i64 (nxE s a : Nat)]) (by rw [HN.out]; simp [results, Tryz.results42, go_sem]) rfl ⟨k, (s.extract a e), rfl, ?_, (fun k' T' r' h => ⟨by rw [(HTK.out k' T' r' h).1], fun _ => (HTK.out k' T' r' h).2⟩)⟩
      (repeat' (first | (with_reducible assumption) | (with_reducible exact Below.refl _ _) | (with_reducible refine Below.drewN ?_ _) | (with_reducible refine Below.drew ?_) | (with_reducible refine Below.alloc ?_ ?_ _))) <;> (simp; try omega)
end Go.Proofs.YtefjgpkpplkkgaaGreatDoor
namespace Go.Proofs.YtefjgpkpplkkgaaGreatDoor
set_option linter.unusedSimpArgs false
set_option linter.unusedVariables false
open Go Go.RowKit

set_option maxHeartbeats 4000000 in
set_option maxRecDepth 100000 in
theorem refNext_block (s : ByteArray) (a : Nat) (w : World) (hs : s.size ≤ 4096) (ha : a < s.size) (hl : Lx.isLetter (bt s a) = false) (h2 : ¬ ((bt s a).toNat = 45 ∨ Lx.isDigit (bt s a) = true)) (h3 : Lx.quotes3 (sfx s a) = true) :
    Calls Tryz.prog 42 #[.string s, .int .i64 a] w (NxPost s a w) := by
  have hs1 : s.size ≤ 9223372036854775807 := by omega
  have ha0 : (0 : Int) ≤ (a : Int) := Int.natCast_nonneg _
  have hzz : (0 : Int) ≤ (s.size : Int) := Int.natCast_nonneg _
  have ha1 : (a : Int) < s.size := by omega
  have hrg := nx_range s a ha
  have HL := Lib.hid hl
  have HTK := Lib.hid (tk_four s a hl h2 (.inl h3))
  have HN : Hid (nxE s a = blE s (a + 3)) := Lib.hid (nx_block s a hl h2 h3)
  have hd : Lx.isDigit (bt s a) = false := by
    cases h : Lx.isDigit (bt s a)
    · rfl
    · exact absurd (.inr h) h2
  have HD := Lib.hid hd
  have c1 := eqF (n := (bt s a).toNat) (k := 45) (by omega)
  have H3 := Lib.hid h3
  have hq := q3_len h3
  clear hl hd h2 h3 hrg
  go_enter Tryz.func42, Tryz.ntmps42
  go_wp2_with (first | (go_at_call 92; refine (refLetter_any _ _).mono ?_; rintro e w' ⟨rfl, hw'⟩; obtain rfl := hw'.symm; rw [HL.out]) | (go_at_call 93; refine (refDigit_any _ _).mono ?_; rintro e w' ⟨rfl, hw'⟩; obtain rfl := hw'.symm; rw [HD.out]) | (go_at_call 108; refine (refThree_any s a _ hs (by omega) _ rfl).mono ?_; rintro e w' ⟨rfl, hw'⟩; obtain rfl := hw'.symm; rw [H3.out]) | fail)
  obtain ⟨W, hW⟩ : ∃ W, W = ((w.alloc (Obj.cells #[Value.int IntKind.i64 0, Value.string { data := #[] }, Value.int IntKind.i64 0] 83)).alloc (Obj.cells #[Value.int IntKind.i64 4, Value.string { data := #[] }, Value.int IntKind.i64 ↑a] 83)) := ⟨_, rfl⟩
  have hsz : W.heap.size = w.heap.size + 2 := by rw [hW]; simp
  have hbW : Below w.heap.size w W := by
    rw [hW]
    (repeat' (first | (with_reducible assumption) | (with_reducible exact Below.refl _ _) | (with_reducible refine Below.drewN ?_ _) | (with_reducible refine Below.drew ?_) | (with_reducible refine Below.alloc ?_ ?_ _))) <;> (simp; try omega)
  have hx0 : W.heap[w.heap.size]? = some (Obj.cells #[Value.int IntKind.i64 0, Value.string { data := #[] }, Value.int IntKind.i64 0] 83) := by
    rw [hW, Below.heap_alloc _ _ _ (by simp)]
    exact heap_at_new _ _
  have hx1 : W.heap[w.heap.size + 1]? = some (Obj.cells #[Value.int IntKind.i64 4, Value.string { data := #[] }, Value.int IntKind.i64 ↑a] 83) := by
    have := heap_at_new (w.alloc (Obj.cells #[Value.int IntKind.i64 0, Value.string { data := #[] }, Value.int IntKind.i64 0] 83)) (Obj.cells #[Value.int IntKind.i64 4, Value.string { data := #[] }, Value.int IntKind.i64 ↑a] 83)
    rw [show (w.alloc (Obj.cells #[Value.int IntKind.i64 0, Value.string { data := #[] }, Value.int IntKind.i64 0] 83)).heap.size = w.heap.size + 1 by simp] at this
    rw [hW]; exact this
  rw [← hW]
  refine (refBlock_any s a W hs hq).mono ?_
  rintro e w9 ⟨t, ht, rfl, hb9⟩
  have hy0 := (hb9.block w.heap.size (by omega)).trans hx0
  have hy1 := (hb9.block (w.heap.size + 1) (by omega)).trans hx1
  have HB9 := Lib.hid (hbW.trans (hb9.mono (by omega)))
  have hs9 : w.heap.size + 2 ≤ w9.heap.size := by rw [← hsz]; exact hb9.size
  clear hW hsz hbW hx0 hx1 hb9
  have z0 := blk_cell hy0 0 (.int .i64 0) rfl
  have z1 := blk_cell hy0 1 (.string ⟨#[]⟩) rfl
  have z2 := blk_cell hy0 2 (.int .i64 0) rfl
  have y0 := blk_cell hy1 0 (.int .i64 4) rfl
  have y1 := blk_cell hy1 1 (.string ⟨#[]⟩) rfl
  have y2 := blk_cell hy1 2 (.int .i64 a) rfl
  have q0 := Lib.frozen_of_heap hy0 0
  have q1 := Lib.frozen_of_heap hy0 1
  have q2 := Lib.frozen_of_heap hy0 2
  have p0 := Lib.frozen_of_heap hy1 0
  have p1 := Lib.frozen_of_heap hy1 1
  have p2 := Lib.frozen_of_heap hy1 2
  have HY0 := Lib.hid hy0
  clear hy0 hy1
  go_wp2_with fail
  have hX := heap_set1 (k := 2) (v := .int .i64 (a : Int)) (heap_set1 (k := 1) (v := .string t) (heap_set1 (k := 0) (v := .int .i64 4) ((heap_set_ne (w := w9) (b := w.heap.size + 1) (k := 1) (v := .string t) (c := w.heap.size) (by omega)).trans HY0.out)))
  have e0 := blk_cell hX 0 (.int .i64 4) rfl
  have e1 := blk_cell hX 1 (.string t) rfl
  have e2 := blk_cell hX 2 (.int .i64 a) rfl
  refine bodyPost_ret (v := .tuple #[.agg #[.int .i64 4, .string t, .int .i64 a], .int .i64 (nxE s a : Nat)]) (by rw [HN.out]; simp [results, Tryz.results42, go_sem, e0, e1, e2]) rfl ⟨4, t, rfl, ?_, (fun k' T' r' h => by have := HTK.out k' T' r' h; subst this; exact ⟨rfl, fun h => by omega⟩)⟩
  exact (((HB9.out.setCell (by show w.heap.size ≤ w.heap.size + 1; omega) _).setCell (Nat.le_refl _) _).setCell (Nat.le_refl _) _).setCell (Nat.le_refl _) _
set_option maxHeartbeats 4000000 in
set_option maxRecDepth 100000 in
theorem refNext_text (s : ByteArray) (a : Nat) (w : World) (hs : s.size ≤ 4096) (ha : a < s.size) (hl : Lx.isLetter (bt s a) = false) (h2 : ¬ ((bt s a).toNat = 45 ∨ Lx.isDigit (bt s a) = true)) (h3 : Lx.quotes3 (sfx s a) = false) (h4 : (bt s a).toNat = 34) :
    Calls Tryz.prog 42 #[.string s, .int .i64 a] w (NxPost s a w) := by
  have hs1 : s.size ≤ 9223372036854775807 := by omega
  have ha0 : (0 : Int) ≤ (a : Int) := Int.natCast_nonneg _
  have hzz : (0 : Int) ≤ (s.size : Int) := Int.natCast_nonneg _
  have ha1 : (a : Int) < s.size := by omega
  have hrg := nx_range s a ha
  have HL := Lib.hid hl
  have HTK := Lib.hid (tk_four s a hl h2 (.inr h4))
  have HN : Hid (nxE s a = txE s (a + 1)) := Lib.hid (nx_text s a hl h2 h3 h4)
  have hd : Lx.isDigit (bt s a) = false := by
    cases h : Lx.isDigit (bt s a)
    · rfl
    · exact absurd (.inr h) h2
  have HD := Lib.hid hd
  have c1 := eqF (n := (bt s a).toNat) (k := 45) (by omega)
  have c2 := eqT (n := (bt s a).toNat) (k := 34) (by omega)
  have H3 := Lib.hid h3
  clear hl hd h2 h3 hrg h4
  go_enter Tryz.func42, Tryz.ntmps42
  go_wp2_with (first | (go_at_call 92; refine (refLetter_any _ _).mono ?_; rintro e w' ⟨rfl, hw'⟩; obtain rfl := hw'.symm; rw [HL.out]) | (go_at_call 93; refine (refDigit_any _ _).mono ?_; rintro e w' ⟨rfl, hw'⟩; obtain rfl := hw'.symm; rw [HD.out]) | (go_at_call 108; refine (refThree_any s a _ hs (by omega) _ rfl).mono ?_; rintro e w' ⟨rfl, hw'⟩; obtain rfl := hw'.symm; rw [H3.out]) | fail)
  obtain ⟨W, hW⟩ : ∃ W, W = ((w.alloc (Obj.cells #[Value.int IntKind.i64 0, Value.string { data := #[] }, Value.int IntKind.i64 0] 83)).alloc (Obj.cells #[Value.int IntKind.i64 4, Value.string { data := #[] }, Value.int IntKind.i64 ↑a] 83)) := ⟨_, rfl⟩
  have hsz : W.heap.size = w.heap.size + 2 := by rw [hW]; simp
  have hbW : Below w.heap.size w W := by
    rw [hW]
    (repeat' (first | (with_reducible assumption) | (with_reducible exact Below.refl _ _) | (with_reducible refine Below.drewN ?_ _) | (with_reducible refine Below.drew ?_) | (with_reducible refine Below.alloc ?_ ?_ _))) <;> (simp; try omega)
  have hx0 : W.heap[w.heap.size]? = some (Obj.cells #[Value.int IntKind.i64 0, Value.string { data := #[] }, Value.int IntKind.i64 0] 83) := by
    rw [hW, Below.heap_alloc _ _ _ (by simp)]
    exact heap_at_new _ _
  have hx1 : W.heap[w.heap.size + 1]? = some (Obj.cells #[Value.int IntKind.i64 4, Value.string { data := #[] }, Value.int IntKind.i64 ↑a] 83) := by
    have := heap_at_new (w.alloc (Obj.cells #[Value.int IntKind.i64 0, Value.string { data := #[] }, Value.int IntKind.i64 0] 83)) (Obj.cells #[Value.int IntKind.i64 4, Value.string { data := #[] }, Value.int IntKind.i64 ↑a] 83)
    rw [show (w.alloc (Obj.cells #[Value.int IntKind.i64 0, Value.string { data := #[] }, Value.int IntKind.i64 0] 83)).heap.size = w.heap.size + 1 by simp] at this
    rw [hW]; exact this
  rw [← hW]
  refine (refText_any s a W hs ha).mono ?_
  rintro e w9 ⟨t, ht, rfl, hb9⟩
  have hy0 := (hb9.block w.heap.size (by omega)).trans hx0
  have hy1 := (hb9.block (w.heap.size + 1) (by omega)).trans hx1
  have HB9 := Lib.hid (hbW.trans (hb9.mono (by omega)))
  have hs9 : w.heap.size + 2 ≤ w9.heap.size := by rw [← hsz]; exact hb9.size
  clear hW hsz hbW hx0 hx1 hb9
  have z0 := blk_cell hy0 0 (.int .i64 0) rfl
  have z1 := blk_cell hy0 1 (.string ⟨#[]⟩) rfl
  have z2 := blk_cell hy0 2 (.int .i64 0) rfl
  have y0 := blk_cell hy1 0 (.int .i64 4) rfl
  have y1 := blk_cell hy1 1 (.string ⟨#[]⟩) rfl
  have y2 := blk_cell hy1 2 (.int .i64 a) rfl
  have q0 := Lib.frozen_of_heap hy0 0
  have q1 := Lib.frozen_of_heap hy0 1
  have q2 := Lib.frozen_of_heap hy0 2
  have p0 := Lib.frozen_of_heap hy1 0
  have p1 := Lib.frozen_of_heap hy1 1
  have p2 := Lib.frozen_of_heap hy1 2
  have HY0 := Lib.hid hy0
  clear hy0 hy1
  go_wp2_with fail
  have hX := heap_set1 (k := 2) (v := .int .i64 (a : Int)) (heap_set1 (k := 1) (v := .string t) (heap_set1 (k := 0) (v := .int .i64 4) ((heap_set_ne (w := w9) (b := w.heap.size + 1) (k := 1) (v := .string t) (c := w.heap.size) (by omega)).trans HY0.out)))
  have e0 := blk_cell hX 0 (.int .i64 4) rfl
  have e1 := blk_cell hX 1 (.string t) rfl
  have e2 := blk_cell hX 2 (.int .i64 a) rfl
  refine bodyPost_ret (v := .tuple #[.agg #[.int .i64 4, .string t, .int .i64 a], .int .i64 (nxE s a : Nat)]) (by rw [HN.out]; simp [results, Tryz.results42, go_sem, e0, e1, e2]) rfl ⟨4, t, rfl, ?_, (fun k' T' r' h => by have := HTK.out k' T' r' h; subst this; exact ⟨rfl, fun h => by omega⟩)⟩
  exact (((HB9.out.setCell (by show w.heap.size ≤ w.heap.size + 1; omega) _).setCell (Nat.le_refl _) _).setCell (Nat.le_refl _) _).setCell (Nat.le_refl _) _
end Go.Proofs.YtefjgpkpplkkgaaGreatDoor
namespace Go.Proofs.YtefjgpkpplkkgaaGreatDoor
set_option linter.unusedSimpArgs false
set_option linter.unusedVariables false
open Go Go.RowKit

def sgB : ByteArray := ⟨#[33, 36, 38, 40, 41, 58, 61, 64, 91, 93, 123, 124, 125]⟩
theorem sg_fin : ∀ j : Fin 13, bt sgB j.val = Lx.signs.getD j.val 0 := by decide +kernel
theorem sg_step (c : UInt8) (j : Nat) (h : j < 13) : (Lx.signs.take (j + 1)).contains c = ((Lx.signs.take j).contains c || (bt sgB j == c)) := by
  have e : Lx.signs[j]? = some (bt sgB j) := by
    have h1 := sg_fin ⟨j, h⟩
    have h2 : j < Lx.signs.length := h
    rw [List.getElem?_eq_getElem h2, h1, List.getD_eq_getElem?_getD, List.getElem?_eq_getElem h2]
    rfl
  rw [List.take_add_one, e]
  rw [Bool.eq_iff_iff]
  simp
  constructor
  · rintro (h | h)
    · exact .inl h
    · exact .inr h.symm
  · rintro (h | h)
    · exact .inl h
    · exact .inr h.symm
set_option maxHeartbeats 4000000 in
set_option maxRecDepth 100000 in
theorem refNext_rest (s : ByteArray) (a : Nat) (w : World) (hs : s.size ≤ 4096) (ha : a < s.size) (hl : Lx.isLetter (bt s a) = false) (h2 : ¬ ((bt s a).toNat = 45 ∨ Lx.isDigit (bt s a) = true)) (h3 : Lx.quotes3 (sfx s a) = false) (h4 : ¬ (bt s a).toNat = 34) :
    Calls Tryz.prog 42 #[.string s, .int .i64 a] w (NxPost s a w) := by
  have hs1 : s.size ≤ 9223372036854775807 := by omega
  have ha0 : (0 : Int) ≤ (a : Int) := Int.natCast_nonneg _
  have hzz : (0 : Int) ≤ (s.size : Int) := Int.natCast_nonneg _
  have ha1 : (a : Int) < s.size := by omega
  have hrg := nx_range s a ha
  have HL := Lib.hid hl
  have hd : Lx.isDigit (bt s a) = false := by
    cases h : Lx.isDigit (bt s a)
    · rfl
    · exact absurd (.inr h) h2
  have HD := Lib.hid hd
  have c1 := eqF (n := (bt s a).toNat) (k := 45) (by omega)
  have c2 := eqF (n := (bt s a).toNat) (k := 34) (by omega)
  have H3 := Lib.hid h3
  have hd3 := d3_extract s a
  cases h5 : Lx.dots3 (sfx s a) with
  | true =>
    have h6 : a + 3 ≤ s.size := by
      rcases Nat.lt_or_ge s.size (a + 3) with h | h
      · rw [d3_short s a (by omega)] at h5; cases h5
      · exact h
    have HTK := Lib.hid (tk_five s a hl h2 h3 h4)
    have HN : Hid (nxE s a = a + 3) := Lib.hid (nx_dots s a hl h2 h3 h4 h5 h6)
    rw [h5] at hd3
    have h7 : (a : Int) + 3 ≤ s.size := by omega
    have e1 : decide ((a : Int) + 3 ≤ (s.size : Int)) = true := decide_eq_true h7
    have hpos : (0 : Int) < (a : Int) + 3 := by omega
    clear hl hd h2 h3 hrg h4 h5
    go_enter Tryz.func42, Tryz.ntmps42
    go_wp2_with (first | (go_at_call 92; refine (refLetter_any _ _).mono ?_; rintro e w' ⟨rfl, hw'⟩; obtain rfl := hw'.symm; rw [HL.out]) | (go_at_call 93; refine (refDigit_any _ _).mono ?_; rintro e w' ⟨rfl, hw'⟩; obtain rfl := hw'.symm; rw [HD.out]) | (go_at_call 108; refine (refThree_any s a _ hs (by omega) _ rfl).mono ?_; rintro e w' ⟨rfl, hw'⟩; obtain rfl := hw'.symm; rw [H3.out]) | fail)
    refine bodyPost_ret (v := .tuple #[.agg #[.int .i64 5, .string (s.extract a (a + 3)), .int .i64 a], .int .i64 (nxE s a : Nat)]) (by rw [HN.out]; simp [results, Tryz.results42, go_sem]) rfl ⟨5, (s.extract a (a + 3)), rfl, ?_, (fun k' T' r' h => by have := HTK.out k' T' r' h; subst this; exact ⟨rfl, fun h => by omega⟩)⟩
    (repeat' (first | (with_reducible assumption) | (with_reducible exact Below.refl _ _) | (with_reducible refine Below.drewN ?_ _) | (with_reducible refine Below.drew ?_) | (with_reducible refine Below.alloc ?_ ?_ _))) <;> (simp; try omega)
  | false =>
    rw [h5] at hd3
    have HTK := Lib.hid (tk_five s a hl h2 h3 h4)
    have HE := Lib.hid (nx_sign s a ha hl h2 h3 h4 h5)
    have hcs : decide ((a : Int) + 3 ≤ (s.size : Int)) = false ∨ (decide ((a : Int) + 3 ≤ (s.size : Int)) = true ∧ (a : Int) + 3 ≤ (s.size : Int)) := by
      by_cases h : (a : Int) + 3 ≤ (s.size : Int)
      · exact .inr ⟨decide_eq_true h, h⟩
      · exact .inl (decide_eq_false h)
    obtain ⟨c, hc⟩ : ∃ c, c = bt s a := ⟨_, rfl⟩
    clear hl hd h2 h3 hrg h4 h5
    rcases hcs with e1 | ⟨e1, h7⟩
    all_goals
      go_enter Tryz.func42, Tryz.ntmps42
      go_wp2_with (first | (go_at_call 92; refine (refLetter_any _ _).mono ?_; rintro e w' ⟨rfl, hw'⟩; obtain rfl := hw'.symm; rw [HL.out]) | (go_at_call 93; refine (refDigit_any _ _).mono ?_; rintro e w' ⟨rfl, hw'⟩; obtain rfl := hw'.symm; rw [HD.out]) | (go_at_call 108; refine (refThree_any s a _ hs (by omega) _ rfl).mono ?_; rintro e w' ⟨rfl, hw'⟩; obtain rfl := hw'.symm; rw [H3.out]) | fail)
      go_loopg [8, 10] 14 (fun k v8 v10 wr => ∃ (j e : Nat) (kd : Int), k = 14 - j ∧ j ≤ 13 ∧ e = (if (Lx.signs.take j).contains (bt s a) then a + 1 else 0) ∧ (e ≠ 0 → kd = 5) ∧ v8 = .int .i64 (e : Nat) ∧ v10 = .int .i64 (j : Nat) ∧ wr = ((w.alloc (Obj.cells #[Value.int IntKind.i64 0, Value.string { data := #[] }, Value.int IntKind.i64 0] 83)).alloc (Obj.cells #[Value.int IntKind.i64 kd, Value.string { data := #[] }, Value.int IntKind.i64 ↑a] 83)))
      case atStart => exact ⟨0, 0, 0, rfl, by omega, rfl, fun h => absurd rfl h, rfl, rfl, rfl⟩
      case round =>
        obtain ⟨j, e, kd, hk, hj, he, hkd, rfl, rfl, rfl⟩ := hrel
        have HKD := Lib.hid hkd
        clear hkd
        have HK := Lib.hid hk
        have HEQ := Lib.hid he
        have hj0 : (0 : Int) ≤ (j : Int) := Int.natCast_nonneg _
        clear hk he
        by_cases hjl : j < 13
        · have e8 : decide ((j : Int) < 13) = true := decide_eq_true (by omega)
          have hj8 : (j : Int) < 13 := by omega
          have hb1 := bt_lt ⟨#[33, 36, 38, 40, 41, 58, 61, 64, 91, 93, 123, 124, 125]⟩ j
          have hst := sg_step (bt s a) j hjl
          by_cases hm : bt sgB j = bt s a
          · have et : (((bt ⟨#[33, 36, 38, 40, 41, 58, 61, 64, 91, 93, 123, 124, 125]⟩ j).toNat : Int) == ((bt s a).toNat : Int)) = true := by
              rw [beq_iff_eq, ← hm]; rfl
            have HN : Hid (a + 1 = (if (Lx.signs.take (j + 1)).contains (bt s a) then a + 1 else 0)) := Lib.hid (by rw [hst, hm]; simp)
            clear hm hst
            go_wp2_with fail
            go_roundg (14 - (j + 1))
            case measure => rw [HK.out]; omega
            case rel => exact ⟨j + 1, a + 1, 5, rfl, hjl, HN.out, fun _ => rfl, by go_num, by go_num, rfl⟩
          · have et : (((bt ⟨#[33, 36, 38, 40, 41, 58, 61, 64, 91, 93, 123, 124, 125]⟩ j).toNat : Int) == ((bt s a).toNat : Int)) = false := by
              rw [beq_eq_false_iff_ne]
              intro h
              exact hm (UInt8.toNat_inj.1 (by show (bt ⟨#[33, 36, 38, 40, 41, 58, 61, 64, 91, 93, 123, 124, 125]⟩ j).toNat = _; omega))
            have HN : Hid (e = (if (Lx.signs.take (j + 1)).contains (bt s a) then a + 1 else 0)) := Lib.hid (by rw [hst, beq_false_of_ne hm, Bool.or_false]; exact HEQ.out)
            clear hm hst
            go_wp2_with fail
            go_roundg (14 - (j + 1))
            case measure => rw [HK.out]; omega
            case rel => exact ⟨j + 1, e, kd, rfl, hjl, HN.out, HKD.out, rfl, by go_num, rfl⟩
        · have e8 : decide ((j : Int) < 13) = false := decide_eq_false (by omega)
          have HN : Hid (nxE s a = e) := Lib.hid (by
            rw [HE.out, HEQ.out, show j = 13 by omega]; rfl)
          have hcs : e = 0 ∨ e = a + 1 := by
            rw [HEQ.out]
            by_cases h : (Lx.signs.take j).contains (bt s a) = true
            · rw [if_pos h]; exact .inr rfl
            · rw [if_neg h]; exact .inl rfl
          clear HEQ
          rcases hcs with rfl | rfl
          · go_wp2_with fail
            refine bodyPost_ret (v := .tuple #[.agg #[.int .i64 kd, .string ⟨#[]⟩, .int .i64 a], .int .i64 (nxE s a : Nat)]) (by rw [HN.out]; simp [results, Tryz.results42, go_sem]) rfl ⟨kd, ⟨#[]⟩, rfl, ?_, (fun k' T' r' h => tk_gone s a ha HN.out (fun k' T' r' => (kd : Int) = (k' : Nat) ∧ ((k' = 2 ∨ k' = 3) → (⟨#[]⟩ : ByteArray) = ⟨T'.toArray⟩)) k' T' r' h)⟩
            (repeat' (first | (with_reducible assumption) | (with_reducible exact Below.refl _ _) | (with_reducible refine Below.drewN ?_ _) | (with_reducible refine Below.drew ?_) | (with_reducible refine Below.alloc ?_ ?_ _))) <;> (simp; try omega)
          · have hpos : (0 : Int) < (a : Int) + 1 := by omega
            have h9 : (a : Int) + 1 ≤ s.size := by omega
            go_wp2_with fail
            refine bodyPost_ret (v := .tuple #[.agg #[.int .i64 kd, .string (s.extract a (a + 1)), .int .i64 a], .int .i64 (nxE s a : Nat)]) (by rw [HN.out]; simp [results, Tryz.results42, go_sem]) rfl ⟨kd, (s.extract a (a + 1)), rfl, ?_, (fun k' T' r' h => by have := HTK.out k' T' r' h; subst this; exact ⟨HKD.out (by omega), fun h => by omega⟩)⟩
            (repeat' (first | (with_reducible assumption) | (with_reducible exact Below.refl _ _) | (with_reducible refine Below.drewN ?_ _) | (with_reducible refine Below.drew ?_) | (with_reducible refine Below.alloc ?_ ?_ _))) <;> (simp; try omega)
theorem refNext_any (s : ByteArray) (a : Nat) (w : World) (hs : s.size ≤ 4096) (ha : a < s.size) :
    Calls Tryz.prog 42 #[.string s, .int .i64 a] w (NxPost s a w) := by
  cases hl : Lx.isLetter (bt s a) with
  | true => exact refNext_word s a w hs ha hl
  | false =>
    by_cases h2 : (bt s a).toNat = 45 ∨ Lx.isDigit (bt s a) = true
    · exact refNext_num s a w hs ha hl h2
    · cases h3 : Lx.quotes3 (sfx s a) with
      | true => exact refNext_block s a w hs ha hl h2 h3
      | false =>
        by_cases h4 : (bt s a).toNat = 34
        · exact refNext_text s a w hs ha hl h2 h3 h4
        · exact refNext_rest s a w hs ha hl h2 h3 h4
end Go.Proofs.YtefjgpkpplkkgaaGreatDoor
namespace Go.Proofs.YtefjgpkpplkkgaaGreatDoor
set_option linter.unusedSimpArgs false
set_option linter.unusedVariables false
open Go Go.RowKit

namespace Lx
theorem digits_suf (l : List UInt8) : digits l <:+ l := List.dropWhile_suffix _
theorem drop_suf (n : Nat) {r l : List UInt8} (h : r <:+ l.drop n) : r <:+ l := h.trans (List.drop_suffix n l)
theorem text_suf : ∀ (n : Nat) (l o : List UInt8) (p : List UInt8 × List UInt8), l.length ≤ n → text o l = some p → p.2 <:+ l
  | _, [], o, p, _, h => by rw [text_nil] at h; cases h
  | 0, c :: t, _, _, h, _ => by simp at h
  | n + 1, c :: t, o, p, h, e => by
    have hn : t.length ≤ n := by simpa using h
    by_cases h0 : ctl (c :: t)
    · rw [text_bad h0] at e; cases e
    have hr : (rune (c :: t)).2 ≠ 0 := fun e => h0 (.inl e)
    by_cases h1 : (rune (c :: t)).1 = 34
    · rw [text_quote h0 h1] at e; cases e
      exact List.suffix_cons _ _
    by_cases h2 : (rune (c :: t)).1 = 92
    · cases he : esc (hd t) with
      | some v =>
        rw [text_esc h0 h2 he] at e
        exact (drop_suf _ (text_suf n _ _ _ (by rw [List.length_drop]; omega) e)).trans (List.suffix_cons _ _)
      | none =>
        by_cases hu : (hd t).toNat = 117
        · cases hx : hex (t.drop 1) with
          | none => rw [text_nohex h0 h2 he hu hx] at e; cases e
          | some v =>
            by_cases hs : 55296 ≤ v ∧ v < 57344
            · rw [text_sur h0 h2 he hu hx hs] at e; cases e
            · rw [text_uni h0 h2 he hu hx hs] at e
              exact (drop_suf _ (text_suf n _ _ _ (by rw [List.length_drop]; omega) e)).trans (List.suffix_cons _ _)
        · rw [text_noesc h0 h2 he hu] at e; cases e
    · rw [text_plain h0 h1 h2] at e
      exact drop_suf _ (text_suf n _ _ _ (by rw [List.length_drop, List.length_cons]; omega) e)
theorem block_suf : ∀ (n : Nat) (l o : List UInt8) (p : List UInt8 × List UInt8), l.length ≤ n → block o l = some p → p.2 <:+ l
  | _, [], o, p, _, h => by rw [block_nil] at h; cases h
  | 0, c :: t, _, _, h, _ => by simp at h
  | n + 1, c :: t, o, p, h, e => by
    have hn : t.length ≤ n := by simpa using h
    cases h0 : quotes3 (c :: t) with
    | true =>
      rw [block_end h0] at e; cases e
      exact List.drop_suffix _ _
    | false =>
      by_cases h1 : c.toNat = 92 ∧ quotes3 t = true
      · rw [block_esc h0 h1] at e
        exact (drop_suf _ (block_suf n _ _ _ (by rw [List.length_drop]; omega) e)).trans (List.suffix_cons _ _)
      by_cases h2 : ctlB (c :: t)
      · rw [block_bad h0 h1 h2] at e; cases e
      have hr : (rune (c :: t)).2 ≠ 0 := fun e => h2 (.inl e)
      rw [block_go h0 h1 h2] at e
      exact drop_suf _ (block_suf n _ _ _ (by rw [List.length_drop, List.length_cons]; omega) e)
theorem numEnd_suf {q p : Nat × List UInt8} (h : numEnd q = some p) : p.2 <:+ q.2 := by
  unfold numEnd at h
  split at h
  · cases h
  · cases h; exact List.suffix_refl _
theorem numExp_suf {q p : Nat × List UInt8} (h : numExp q = some p) : p.2 <:+ q.2 := by
  have hl : ∀ l1 : List UInt8, (if (hd l1).toNat = 43 ∨ (hd l1).toNat = 45 then l1.drop 1 else l1) <:+ l1 := by
    intro l1
    split
    · exact List.drop_suffix _ _
    · exact List.suffix_refl _
  unfold numExp at h
  by_cases h1 : ((hd q.2) ||| 32).toNat = 101
  · rw [if_pos h1] at h
    dsimp only at h
    have hx := (hl (q.2.drop 1)).trans (List.drop_suffix 1 q.2)
    generalize (if (hd (q.2.drop 1)).toNat = 43 ∨ (hd (q.2.drop 1)).toNat = 45 then (q.2.drop 1).drop 1 else q.2.drop 1) = l2 at h hx
    by_cases h2 : (digits l2).length = l2.length
    · rw [if_pos h2] at h; cases h
    · rw [if_neg h2] at h
      exact ((numEnd_suf h).trans (digits_suf _)).trans hx
  · rw [if_neg h1] at h
    exact numEnd_suf h
theorem numFrac_suf {l : List UInt8} {p : Nat × List UInt8} (h : numFrac l = some p) : p.2 <:+ l := by
  unfold numFrac at h
  by_cases h1 : (hd l).toNat = 46
  · rw [if_pos h1] at h
    split at h
    · cases h
    · exact drop_suf _ ((numExp_suf h).trans (digits_suf _))
  · rw [if_neg h1] at h
    exact numExp_suf h
theorem number_suf {l : List UInt8} {p : Nat × List UInt8} (h : number l = some p) : p.2 <:+ l := by
  have h1 : (if (hd l).toNat = 45 then l.drop 1 else l) <:+ l := by
    split
    · exact List.drop_suffix _ _
    · exact List.suffix_refl _
  unfold number at h
  obtain ⟨l1, hl1⟩ : ∃ l1, l1 = (if (hd l).toNat = 45 then l.drop 1 else l) := ⟨_, rfl⟩
  rw [← hl1] at h h1
  dsimp only at h
  by_cases h2 : (digits l1).length = l1.length ∨ ((hd l1).toNat = 48 ∧ 1 < l1.length - (digits l1).length)
  · rw [if_pos h2] at h; cases h
  · rw [if_neg h2] at h
    exact (numFrac_suf h).trans ((digits_suf _).trans h1)
theorem token_suf {l : List UInt8} {k : Nat} {T r : List UInt8} (h : token l = some (k, T, r)) : r <:+ l := by
  unfold token at h
  split at h
  · cases h
    exact List.dropWhile_suffix _
  split at h
  · obtain ⟨p, hp, he⟩ := Option.map_eq_some_iff.1 h
    cases he
    exact number_suf hp
  split at h
  · obtain ⟨p, hp, he⟩ := Option.map_eq_some_iff.1 h
    cases he
    exact drop_suf _ (block_suf _ _ _ _ (Nat.le_refl _) hp)
  split at h
  · obtain ⟨p, hp, he⟩ := Option.map_eq_some_iff.1 h
    cases he
    exact drop_suf _ (text_suf _ _ _ _ (Nat.le_refl _) hp)
  split at h
  · cases h
    exact List.drop_suffix _ _
  split at h
  · cases h
    exact List.drop_suffix _ _
  · cases h
end Lx
theorem nx_some {s : ByteArray} {a k : Nat} {T r : List UInt8} (h : Lx.token (sfx s a) = some (k, T, r)) : r = sfx s (nxE s a) := by
  have h1 := Lx.token_suf h
  have h2 := Lx.token_lt h
  have h3 := List.suffix_iff_eq_drop.1 h1
  rw [sfx_len] at h2 h3
  have h4 : nxE s a = s.size - r.length := by unfold nxE; rw [h]
  rw [h3, sfx_drop, h4]
  congr 1
  omega
theorem nx_none {s : ByteArray} {a : Nat} (h : Lx.token (sfx s a) = none) : nxE s a = 0 := by
  unfold nxE; rw [h]
theorem nx_pos {s : ByteArray} {a k : Nat} {T r : List UInt8} (ha : a < s.size) (h : Lx.token (sfx s a) = some (k, T, r)) : a < nxE s a ∧ nxE s a ≤ s.size := by
  have h2 := Lx.token_lt h
  rw [sfx_len] at h2
  have h4 : nxE s a = s.size - r.length := by unfold nxE; rw [h]
  omega
end Go.Proofs.YtefjgpkpplkkgaaGreatDoor
namespace Go.Proofs.YtefjgpkpplkkgaaGreatDoor
set_option linter.unusedSimpArgs false
set_option linter.unusedVariables false
open Go Go.RowKit

/-- What a lexing answers as a code: 0 where it goes well. -/
def lexC : Lx.Res → Nat
  | .ok _ => 0
  | .err _ c => c
/-- What a row of tokens shows of its first. -/
def FirstTok (w : World) (v : Value) (ts : List Lx.Tok) : Prop := ∃ a cap, v = .slice a ts.length cap ∧ ∀ x l, ts = x :: l → ∃ (g : Nat) (T : ByteArray), a = some ⟨g, 0, none⟩ ∧ w.cell? ⟨g, 0, none⟩ = some (.int .i64 x.kind) ∧ w.cell? ⟨g, 1, none⟩ = some (.string T) ∧ ((x.kind = 2 ∨ x.kind = 3) → T = ⟨x.text.toArray⟩)
/-- The same of the row's cells. -/
def FQ (out : List Lx.Tok) (xs : List Value) : Prop := ∀ x l, out = x :: l → ∃ (T : ByteArray) (r : List Value), xs = .int .i64 x.kind :: .string T :: r ∧ ((x.kind = 2 ∨ x.kind = 3) → T = ⟨x.text.toArray⟩)
theorem FQ.snoc {out : List Lx.Tok} {xs : List Value} (h : FQ out xs) (y : Lx.Tok) (T : ByteArray) (e : Value) (h0 : out = [] → xs = []) (hT : (y.kind = 2 ∨ y.kind = 3) → T = ⟨y.text.toArray⟩) : FQ (out ++ [y]) (xs ++ [.int .i64 y.kind, .string T, e]) := by
  intro x l hx
  cases out with
  | nil =>
    rw [List.nil_append] at hx
    cases hx
    rw [h0 rfl]
    exact ⟨T, _, rfl, hT⟩
  | cons z r =>
    rw [List.cons_append] at hx
    cases hx
    obtain ⟨T', r', h1, h2⟩ := h _ _ rfl
    rw [h1]
    exact ⟨T', _, rfl, h2⟩
theorem FQ.first {out : List Lx.Tok} {xs : List Value} (h : FQ out xs) {w : World} {base n g cap : Nat} (hr : w.ownsRow base 83 3 (.slice (some ⟨g, 0, none⟩) n cap) n xs) (hn : out.length = n) : FirstTok w (.slice (some ⟨g, 0, none⟩) n cap) out := by
  refine ⟨_, cap, by rw [hn], fun x l hx => ?_⟩
  obtain ⟨T, r, h1, h2⟩ := h x l hx
  subst h1
  exact ⟨g, T, rfl, row_cell hr 0 _ rfl, row_cell hr 1 _ rfl, h2⟩
def RlPost (s : ByteArray) (w : World) (r : Ending) (w' : World) : Prop := ∃ (v : Value) (x : Int), r = .returned (.tuple #[v, .int .i64 x, .int .i64 (lexC (Lx.lex (sfx s 0)) : Nat)]) ∧ Below w.heap.size w w' ∧ ∀ ts, Lx.lex (sfx s 0) = .ok ts → FirstTok w' v ts
theorem infoTokR : (Tryz.prog.info? 83).map (fun i => (i.zero, i.size, i.bytes)) = some (some (.agg #[.int .i64 0, .string ⟨#[]⟩, .int .i64 0]), 3, 32) := by kernel_rfl
set_option maxHeartbeats 4000000 in
set_option maxRecDepth 100000 in
theorem refLex_any (s : ByteArray) (w : World) (hs : s.size ≤ 9223372036854775807) :
    Calls Tryz.prog 14 #[.string s] w (RlPost s w) := by
  obtain ⟨i0, hi, hz0, hz1, hz2⟩ := info_parts infoTokR
  have hi0 : (0 : Int) ≤ (s.size : Int) := Int.natCast_nonneg _
  obtain ⟨C, hC⟩ : ∃ C, C = lexC (Lx.lex (sfx s 0)) := ⟨_, rfl⟩
  have HC := Lib.hid hC
  obtain ⟨R, hRL⟩ : ∃ R, R = Lx.lex (sfx s 0) := ⟨_, rfl⟩
  have HRL := Lib.hid hRL
  have HCR : Hid (C = lexC R) := Lib.hid (by rw [hC, hRL])
  have h0len : (sfx s 0).length = s.size := by rw [sfx_len]; omega
  by_cases hbig : 4096 < s.size
  · have HRE : Hid (R = .err 0 5) := Lib.hid (by rw [hRL]; unfold Lx.lex; rw [if_pos (by omega)])
    have HN : Hid (C = 5) := Lib.hid (by rw [HCR.out, HRE.out]; rfl)
    have HERR : Hid (∀ ts, R ≠ .ok ts) := Lib.hid (by rw [HRE.out]; intro ts h; cases h)
    clear hC h0len hRL
    go_enter Tryz.func14, Tryz.ntmps14
    go_wp2_with fail
    refine bodyPost_ret (v := .tuple #[(.slice none 0 0), .int .i64 0, .int .i64 (lexC (Lx.lex (sfx s 0)) : Nat)]) (by rw [← HC.out, HN.out]; simp [results, Tryz.results14, go_sem]) rfl ⟨(.slice none 0 0), 0, rfl, ?_, (fun ts h => by rw [← HRL.out] at h; exact absurd h (HERR.out ts))⟩
    exact Below.refl _ _
  have hR : Lx.lexGo s.size (s.size + 1) (sfx s 0) [] = R := by
    rw [hRL]
    unfold Lx.lex
    rw [if_neg (by omega), h0len]
  have HR0 := Lib.hid hR
  have hs4 : s.size ≤ 4096 := by omega
  clear hC hR h0len hRL
  go_enter Tryz.func14, Tryz.ntmps14
  go_wp2_with fail
  go_loopg [5, 6] (s.size + 1) (fun k v5 v6 wr => ∃ (b m : Nat) (va : Option Addr) (vc : Nat) (xs : List Value) (out : List Lx.Tok), b ≤ s.size ∧ s.size < k + b ∧ Lx.lexGo s.size k (sfx s b) out = R ∧ FQ out xs ∧ out.length = m ∧ m ≤ 1500 ∧ v5 = .slice va m vc ∧ v6 = .int .i64 (b : Nat) ∧ wr.ownsRow w.heap.size 83 3 (.slice va m vc) m xs ∧ Below w.heap.size w wr)
  case atStart => exact ⟨0, 0, none, 0, [], [], Nat.zero_le _, by omega, HR0.out, (fun x l h => by cases h), rfl, by omega, rfl, rfl, World.ownsRow_nil _ _ _ _, Below.refl _ _⟩
  case round =>
    obtain ⟨b, m, va, vc, xs, out, hb, hk, hR, hfq, hm, hm1, rfl, rfl, hrow, hbe⟩ := hrel
    have HB := Lib.hid hbe
    have HM := Lib.hid hm
    have HFQ := Lib.hid hfq
    have HX0 : Hid (out = [] → xs = []) := Lib.hid (fun e => by
      subst e
      have h1 := hrow.1
      rw [← hm] at h1
      exact List.eq_nil_of_length_eq_zero (by simpa using h1))
    clear hfq
    have hb0 : (0 : Int) ≤ (b : Int) := Int.natCast_nonneg _
    obtain ⟨n, rfl⟩ : ∃ n, gk = n + 1 := ⟨gk - 1, by omega⟩
    have hd0 : decide ((sfx s b).length = s.size) = decide (b = 0) := by
      rw [sfx_len]; by_cases h0 : b = 0 <;> simp [h0]; omega
    obtain ⟨e, hg, hbe1, hes⟩ := gap_place (decide (b = 0)) s b hb
    obtain ⟨ok, hok⟩ : ∃ ok, (Lx.gap (decide (b = 0)) (sfx s b)).2 = ok := ⟨_, rfl⟩
    rw [hok] at hg
    have HG : Hid (Calls Tryz.prog 41 #[.string s, .int .i64 b] wr fun r w' => r = .returned (.tuple #[.int .i64 e, .bool ok]) ∧ w' = wr) := Lib.hid (refGap_any s b wr hs4 hb e ok hg hes)
    rw [Lx.lexGo, hd0, hg, sfx_len] at hR
    have he0 : (0 : Int) ≤ (e : Int) := Int.natCast_nonneg _
    have hsub : s.size - (s.size - e) = e := by omega
    clear hd0 hg hok HR0 hm
    cases ok with
    | false =>
      rw [if_pos rfl] at hR
      have HN : Hid (C = 40) := Lib.hid (by rw [HCR.out, ← hR]; rfl)
      have HERR : Hid (∀ ts, R ≠ .ok ts) := Lib.hid (by rw [← hR]; intro ts h; cases h)
      clear hR hrow hbe
      go_wp2_with (first | (go_at_call 41; refine HG.out.mono ?_; rintro e2 w2 ⟨rfl, hw2⟩; obtain rfl := hw2.symm) | fail)
      refine bodyPost_ret (v := .tuple #[(.slice none 0 0), .int .i64 e, .int .i64 (lexC (Lx.lex (sfx s 0)) : Nat)]) (by rw [← HC.out, HN.out]; simp [results, Tryz.results14, go_sem]) rfl ⟨(.slice none 0 0), e, rfl, ?_, (fun ts h => by rw [← HRL.out] at h; exact absurd h (HERR.out ts))⟩
      exact HB.out
    | true =>
      rw [if_neg (by simp)] at hR
      by_cases hee : e = s.size
      · rw [if_pos (by omega)] at hR
        have HN : Hid (C = 0) := Lib.hid (by rw [HCR.out, ← hR]; rfl)
        have HOK : Hid (R = .ok (out ++ [⟨0, [], s.size⟩])) := Lib.hid hR.symm
        have HFQ8 : Hid (FQ (out ++ [⟨0, [], s.size⟩]) (xs ++ [.int .i64 0, .string ⟨#[]⟩, .int .i64 s.size])) := Lib.hid (HFQ.out.snoc ⟨0, [], s.size⟩ ⟨#[]⟩ _ HX0.out (fun h => by rcases h with h | h <;> cases h))
        have HLEN8 : Hid ((out ++ [(⟨0, [], s.size⟩ : Lx.Tok)]).length = m + 1) := Lib.hid (by rw [List.length_append, HM.out]; rfl)
        subst hee
        clear he0 hsub hbe1 hes
        have HSZ : Hid (w.heap.size ≤ (wr.alloc (.cells #[.int .i64 0, .string ⟨#[]⟩, .int .i64 s.size] 83)).heap.size) := Lib.hid (by have := hbe.size; simp; omega)
        have HXX : Hid ((wr.alloc (.cells #[.int .i64 0, .string ⟨#[]⟩, .int .i64 s.size] 83)).ownsRow w.heap.size 83 3 (.slice va m vc) m xs) := Lib.hid (hrow.alloc _)
        have HBX : Hid (Below w.heap.size w (wr.alloc (.cells #[.int .i64 0, .string ⟨#[]⟩, .int .i64 s.size] 83))) := Lib.hid (hbe.alloc hbe.size _)
        have HLIT : Hid (∀ j u, ([.int .i64 0, .string ⟨#[]⟩, .int .i64 s.size] : List Value)[j]? = some u → (wr.alloc (.cells #[.int .i64 0, .string ⟨#[]⟩, .int .i64 s.size] 83)).cell? ((⟨wr.heap.size, 0, none⟩ : Addr).add j) = some u) := Lib.hid (lit_cells (w := (wr.alloc (.cells #[.int .i64 0, .string ⟨#[]⟩, .int .i64 s.size] 83))) (L := wr.heap.size) (zs := [.int .i64 0, .string ⟨#[]⟩, .int .i64 s.size]) (T := 83) (fz := (0, 0)) (heap_at_new wr _))
        clear hR hrow hbe
        go_wp2_with (first | (at_builtin; refine wpList_append_own_at _ rfl _ _ 35 rfl w.heap.size 83 i0 _ 3 32 Tryz.underlying35 hi hz0 hz1 hz2 rfl (by decide) (.slice va m vc) m xs rfl HXX.out ⟨wr.heap.size, 0, none⟩ 1 1 [.int .i64 0, .string ⟨#[]⟩, .int .i64 s.size] rfl rfl HLIT.out (fun u hu => by simp at hu; rcases hu with rfl | rfl | rfl <;> rfl) (by unfold maxLen; omega) (by omega) HSZ.out ?_; intro v' w8 hrow8 hg8 hnil8 hloc8; clear hnil8 hloc8; obtain ⟨g', c', rfl, hg1, hg2⟩ := rowForm hrow8 (by omega); have HROW := Lib.hid hrow8; have HB8 := Lib.hid (rlGrown HBX.out HXX.out HBX.out.size hg8); clear hrow8 hg8) | (go_at_call 41; refine HG.out.mono ?_; rintro e2 w2 ⟨rfl, hw2⟩; obtain rfl := hw2.symm) | fail)
        refine bodyPost_ret (v := .tuple #[(.slice (some ⟨g', 0, none⟩) (m + 1) c'), .int .i64 0, .int .i64 (lexC (Lx.lex (sfx s 0)) : Nat)]) (by rw [← HC.out, HN.out]; simp [results, Tryz.results14, go_sem]) rfl ⟨(.slice (some ⟨g', 0, none⟩) (m + 1) c'), 0, rfl, ?_, (fun ts h => by rw [← HRL.out, HOK.out] at h; cases h; exact (HFQ8.out).first HROW.out HLEN8.out)⟩
        exact HB8.out
      · rw [if_neg (by omega)] at hR
        have e1 := eqF (n := e) (k := s.size) (by omega)
        have hel : e < s.size := by omega
        have HROW0 := Lib.hid hrow
        have HRR := Lib.hid hR
        clear hR hrow hbe
        go_wp2_with (first | (go_at_call 41; refine HG.out.mono ?_; rintro e2 w2 ⟨rfl, hw2⟩; obtain rfl := hw2.symm) | fail)
        refine (refNext_any s e wr hs4 hel).mono ?_
        rintro r w9 ⟨K, T, rfl, hb9, hKT⟩
        have hrow := row_to HROW0.out (fun g hg => hb9.block g (World.ownsRow.lt HROW0.out g hg).2)
        have HB9 := Lib.hid (HB.out.trans (hb9.mono HB.out.size))
        obtain ⟨c, hc⟩ : ∃ c, nxE s e = c := ⟨_, rfl⟩
        have hr := HRR.out
        rw [hsub] at hr
        have HGG := HG
        clear HG HRR
        cases ht : Lx.token (sfx s e) with
        | none =>
          rw [ht] at hr
          have HN : Hid (C = 40) := Lib.hid (by rw [HCR.out, ← hr]; rfl)
          have HERR : Hid (∀ ts, R ≠ .ok ts) := Lib.hid (by rw [← hr]; intro ts h; cases h)
          clear hKT
          have h0 := nx_none ht
          rw [hc] at h0
          subst h0
          clear hr ht hb9 hrow
          rw [hc]
          go_wp2_with fail
          refine bodyPost_ret (v := .tuple #[(.slice none 0 0), .int .i64 e, .int .i64 (lexC (Lx.lex (sfx s 0)) : Nat)]) (by rw [← HC.out, HN.out]; simp [results, Tryz.results14, go_sem]) rfl ⟨(.slice none 0 0), e, rfl, ?_, (fun ts h => by rw [← HRL.out] at h; exact absurd h (HERR.out ts))⟩
          exact HB9.out.alloc HB9.out.size _
        | some p =>
          obtain ⟨k, t, r⟩ := p
          rw [ht] at hr
          obtain ⟨hp1, hp2⟩ := nx_pos hel ht
          have hrs := nx_some ht
          obtain ⟨rfl, hKT2⟩ := hKT _ _ _ ht
          clear hKT
          rw [hc] at hp1 hp2 hrs
          subst hrs
          have ec := eqF (n := c) (k := 0) (by omega)
          have hc0 : (0 : Int) ≤ (c : Int) := Int.natCast_nonneg _
          rw [hc]
          by_cases h15 : m = 1500
          · have HRE : Hid (R = .err e 8) := Lib.hid (by
              rw [← hr]
              show (if out.length = 1500 then Lx.Res.err e 8 else _) = _
              rw [if_pos (HM.out.trans h15)])
            have HN : Hid (C = 8) := Lib.hid (by rw [HCR.out, HRE.out]; rfl)
            have HERR : Hid (∀ ts, R ≠ .ok ts) := Lib.hid (by rw [HRE.out]; intro ts h; cases h)
            have e5 : decide ((m : Int) ≥ 1500) = true := decide_eq_true (by omega)
            have hm5 : 1500 ≤ m := by omega
            clear hr ht hb9 hrow h15
            go_wp2_with fail
            refine bodyPost_ret (v := .tuple #[(.slice none 0 0), .int .i64 e, .int .i64 (lexC (Lx.lex (sfx s 0)) : Nat)]) (by rw [← HC.out, HN.out]; simp [results, Tryz.results14, go_sem]) rfl ⟨(.slice none 0 0), e, rfl, ?_, (fun ts h => by rw [← HRL.out] at h; exact absurd h (HERR.out ts))⟩
            exact HB9.out.alloc HB9.out.size _
          · have HRX := Lib.hid hr
            have e5 : decide ((m : Int) ≥ 1500) = false := decide_eq_false (by omega)
            have hm5 : ¬ 1500 ≤ m := by omega
            have HSZ : Hid (w.heap.size ≤ ((w9.alloc (.cells #[.int .i64 k, .string T, .int .i64 e] 83)).alloc (.cells #[.int .i64 k, .string T, .int .i64 e] 83)).heap.size) := Lib.hid (by have := HB9.out.size; simp; omega)
            have HXX : Hid (((w9.alloc (.cells #[.int .i64 k, .string T, .int .i64 e] 83)).alloc (.cells #[.int .i64 k, .string T, .int .i64 e] 83)).ownsRow w.heap.size 83 3 (.slice va m vc) m xs) := Lib.hid ((hrow.alloc _).alloc _)
            have HBX : Hid (Below w.heap.size w ((w9.alloc (.cells #[.int .i64 k, .string T, .int .i64 e] 83)).alloc (.cells #[.int .i64 k, .string T, .int .i64 e] 83))) := Lib.hid ((HB9.out.alloc HB9.out.size _).alloc (by have := HB9.out.size; simp; omega) _)
            have HLIT : Hid (∀ j u, ([.int .i64 k, .string T, .int .i64 e] : List Value)[j]? = some u → ((w9.alloc (.cells #[.int .i64 k, .string T, .int .i64 e] 83)).alloc (.cells #[.int .i64 k, .string T, .int .i64 e] 83)).cell? ((⟨w9.heap.size + 1, 0, none⟩ : Addr).add j) = some u) := Lib.hid (lit_cells (w := ((w9.alloc (.cells #[.int .i64 k, .string T, .int .i64 e] 83)).alloc (.cells #[.int .i64 k, .string T, .int .i64 e] 83))) (L := w9.heap.size + 1) (zs := [.int .i64 k, .string T, .int .i64 e]) (T := 83) (fz := (0, 0)) (by
              have h1 := heap_at_new (w9.alloc (.cells #[.int .i64 k, .string T, .int .i64 e] 83)) (.cells #[.int .i64 k, .string T, .int .i64 e] 83)
              rw [show (w9.alloc (.cells #[.int .i64 k, .string T, .int .i64 e] 83)).heap.size = w9.heap.size + 1 by simp] at h1
              exact h1))
            have h15' : ¬ out.length = 1500 := by rw [HM.out]; exact h15
            have HR2 := Lib.hid (show Lx.lexGo s.size n (sfx s c) (out ++ [⟨k, t, e⟩]) = R by
              rw [← hr]
              show _ = (if out.length = 1500 then Lx.Res.err e 8 else Lx.lexGo s.size n (sfx s c) (out ++ [⟨k, t, e⟩]))
              rw [if_neg h15'])
            have HFQ8 : Hid (FQ (out ++ [⟨k, t, e⟩]) (xs ++ [.int .i64 k, .string T, .int .i64 e])) := Lib.hid (HFQ.out.snoc ⟨k, t, e⟩ T _ HX0.out hKT2)
            clear hKT2
            clear hr ht hb9 hrow h15 h15' HRX
            go_wp2_with (first | (at_builtin; refine wpList_append_own_at _ rfl _ _ 35 rfl w.heap.size 83 i0 _ 3 32 Tryz.underlying35 hi hz0 hz1 hz2 rfl (by decide) (.slice va m vc) m xs rfl HXX.out ⟨w9.heap.size + 1, 0, none⟩ 1 1 [.int .i64 k, .string T, .int .i64 e] rfl rfl HLIT.out (fun u hu => by simp at hu; rcases hu with rfl | rfl | rfl <;> rfl) (by unfold maxLen; omega) (by omega) HSZ.out ?_; intro v' w8 hrow8 hg8 hnil8 hloc8; clear hnil8 hloc8; obtain ⟨g', c', rfl, hg1, hg2⟩ := rowForm hrow8 (by omega); have HROW := Lib.hid hrow8; have HB8 := Lib.hid (rlGrown HBX.out HXX.out HBX.out.size hg8); clear hrow8 hg8) | fail)
            go_roundg n
            case measure => omega
            case rel => exact ⟨c, m + 1, _, _, _, _, hp2, by omega, HR2.out, HFQ8.out, by rw [List.length_append, HM.out]; rfl, by omega, rfl, rfl, HROW.out, HB8.out⟩
end Go.Proofs.YtefjgpkpplkkgaaGreatDoor
