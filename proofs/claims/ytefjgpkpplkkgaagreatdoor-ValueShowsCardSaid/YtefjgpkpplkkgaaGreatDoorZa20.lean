/-
  The document's lexer: strings. The document's lexer: lines of a block. The document's lexer: the text of a block. A word's place among words; a part of code; the frame of a call behind new blocks. Types as data: what their cells hold. The document's lexer: where a block ends. The document's lexer: a block, walked.
-/
import Derived.Test.YtefjgpkpplkkgaaGreatDoorZa19
import Derived.Test.YtefjgpkpplkkgaaGreatDoorZa3
import Derived.Test.YtefjgpkpplkkgaaGreatDoorZa18
import Derived.Test.YtefjgpkpplkkgaaGreatDoorZa7
import Derived.Lib.SlicesS
import Derived.Test.YtefjgpkpplkkgaaGreatDoorZa16
namespace Go.Proofs.YtefjgpkpplkkgaaGreatDoor
set_option linter.unusedSimpArgs false
set_option linter.unusedVariables false
open Go Go.RowKit

namespace Lx
/-- What stands behind a string is the same, whatever was put. -/
theorem text_rest : ∀ (n : Nat) (l o1 o2 : List UInt8), l.length ≤ n → (text o1 l).map Prod.snd = (text o2 l).map Prod.snd
  | _, [], o1, o2, _ => by rw [text_nil, text_nil]
  | 0, c :: t, _, _, h => by simp at h
  | n + 1, c :: t, o1, o2, h => by
    have hn : t.length ≤ n := by simpa using h
    by_cases h0 : ctl (c :: t)
    · rw [text_bad h0, text_bad h0]
    have hr : (rune (c :: t)).2 ≠ 0 := fun e => h0 (.inl e)
    by_cases h1 : (rune (c :: t)).1 = 34
    · rw [text_quote h0 h1, text_quote h0 h1]; rfl
    by_cases h2 : (rune (c :: t)).1 = 92
    · cases he : esc (hd t) with
      | some e =>
        rw [text_esc h0 h2 he, text_esc h0 h2 he]
        exact text_rest n _ _ _ (by rw [List.length_drop]; omega)
      | none =>
        by_cases hu : (hd t).toNat = 117
        · cases hx : hex (t.drop 1) with
          | none => rw [text_nohex h0 h2 he hu hx, text_nohex h0 h2 he hu hx]
          | some v =>
            by_cases hs : 55296 ≤ v ∧ v < 57344
            · rw [text_sur h0 h2 he hu hx hs, text_sur h0 h2 he hu hx hs]
            · rw [text_uni h0 h2 he hu hx hs, text_uni h0 h2 he hu hx hs]
              exact text_rest n _ _ _ (by rw [List.length_drop]; omega)
        · rw [text_noesc h0 h2 he hu, text_noesc h0 h2 he hu]
    · rw [text_plain h0 h1 h2, text_plain h0 h1 h2]
      exact text_rest n _ _ _ (by rw [List.length_drop, List.length_cons]; omega)
theorem rune_hi (c : UInt8) (t : List UInt8) (h : 128 ≤ c.toNat) (hn : (rune (c :: t)).2 ≠ 0) : 128 ≤ (rune (c :: t)).1 := by
  unfold rune at hn ⊢
  repeat' split at hn
  all_goals (repeat' split)
  all_goals simp_all
  all_goals omega
end Lx
/-- The place behind a string; none: it goes wrong. -/
def txE (s : ByteArray) (b : Nat) : Nat := match (Lx.text [] (sfx s b)).map Prod.snd with
  | none => 0
  | some r => s.size - r.length
theorem txE_of {s : ByteArray} {b b' : Nat} (o : List UInt8) (h : Lx.text [] (sfx s b) = Lx.text o (sfx s b')) : txE s b = txE s b' := by
  unfold txE
  rw [h, Lx.text_rest _ _ o [] (Nat.le_refl _)]
theorem txE_end (s : ByteArray) (b : Nat) (h : s.size ≤ b) : txE s b = 0 := by
  unfold txE
  rw [sfx_end s b h, Lx.text_nil]; rfl
theorem lt_of_bt8 {s : ByteArray} {a n : Nat} (h : (bt s a).toNat = n) (hn : n ≠ 0) : a < s.size := by
  rcases Nat.lt_or_ge a s.size with h1 | h1
  · exact h1
  · rw [bt_end s a h1] at h; exact absurd h.symm hn
theorem low_rune (s : ByteArray) (b n : Nat) (h : (bt s b).toNat = n) (hn : n < 128) (h0 : n ≠ 0) : b < s.size ∧ Lx.rune (sfx s b) = (n, 1) := by
  have hlt := lt_of_bt8 h h0
  refine ⟨hlt, ?_⟩
  rw [sfx_cons s b hlt, rune_low _ _ (by omega), h]
theorem txE_quote (s : ByteArray) (b : Nat) (h : (bt s b).toNat = 34) : txE s b = b + 1 := by
  obtain ⟨hlt, hr⟩ := low_rune s b 34 h (by decide) (by decide)
  unfold txE
  rw [sfx_cons s b hlt] at hr ⊢
  rw [Lx.text_quote (by unfold Lx.ctl; rw [hr]; simp) (by rw [hr])]
  show s.size - (sfx s (b + 1)).length = _
  rw [sfx_len]
  omega
theorem txE_esc (s : ByteArray) (b : Nat) (h : (bt s b).toNat = 92) : (escN s b = 0 → txE s b = 0) ∧ (escN s b ≠ 0 → txE s b = txE s (b + escN s b) ∧ b + escN s b ≤ s.size ∧ escN s b ≤ 6) := by
  obtain ⟨hlt, hr⟩ := low_rune s b 92 h (by decide) (by decide)
  have hc : ¬ Lx.ctl (bt s b :: sfx s (b + 1)) := by
    rw [← sfx_cons s b hlt]
    unfold Lx.ctl
    rw [hr]; simp
  have hb : (Lx.rune (bt s b :: sfx s (b + 1))).1 = 92 := by rw [← sfx_cons s b hlt, hr]
  have hd : Lx.hd (sfx s (b + 1)) = bt s (b + 1) := hd_sfx s (b + 1)
  unfold escN
  cases he : Lx.esc (bt s (b + 1)) with
  | some v =>
    have h1 : b + 1 < s.size := by
      rcases Nat.lt_or_ge (b + 1) s.size with h | h
      · exact h
      · rw [bt_end s _ h, show Lx.esc 0 = none by decide] at he; cases he
    simp only []
    refine ⟨fun e => (by cases e), fun _ => ⟨?_, by omega, by decide⟩⟩
    refine txE_of ([] ++ [v]) ?_
    rw [sfx_cons s b hlt, Lx.text_esc hc hb (by rw [hd]; exact he), sfx_drop]
  | none =>
    simp only []
    by_cases hu : (bt s (b + 1)).toNat = 117
    · rw [if_pos hu]
      have hx2 : (sfx s (b + 1)).drop 1 = sfx s (b + 2) := by rw [sfx_drop]
      cases hx : Lx.hex (sfx s (b + 2)) with
      | none =>
        refine ⟨fun _ => ?_, fun e => absurd rfl e⟩
        unfold txE
        rw [sfx_cons s b hlt, Lx.text_nohex hc hb (by rw [hd]; exact he) (by rw [hd]; exact hu) (by rw [hx2]; exact hx)]
        rfl
      | some v =>
        simp only []
        by_cases hs : 55296 ≤ v ∧ v < 57344
        · rw [if_pos hs]
          refine ⟨fun _ => ?_, fun e => absurd rfl e⟩
          unfold txE
          rw [sfx_cons s b hlt, Lx.text_sur hc hb (by rw [hd]; exact he) (by rw [hd]; exact hu) (by rw [hx2]; exact hx) hs]
          rfl
        · rw [if_neg hs]
          have hl := Lx.hexs_len 4 0 _ v hx
          rw [sfx_len] at hl
          refine ⟨fun e => (by cases e), fun _ => ⟨?_, by omega, by decide⟩⟩
          refine txE_of ([] ++ Lx.enc v) ?_
          rw [sfx_cons s b hlt, Lx.text_uni hc hb (by rw [hd]; exact he) (by rw [hd]; exact hu) (by rw [hx2]; exact hx) hs, sfx_drop]
    · rw [if_neg hu]
      refine ⟨fun _ => ?_, fun e => absurd rfl e⟩
      unfold txE
      rw [sfx_cons s b hlt, Lx.text_noesc hc hb (by rw [hd]; exact he) (by rw [hd]; exact hu)]
      rfl
theorem txE_plain (s : ByteArray) (b r n : Nat) (hlt : b < s.size) (h1 : ¬ (bt s b).toNat = 34) (h2 : ¬ (bt s b).toNat = 92) (hr : Lx.rune (sfx s b) = (r, n)) :
    ((n = 0 ∨ (r < 32 ∧ r ≠ 9)) → txE s b = 0) ∧ (¬ (n = 0 ∨ (r < 32 ∧ r ≠ 9)) → txE s b = txE s (b + n) ∧ b + n ≤ s.size ∧ 1 ≤ n ∧ n ≤ 4) := by
  have hn4 := Lx.rune_le4 (sfx s b)
  have hnl := Lx.rune_len (sfx s b)
  rw [hr] at hn4 hnl
  rw [sfx_len] at hnl
  have hr' := hr
  rw [sfx_cons s b hlt] at hr
  refine ⟨fun h => ?_, fun h => ?_⟩
  · unfold txE
    rw [sfx_cons s b hlt, Lx.text_bad (by unfold Lx.ctl; rw [hr]; exact h)]
    rfl
  · have hn0 : n ≠ 0 := fun e => h (.inl e)
    have hne : r ≠ 34 ∧ r ≠ 92 := by
      by_cases hc : (bt s b).toNat < 128
      · rw [rune_low _ _ hc] at hr
        simp only [Prod.mk.injEq] at hr
        omega
      · have := Lx.rune_hi (bt s b) (sfx s (b + 1)) (by omega) (by rw [hr]; exact hn0)
        rw [hr] at this
        have : 128 ≤ r := this
        omega
    have hn4 : n ≤ 4 := hn4
    have hnl : n ≤ s.size - b := hnl
    refine ⟨txE_of ([] ++ (bt s b :: sfx s (b + 1)).take n) ?_, by omega, by omega, hn4⟩
    rw [sfx_cons s b hlt, Lx.text_plain (by unfold Lx.ctl; rw [hr]; exact h) (by rw [hr]; exact hne.1) (by rw [hr]; exact hne.2), hr, ← sfx_cons s b hlt, sfx_drop]
def TxPost (s : ByteArray) (a : Nat) (w : World) (r : Ending) (w' : World) : Prop := ∃ m : ByteArray, m.size ≤ 20000 ∧ r = .returned (.tuple #[.string m, .int .i64 (txE s (a + 1) : Nat)]) ∧ Below w.heap.size w w'
set_option maxHeartbeats 4000000 in
set_option maxRecDepth 100000 in
theorem refText_any (s : ByteArray) (a : Nat) (w : World) (hs : s.size ≤ 4096) (ha : a < s.size) :
    Calls Tryz.prog 110 #[.string s, .int .i64 a] w (TxPost s a w) := by
  have hs1 : s.size ≤ 9223372036854775807 := by omega
  have ha0 : (0 : Int) ≤ (a : Int) := Int.natCast_nonneg _
  have hz0 : (0 : Int) ≤ (s.size : Int) := Int.natCast_nonneg _
  go_enter Tryz.func110, Tryz.ntmps110
  go_wp2_with fail
  go_loopg [1, 6] (s.size + 1 - (a + 1)) (fun k v1 v6 wr => ∃ (b : Nat) (m : ByteArray), k = s.size + 1 - b ∧ b ≤ s.size ∧ v1 = .int .i64 (b : Nat) ∧ v6 = .string m ∧ m.size ≤ 4 * b ∧ txE s b = txE s (a + 1) ∧ Below w.heap.size w wr)
  case atStart => exact ⟨a + 1, ⟨#[]⟩, rfl, ha, by go_num, rfl, Nat.zero_le _, rfl, Below.refl _ _⟩
  case round =>
    obtain ⟨b, m, hk, hb, rfl, rfl, hm, hx, hbe⟩ := hrel
    have HK := Lib.hid hk
    have HX := Lib.hid hx
    have HB := Lib.hid hbe
    have hb0 : (0 : Int) ≤ (b : Int) := Int.natCast_nonneg _
    have hm0 : (0 : Int) ≤ (m.size : Int) := Int.natCast_nonneg _
    clear hk hx hbe
    by_cases hlt : b < s.size
    · have hlt1 : (b : Int) < s.size := by omega
      by_cases q34 : (bt s b).toNat = 34
      · have e34 := eqT (n := (bt s b).toNat) (k := 34) (by omega)
        have HN : Hid (txE s (a + 1) = b + 1) := Lib.hid (by rw [← HX.out]; exact txE_quote s b q34)
        clear q34
        go_wp2_with fail
        go_ret2
        exact ⟨m, by omega, by rw [HN.out]; rfl, HB.out⟩
      have e34 := eqF (n := (bt s b).toNat) (k := 34) (by omega)
      by_cases q92 : (bt s b).toNat = 92
      · have e92 := eqT (n := (bt s b).toNat) (k := 92) (by omega)
        obtain ⟨h1, h2⟩ := txE_esc s b q92
        obtain ⟨n, hn⟩ : ∃ n, escN s b = n := ⟨_, rfl⟩
        rw [hn] at h1 h2
        have HC : Hid (Calls Tryz.prog 172 #[.string s, .int .i64 b] wr fun r w' => ∃ e : ByteArray, e.size ≤ 4 ∧ r = .returned (.tuple #[.string e, .int .i64 n]) ∧ Below wr.heap.size wr w') := Lib.hid ((refEscape_any s b wr hs hlt).mono (by
          rintro r w' ⟨e, he, rfl, hb⟩
          exact ⟨e, he, by rw [hn], hb⟩))
        clear hn q92 q34
        by_cases hn0 : n = 0
        · have HN : Hid (txE s (a + 1) = 0) := Lib.hid (by rw [← HX.out]; exact h1 hn0)
          have en := eqT (n := n) (k := 0) (by omega)
          clear h1 h2 hn0
          go_wp2_with fail
          refine HC.out.mono ?_
          rintro r w2 ⟨e, he, rfl, hb2⟩
          have HB2 := Lib.hid (HB.out.trans (hb2.mono HB.out.size))
          clear hb2
          go_wp2_with fail
          go_ret2
          exact ⟨⟨#[]⟩, by decide, by rw [HN.out]; rfl, HB2.out⟩
        · obtain ⟨h3, h4, h6⟩ := h2 hn0
          have HN := Lib.hid (h3.symm.trans HX.out)
          have en := eqF (n := n) (k := 0) (by omega)
          have hn1 : (0 : Int) ≤ (n : Int) := Int.natCast_nonneg _
          clear h1 h2 h3
          go_wp2_with fail
          refine HC.out.mono ?_
          rintro r w2 ⟨e, he, rfl, hb2⟩
          have HB2 := Lib.hid (HB.out.trans (hb2.mono HB.out.size))
          have he0 : (0 : Int) ≤ (e.size : Int) := Int.natCast_nonneg _
          clear hb2
          go_wp2_with fail
          go_roundg (s.size + 1 - (b + n))
          case measure => rw [HK.out]; omega
          case rel => exact ⟨b + n, m ++ e, rfl, h4, by go_num, rfl, by rw [ByteArray.size_append]; omega, HN.out, HB2.out⟩
      have e92 := eqF (n := (bt s b).toNat) (k := 92) (by omega)
      obtain ⟨r, n, hrn⟩ : ∃ r n, Lx.rune (sfx s b) = (r, n) := ⟨_, _, rfl⟩
      obtain ⟨h1, h2⟩ := txE_plain s b r n hlt q34 q92 hrn
      have HRN := Lib.hid hrn
      clear hrn q34 q92
      by_cases hbad : n = 0 ∨ (r < 32 ∧ r ≠ 9)
      · have HN : Hid (txE s (a + 1) = 0) := Lib.hid (by rw [← HX.out]; exact h1 hbad)
        have hbt : ((n : Int) == 0) = true ∨ (((n : Int) == 0) = false ∧ decide ((r : Int) < 32) = true ∧ ((r : Int) != 9) = true) := by
          by_cases h0 : n = 0
          · exact .inl (eqT (by omega))
          · rcases hbad with h | h
            · exact absurd h h0
            · exact .inr ⟨eqF (by omega), decide_eq_true (by omega), neT (by omega)⟩
        clear hbad h1 h2
        rcases hbt with t1 | ⟨t1, t2, t3⟩
        all_goals
          go_wp2_with (first | (go_at_call 94; refine (refRune_any s b _ hs (by omega)).mono ?_; rintro r w2 ⟨hr2, hw2⟩; rw [HRN.out] at hr2; subst hr2; obtain rfl := hw2.symm) | fail)
          go_ret2
          exact ⟨⟨#[]⟩, by decide, by rw [HN.out]; rfl, HB.out⟩
      · obtain ⟨h3, h4, h5, h6⟩ := h2 hbad
        have HN := Lib.hid (h3.symm.trans HX.out)
        have t1 : ((n : Int) == 0) = false := eqF (by omega)
        have hbt : decide ((r : Int) < 32) = false ∨ (decide ((r : Int) < 32) = true ∧ ((r : Int) != 9) = false) := by
          by_cases h0 : r < 32
          · exact .inr ⟨decide_eq_true (by omega), neF (by omega)⟩
          · exact .inl (decide_eq_false (by omega))
        have hn1 : (0 : Int) ≤ (n : Int) := Int.natCast_nonneg _
        have hbn : (b : Int) + n ≤ s.size := by omega
        clear hbad h1 h2 h3
        rcases hbt with t2 | ⟨t2, t3⟩
        all_goals
          go_wp2_with (first | (go_at_call 94; refine (refRune_any s b _ hs (by omega)).mono ?_; rintro r w2 ⟨hr2, hw2⟩; rw [HRN.out] at hr2; subst hr2; obtain rfl := hw2.symm) | fail)
          go_roundg (s.size + 1 - (b + n))
          case measure => rw [HK.out]; omega
          case rel => exact ⟨b + n, _, rfl, h4, by go_num, rfl, by rw [ByteArray.size_append, ByteArray.size_extract]; have := Nat.sub_le_sub_right (Nat.min_le_left (b + n) s.size) b; omega, HN.out, HB.out⟩
    · have hlt1 : (s.size : Int) ≤ b := by omega
      have HN : Hid (txE s (a + 1) = 0) := Lib.hid (by rw [← HX.out]; exact txE_end s b (by omega))
      go_wp2_with fail
      go_ret2
      exact ⟨⟨#[]⟩, by decide, by rw [HN.out]; rfl, HB.out⟩
end Go.Proofs.YtefjgpkpplkkgaaGreatDoor
namespace Go.Proofs.YtefjgpkpplkkgaaGreatDoor
set_option linter.unusedSimpArgs false
set_option linter.unusedVariables false
open Go Go.RowKit

def blP (c : UInt8) : Bool := c.toNat == 32 || c.toNat == 9
/-- The first place that is no blank. -/
def bl (s : ByteArray) (b : Nat) : Nat := b + ((sfx s b).takeWhile blP).length
theorem bl_yes (s : ByteArray) (b : Nat) (h : b < s.size) (hp : (bt s b).toNat = 32 ∨ (bt s b).toNat = 9) : bl s b = bl s (b + 1) := by
  have e : blP (bt s b) = true := by unfold blP; simpa using hp
  unfold bl
  rw [sfx_cons s b h, List.takeWhile_cons, if_pos e, List.length_cons]
  omega
theorem bl_no (s : ByteArray) (b : Nat) (h : b < s.size) (hp : ¬ ((bt s b).toNat = 32 ∨ (bt s b).toNat = 9)) : bl s b = b := by
  have e : ¬ blP (bt s b) = true := by unfold blP; simpa using hp
  unfold bl
  rw [sfx_cons s b h, List.takeWhile_cons, if_neg e]
  rfl
theorem bl_end (s : ByteArray) (b : Nat) (h : s.size ≤ b) : bl s b = b := by
  unfold bl
  rw [sfx_end s b h]
  rfl
theorem bl_le (s : ByteArray) : bl s 0 ≤ s.size := by
  have h := List.Sublist.length_le (List.takeWhile_sublist blP (l := sfx s 0))
  rw [sfx_len] at h
  unfold bl
  omega
set_option maxHeartbeats 1000000 in
set_option maxRecDepth 100000 in
theorem refBlanks_any (s : ByteArray) (w : World) (hs : s.size ≤ 20000) :
    Calls Tryz.prog 209 #[.string s] w fun r w' => r = .returned (.int .i64 (bl s 0 : Nat)) ∧ w' = w := by
  have hs1 : s.size ≤ 9223372036854775807 := by omega
  have hz0 : (0 : Int) ≤ (s.size : Int) := Int.natCast_nonneg _
  obtain ⟨z, hz⟩ : ∃ z, z = bl s 0 := ⟨_, rfl⟩
  have HZ := Lib.hid hz
  rw [← hz]
  clear hz
  go_enter Tryz.func209, Tryz.ntmps209
  go_wp2_with fail
  go_loopg [3] (s.size + 1) (fun k v wr => ∃ b : Nat, k = s.size + 1 - b ∧ b ≤ s.size ∧ v = .int .i64 (b : Nat) ∧ bl s b = z ∧ wr = w)
  case atStart => exact ⟨0, rfl, Nat.zero_le _, rfl, HZ.out.symm, rfl⟩
  case round =>
    obtain ⟨b, hk, hb, rfl, hx, rfl⟩ := hrel
    have HK := Lib.hid hk
    have HX := Lib.hid hx
    have hb0 : (0 : Int) ≤ (b : Int) := Int.natCast_nonneg _
    clear hk hx HZ
    by_cases hlt : b < s.size
    · have hlt1 : (b : Int) < s.size := by omega
      have hlt2 := decide_eq_true hlt1
      by_cases q32 : (bt s b).toNat = 32
      · have e32 := eqT (n := (bt s b).toNat) (k := 32) (by omega)
        have HN := Lib.hid ((bl_yes s b hlt (.inl q32)).symm.trans HX.out)
        clear q32
        go_wp2_with fail
        go_roundg (s.size + 1 - (b + 1))
        case measure => rw [HK.out]; omega
        case rel => exact ⟨b + 1, rfl, hlt, by go_num, HN.out, rfl⟩
      have e32 := eqF (n := (bt s b).toNat) (k := 32) (by omega)
      by_cases q9 : (bt s b).toNat = 9
      · have e9 := eqT (n := (bt s b).toNat) (k := 9) (by omega)
        have HN := Lib.hid ((bl_yes s b hlt (.inr q9)).symm.trans HX.out)
        clear q32 q9
        go_wp2_with fail
        go_roundg (s.size + 1 - (b + 1))
        case measure => rw [HK.out]; omega
        case rel => exact ⟨b + 1, rfl, hlt, by go_num, HN.out, rfl⟩
      have e9 := eqF (n := (bt s b).toNat) (k := 9) (by omega)
      have HN : Hid (z = b) := Lib.hid (HX.out.symm.trans (bl_no s b hlt (by omega)))
      clear q32 q9
      go_wp2_with fail
      go_ret
      exact ⟨by rw [HN.out]; rfl, rfl⟩
    · have hlt1 : (s.size : Int) ≤ b := by omega
      have hlt2 : decide ((b : Int) < s.size) = false := decide_eq_false (by omega)
      have HN : Hid (z = b) := Lib.hid (HX.out.symm.trans (bl_end s b (by omega)))
      go_wp2_with fail
      go_ret
      exact ⟨by rw [HN.out]; rfl, rfl⟩
/-- A row of n strings, none too long. -/
def LRow (w : World) (v : Value) (n : Nat) : Prop :=
  ∃ a cap, v = .slice a n cap ∧ ∀ i, i < n → ∃ b off s, a = some ⟨b, off, none⟩ ∧ b < w.heap.size ∧ w.cell? ⟨b, off + i, none⟩ = some (.string s) ∧ s.size ≤ 20000
theorem LRow.below {w w' : World} {v : Value} {n : Nat} (h : LRow w v n) (hb : Below w.heap.size w w') : LRow w' v n := by
  obtain ⟨a, cap, h1, h2⟩ := h
  refine ⟨a, cap, h1, fun i hi => ?_⟩
  obtain ⟨b, off, s, e, h3, h4, h5⟩ := h2 i hi
  exact ⟨b, off, s, e, Nat.lt_of_lt_of_le h3 hb.size, by rw [hb.cell (p := ⟨b, off + i, none⟩) h3]; exact h4, h5⟩
theorem LRow.form {w : World} {v : Value} {n : Nat} (h : LRow w v n) : ∃ a cap, v = .slice a n cap := by
  obtain ⟨a, cap, h1, -⟩ := h
  exact ⟨a, cap, h1⟩
theorem LRow.at {w : World} {a : Option Addr} {cap n : Nat} (h : LRow w (.slice a n cap) n) (i : Nat) (hi : i < n) :
    ∃ b off s, a = some ⟨b, off, none⟩ ∧ b < w.heap.size ∧ w.cell? ⟨b, off + i, none⟩ = some (.string s) ∧ s.size ≤ 20000 := by
  obtain ⟨a', cap', h1, h2⟩ := h
  simp only [Value.slice.injEq] at h1
  obtain ⟨rfl, -, rfl⟩ := h1
  exact h2 i hi
end Go.Proofs.YtefjgpkpplkkgaaGreatDoor
namespace Go.Proofs.YtefjgpkpplkkgaaGreatDoor
set_option linter.unusedSimpArgs false
set_option linter.unusedVariables false
open Go Go.RowKit

set_option maxHeartbeats 4000000 in
set_option maxRecDepth 100000 in
theorem refLines_any (v : Value) (n : Nat) (w : World) (h : LRow w v n) (hn : n ≤ 20000) :
    Calls Tryz.prog 171 #[v] w fun r w' => ∃ m : ByteArray, m.size ≤ 20001 * (n + 1) ∧ r = .returned (.string m) ∧ Below w.heap.size w w' := by
  obtain ⟨a, cap, rfl⟩ := h.form
  have HR := Lib.hid h
  have hn0 : (0 : Int) ≤ (n : Int) := Int.natCast_nonneg _
  clear h
  go_enter Tryz.func171, Tryz.ntmps171
  go_wp2_with fail
  go_loopg [3, 4] n (fun k v3 v4 wr => ∃ (j : Nat) (c : Int), k = n + 1 - j ∧ v3 = .int .i64 c ∧ v4 = .int .i64 (j : Nat) ∧ 0 ≤ c ∧ c ≤ 1000000 ∧ j ≤ n + 1 ∧ wr = w)
  case atStart => exact ⟨1, 1000000, rfl, rfl, rfl, by decide, Int.le_refl _, by omega, rfl⟩
  case round =>
    obtain ⟨j, c, hk, rfl, rfl, hc0, hc, hj, hw⟩ := hrel
    obtain rfl := hw.symm
    clear hw
    have HK := Lib.hid hk
    clear hk
    have hj0 : (0 : Int) ≤ (j : Int) := Int.natCast_nonneg _
    by_cases hjl : j < n
    · have hlt2 : decide ((j : Int) < n) = true := decide_eq_true (by omega)
      obtain ⟨b, off, s, rfl, hbl, hcell, hsx⟩ := HR.out.at j hjl
      obtain ⟨d, hd⟩ : ∃ d, bl s 0 = d := ⟨_, rfl⟩
      have hdl := bl_le s
      rw [hd] at hdl
      have HBL := Lib.hid hd
      clear hd
      have hd0 : (0 : Int) ≤ (d : Int) := Int.natCast_nonneg _
      have hsz : s.size ≤ 9223372036854775807 := by omega
      by_cases t1 : d < s.size
      · have t2 : decide ((d : Int) < s.size) = true := decide_eq_true (by omega)
        by_cases t3 : (d : Int) < c
        · have t4 : decide ((d : Int) < c) = true := decide_eq_true (by omega)
          go_wp2_with (first | (go_at_call 209; refine (refBlanks_any _ _ hsx).mono ?_; rintro r w2 ⟨hr2, hw2⟩; rw [HBL.out] at hr2; subst hr2; obtain rfl := hw2.symm) | fail)
          go_roundg (n + 1 - (j + 1))
          case measure => rw [HK.out]; omega
          case rel => exact ⟨j + 1, d, rfl, rfl, by go_num, hd0, by omega, by omega, rfl⟩
        · have t4 : decide ((d : Int) < c) = false := decide_eq_false (by omega)
          go_wp2_with (first | (go_at_call 209; refine (refBlanks_any _ _ hsx).mono ?_; rintro r w2 ⟨hr2, hw2⟩; rw [HBL.out] at hr2; subst hr2; obtain rfl := hw2.symm) | fail)
          go_roundg (n + 1 - (j + 1))
          case measure => rw [HK.out]; omega
          case rel => exact ⟨j + 1, c, rfl, rfl, by go_num, hc0, hc, by omega, rfl⟩
      · have t2 : decide ((d : Int) < s.size) = false := decide_eq_false (by omega)
        go_wp2_with (first | (go_at_call 209; refine (refBlanks_any _ _ hsx).mono ?_; rintro r w2 ⟨hr2, hw2⟩; rw [HBL.out] at hr2; subst hr2; obtain rfl := hw2.symm) | fail)
        go_roundg (n + 1 - (j + 1))
        case measure => rw [HK.out]; omega
        case rel => exact ⟨j + 1, c, rfl, rfl, by go_num, hc0, hc, by omega, rfl⟩
    · have hlt2 : decide (j < n) = false := decide_eq_false hjl
      clear HK hj
      go_wp2_with fail
      clear hlt2 hjl hj0
      go_loopg [6, 7, 38] (n + 1) (fun k v6 v7 v38 wr => ∃ (j : Nat) (f l : Int), k = n + 1 - j ∧ v6 = .int .i64 f ∧ v7 = .int .i64 l ∧ v38 = .int .i64 (j : Nat) ∧ -1 ≤ f ∧ f < n ∧ -1 ≤ l ∧ l < n ∧ j ≤ n ∧ Below w.heap.size w wr)
      case atStart => exact ⟨0, -1, -1, rfl, rfl, rfl, rfl, by decide, by omega, by decide, by omega, Nat.zero_le _, Below.refl _ _⟩
      case round =>
        obtain ⟨j, f, l, hk, rfl, rfl, rfl, hf0, hf1, hl0, hl1, hj, hbe⟩ := hrel
        have HK := Lib.hid hk
        have HBE := Lib.hid hbe
        have HRW := Lib.hid (HR.out.below hbe)
        have hj0 : (0 : Int) ≤ (j : Int) := Int.natCast_nonneg _
        clear hk hbe
        by_cases hjl : j < n
        · have hlt2 : decide (j < n) = true := decide_eq_true hjl
          obtain ⟨b, off, s, rfl, hbl, hcell, hsx⟩ := HRW.out.at j hjl
          have hcl : ∀ y : Later wr, y.1.cell? ⟨b, off + j, none⟩ = some (.string s) := fun y => Later.cell hcell y
          have hd0 : (0 : Int) ≤ (bl s 0 : Int) := Int.natCast_nonneg _
          have hsz : s.size ≤ 9223372036854775807 := by omega
          have HBK : Hid (∀ y : Later wr, Calls Tryz.prog 209 #[.string s] y.1 fun e w' => e = .returned (.int .i64 (bl s 0 : Nat)) ∧ w' = y.1) := Lib.hid fun y => refBlanks_any s y.1 hsx
          clear hcell
          go_wp2_with fail
          refine wp_region_later (by kernel_rfl) (by kernel_rfl) ?_
          repeat (go_big_quiet_step ((exact Later.call_same (HBK.out _))))
          refine wpQuiet_nil ?_
          rintro w6 ⟨q6, rfl⟩
          have HB6 := Lib.hid (HBE.out.trans (q6.2.mono HBE.out.size))
          by_cases t1 : bl s 0 < s.size
          · have t2 : decide (bl s 0 < s.size) = true := decide_eq_true t1
            by_cases t3 : f < 0
            · have t4 : decide (f < 0) = true := decide_eq_true t3
              go_wp2_with fail
              go_roundg (n + 1 - (j + 1))
              case measure => rw [HK.out]; omega
              case rel => exact ⟨j + 1, j, j, rfl, rfl, rfl, by go_num, by omega, by omega, by omega, by omega, hjl, HB6.out⟩
            · have t4 : decide (f < 0) = false := decide_eq_false t3
              go_wp2_with fail
              go_roundg (n + 1 - (j + 1))
              case measure => rw [HK.out]; omega
              case rel => exact ⟨j + 1, f, j, rfl, rfl, rfl, by go_num, by omega, by omega, by omega, by omega, hjl, HB6.out⟩
          · have t2 : decide (bl s 0 < s.size) = false := decide_eq_false t1
            go_wp2_with fail
            go_roundg (n + 1 - (j + 1))
            case measure => rw [HK.out]; omega
            case rel => exact ⟨j + 1, f, l, rfl, rfl, rfl, by go_num, by omega, by omega, by omega, by omega, hjl, HB6.out⟩
        · have hlt2 : decide (j < n) = false := decide_eq_false hjl
          clear HK hj
          go_wp2_with fail
          clear hlt2 hjl hj0
          go_loopg [9, 10] (l + 1 - f).toNat (fun k v9 v10 wr' => ∃ (i : Int) (m : ByteArray), k = (l + 1 - i).toNat ∧ v10 = .int .i64 i ∧ v9 = .string m ∧ f ≤ i ∧ (f < 0 → i < 0) ∧ i ≤ n ∧ (m.size : Int) ≤ 20001 * (i + 1) ∧ wr' = wr)
          case atStart => exact ⟨f, ⟨#[]⟩, rfl, rfl, rfl, Int.le_refl _, fun h => h, by omega, by show (0 : Int) ≤ _; omega, rfl⟩
          case round =>
            obtain ⟨i, m, hk, rfl, rfl, hi0, hi1, hi2, hm, hw⟩ := hrel
            obtain rfl := hw.symm
            have HK := Lib.hid hk
            clear hk hw
            have hm0 : (0 : Int) ≤ (m.size : Int) := Int.natCast_nonneg _
            by_cases hgo : 0 ≤ i ∧ i ≤ l
            · obtain ⟨g1, g2⟩ := hgo
              obtain ⟨i, rfl⟩ := Int.eq_ofNat_of_zero_le g1
              have g4 : decide ((i : Int) ≤ l) = true := decide_eq_true g2
              have hjl : i < n := by omega
              have hi7 : (0 : Int) ≤ (i : Int) := Int.natCast_nonneg _
              obtain ⟨b, off, s, rfl, hbl, hcell, hsx⟩ := HRW.out.at i hjl
              have hsz : s.size ≤ 9223372036854775807 := by omega
              have hs0 : (0 : Int) ≤ (s.size : Int) := Int.natCast_nonneg _
              have HM := Lib.hid hm
              have hf9 : 0 ≤ f := by omega
              clear hi1
              have hg : (0 < i ∧ decide (0 < i) = true ∧ c < 1000000 ∧ decide (c < 1000000) = true ∧ c < s.size ∧ decide (c < s.size) = true ∧ c ≤ s.size) ∨ (0 < i ∧ decide (0 < i) = true ∧ c < 1000000 ∧ decide (c < 1000000) = true ∧ ¬ c < s.size ∧ decide (c < s.size) = false) ∨ (0 < i ∧ decide (0 < i) = true ∧ ¬ c < 1000000 ∧ decide (c < 1000000) = false) ∨ (¬ 0 < i ∧ decide (0 < i) = false) := by
                by_cases p1 : 0 < i
                · by_cases p2 : c < 1000000
                  · by_cases p3 : c < s.size
                    · exact .inl ⟨p1, decide_eq_true p1, p2, decide_eq_true p2, p3, decide_eq_true p3, by omega⟩
                    · exact .inr (.inl ⟨p1, decide_eq_true p1, p2, decide_eq_true p2, p3, decide_eq_false p3⟩)
                  · exact .inr (.inr (.inl ⟨p1, decide_eq_true p1, p2, decide_eq_false p2⟩))
                · exact .inr (.inr (.inr ⟨p1, decide_eq_false p1⟩))
              have hf : (f < i ∧ decide (f < i) = true) ∨ (¬ f < i ∧ decide (f < i) = false) := by
                by_cases p : f < i
                · exact .inl ⟨p, decide_eq_true p⟩
                · exact .inr ⟨p, decide_eq_false p⟩
              rcases hg with ⟨p1, q1, p2, q2, p3, q3, p4⟩ | ⟨p1, q1, p2, q2, p3, q3⟩ | ⟨p1, q1, p2, q2⟩ | ⟨p1, q1⟩
              all_goals rcases hf with ⟨p5, q5⟩ | ⟨p5, q5⟩
              all_goals
                have hmS : m.size ≤ 500000000 := by omega
                clear hm
                have HH := Lib.hid (And.intro hf9 (And.intro hi0 (And.intro hf0 (And.intro hf1 (And.intro hl1 (And.intro hl0 g2))))))
                clear hf9 hi0 hf0 hf1 hl1 hl0 g2 g1 hi2 p5
                go_wp2_with fail
                obtain ⟨hf9, hi0, hf0, hf1, hl1, hl0, g2⟩ := HH.out
                go_roundg (l + 1 - (i + 1)).toNat
                case measure => rw [HK.out]; omega
                case rel => exact ⟨i + 1, _, rfl, by go_num, rfl, by omega, fun h => by omega, by omega, by
                  have := HM.out
                  simp only [ByteArray.size_append, ByteArray.size_extract]
                  show ((_ : Nat) : Int) ≤ _
                  first | omega | (have e1 : (ByteArray.mk #[10]).size = 1 := rfl; have e0 : (ByteArray.mk #[]).size = 0 := rfl; omega), rfl⟩
            · have hf : decide (i ≥ 0) = false ∨ (decide (i ≥ 0) = true ∧ decide (i ≤ l) = false) := by
                by_cases p : i ≥ 0
                · exact .inr ⟨decide_eq_true p, decide_eq_false (by omega)⟩
                · exact .inl (decide_eq_false p)
              have HM := Lib.hid hm
              clear hgo
              rcases hf with p5 | ⟨p5, p6⟩
              all_goals
                go_wp2_with fail
                go_ret
                exact ⟨m, by have := HM.out; omega, rfl, HBE.out⟩
end Go.Proofs.YtefjgpkpplkkgaaGreatDoor
namespace Go.Proofs.YtefjgpkpplkkgaaGreatDoor
set_option linter.unusedSimpArgs false
set_option linter.unusedVariables false
open Go Go.RowKit

def sndC : Code → Code
  | .seq _ c => c
  | c => c
end Go.Proofs.YtefjgpkpplkkgaaGreatDoor
namespace Go.Proofs.YtefjgpkpplkkgaaGreatDoor
set_option linter.unusedSimpArgs false
set_option linter.unusedVariables false
open Go Go.RowKit

section
variable {w : World} {P : Nat → Prop}
end
end Go.Proofs.YtefjgpkpplkkgaaGreatDoor
namespace Go.Proofs.YtefjgpkpplkkgaaGreatDoor
set_option linter.unusedSimpArgs false
set_option linter.unusedVariables false
open Go Go.RowKit

namespace Lx
/-- What stands behind a block is the same, whatever was put. -/
theorem block_rest : ∀ (n : Nat) (l o1 o2 : List UInt8), l.length ≤ n → (block o1 l).map Prod.snd = (block o2 l).map Prod.snd
  | _, [], o1, o2, _ => by rw [block_nil, block_nil]
  | 0, c :: t, _, _, h => by simp at h
  | n + 1, c :: t, o1, o2, h => by
    have hn : t.length ≤ n := by simpa using h
    cases h0 : quotes3 (c :: t) with
    | true => rw [block_end h0, block_end h0]; rfl
    | false =>
      by_cases h1 : c.toNat = 92 ∧ quotes3 t = true
      · rw [block_esc h0 h1, block_esc h0 h1]
        exact block_rest n _ _ _ (by rw [List.length_drop]; omega)
      by_cases h2 : ctlB (c :: t)
      · rw [block_bad h0 h1 h2, block_bad h0 h1 h2]
      have hr : (rune (c :: t)).2 ≠ 0 := fun e => h2 (.inl e)
      rw [block_go h0 h1 h2, block_go h0 h1 h2]
      exact block_rest n _ _ _ (by rw [List.length_drop, List.length_cons]; omega)
end Lx
/-- The place behind a block; none: it goes wrong. -/
def blE (s : ByteArray) (b : Nat) : Nat := match (Lx.block [] (sfx s b)).map Prod.snd with
  | none => 0
  | some r => s.size - r.length
theorem blE_of {s : ByteArray} {b b' : Nat} (o : List UInt8) (h : Lx.block [] (sfx s b) = Lx.block o (sfx s b')) : blE s b = blE s b' := by
  unfold blE
  rw [h, Lx.block_rest _ _ o [] (Nat.le_refl _)]
theorem blE_end (s : ByteArray) (b : Nat) (h : s.size ≤ b) : blE s b = 0 := by
  unfold blE
  rw [sfx_end s b h, Lx.block_nil]; rfl
theorem q3_len {s : ByteArray} {b : Nat} (h : Lx.quotes3 (sfx s b) = true) : b + 3 ≤ s.size := by
  rcases Nat.lt_or_ge s.size (b + 3) with h1 | h1
  · rw [q3_short s b (by omega)] at h; cases h
  · exact h1
theorem blE_quote (s : ByteArray) (b : Nat) (h : Lx.quotes3 (sfx s b) = true) : blE s b = b + 3 ∧ b + 3 ≤ s.size := by
  have h3 := q3_len h
  refine ⟨?_, h3⟩
  unfold blE
  rw [sfx_cons s b (by omega)] at h ⊢
  rw [Lx.block_end h, ← sfx_cons s b (by omega), sfx_drop]
  show s.size - (sfx s (b + 3)).length = _
  rw [sfx_len]
  omega
theorem blE_esc (s : ByteArray) (b : Nat) (h0 : Lx.quotes3 (sfx s b) = false) (h1 : (bt s b).toNat = 92) (h2 : Lx.quotes3 (sfx s (b + 1)) = true) : blE s b = blE s (b + 4) ∧ b + 4 ≤ s.size := by
  have h3 := q3_len h2
  refine ⟨blE_of ([] ++ [34, 34, 34]) ?_, h3⟩
  rw [sfx_cons s b (by omega)] at h0 ⊢
  rw [Lx.block_esc h0 ⟨h1, h2⟩, sfx_drop]
theorem blE_rune (s : ByteArray) (b r n : Nat) (hlt : b < s.size) (h0 : Lx.quotes3 (sfx s b) = false) (h1 : ¬ ((bt s b).toNat = 92 ∧ Lx.quotes3 (sfx s (b + 1)) = true)) (hr : Lx.rune (sfx s b) = (r, n)) :
    ((n = 0 ∨ (r < 32 ∧ r ≠ 9 ∧ r ≠ 10 ∧ r ≠ 13)) → blE s b = 0) ∧ (¬ (n = 0 ∨ (r < 32 ∧ r ≠ 9 ∧ r ≠ 10 ∧ r ≠ 13)) → blE s b = blE s (b + n) ∧ b + n ≤ s.size ∧ 1 ≤ n ∧ n ≤ 4) := by
  have hn4 := Lx.rune_le4 (sfx s b)
  have hnl := Lx.rune_len (sfx s b)
  rw [hr] at hn4 hnl
  rw [sfx_len] at hnl
  rw [sfx_cons s b hlt] at hr h0
  refine ⟨fun h => ?_, fun h => ?_⟩
  · unfold blE
    rw [sfx_cons s b hlt, Lx.block_bad h0 h1 (by unfold Lx.ctlB; rw [hr]; exact h)]
    rfl
  · have hn0 : n ≠ 0 := fun e => h (.inl e)
    have hn4 : n ≤ 4 := hn4
    have hnl : n ≤ s.size - b := hnl
    refine ⟨blE_of ([] ++ (bt s b :: sfx s (b + 1)).take n) ?_, by omega, by omega, hn4⟩
    rw [sfx_cons s b hlt, Lx.block_go h0 h1 (by unfold Lx.ctlB; rw [hr]; exact h), hr, ← sfx_cons s b hlt, sfx_drop]
theorem q3_not {s : ByteArray} {b n : Nat} (h : (bt s b).toNat = n) (hn : n ≠ 34) : Lx.quotes3 (sfx s b) = false := by
  rcases Nat.lt_or_ge b s.size with h1 | h1
  · rw [sfx_cons s b h1]
    unfold Lx.quotes3
    rw [decide_eq_false_iff_not]
    intro e
    simp only [List.take_succ_cons, List.cons.injEq] at e
    rw [e.1] at h
    exact hn h.symm
  · exact q3_short s b (by omega)
theorem blE_low (s : ByteArray) (b n : Nat) (h : (bt s b).toNat = n) (hn : n = 10 ∨ n = 13) : blE s b = blE s (b + 1) ∧ b + 1 ≤ s.size := by
  obtain ⟨hlt, hr⟩ := low_rune s b n h (by omega) (by omega)
  have := (blE_rune s b n 1 hlt (q3_not h (by omega)) (by omega) hr).2 (by omega)
  exact ⟨this.1, this.2.1⟩
/-- A rune that is no newline, with what the document's lexer asks of it. -/
theorem blE_plain (s : ByteArray) (b r n : Nat) (hlt : b < s.size) (h0 : Lx.quotes3 (sfx s b) = false) (h1 : ¬ ((bt s b).toNat = 92 ∧ Lx.quotes3 (sfx s (b + 1)) = true)) (h2 : ¬ ((bt s b).toNat = 10)) (h3 : ¬ ((bt s b).toNat = 13)) (hr : Lx.rune (sfx s b) = (r, n)) :
    ((n = 0 ∨ (r < 32 ∧ r ≠ 9)) → blE s b = 0) ∧ (¬ (n = 0 ∨ (r < 32 ∧ r ≠ 9)) → blE s b = blE s (b + n) ∧ b + n ≤ s.size ∧ 1 ≤ n ∧ n ≤ 4) := by
  have hb := blE_rune s b r n hlt h0 h1 hr
  have hne : n = 0 ∨ (r ≠ 10 ∧ r ≠ 13) := by
    rw [sfx_cons s b hlt] at hr
    by_cases hc : (bt s b).toNat < 128
    · rw [rune_low _ _ hc] at hr
      simp only [Prod.mk.injEq] at hr
      omega
    · by_cases hn0 : n = 0
      · exact .inl hn0
      · have := Lx.rune_hi (bt s b) (sfx s (b + 1)) (by omega) (by rw [hr]; exact hn0)
        rw [hr] at this
        have : 128 ≤ r := this
        omega
  exact ⟨fun h => hb.1 (by omega), fun h => hb.2 (by omega)⟩

theorem infoStrL : (Tryz.prog.info? 9).map (fun i => (i.zero, i.size, i.bytes)) = some (some (.string ⟨#[]⟩), 1, 16) := by kernel_rfl
def lsC (l : List ByteArray) : List Value := l.map .string
theorem lrow_of {w : World} {base n : Nat} {v : Value} {ls : List ByteArray} (h : w.ownsRow base 9 1 v n (lsC ls)) (hn : ls.length = n) (hl : ∀ x ∈ ls, x.size ≤ 20000) : LRow w v n := by
  subst hn
  rcases Nat.eq_zero_or_pos ls.length with h0 | h0
  · have e : ls = [] := List.eq_nil_of_length_eq_zero h0
    subst e
    rcases h.2 with ⟨h4, h5⟩ | ⟨g, cap, cur, hv, hg, hc, h6⟩
    · exact ⟨none, 0, h4, fun i hi => by simp at hi⟩
    · exact ⟨_, _, hv, fun i hi => by simp at hi⟩
  · obtain ⟨g, c, rfl, -, h2⟩ := rowForm h h0
    refine ⟨_, _, rfl, fun i hi => ⟨g, 0, ls[i], rfl, h2, ?_, hl _ (List.getElem_mem _)⟩⟩
    have := row_cell h i (.string ls[i]) (by unfold lsC; rw [List.getElem?_map, List.getElem?_eq_getElem hi]; rfl)
    rw [Nat.zero_add]
    exact this
theorem rlGrown {lo n k : Nat} {E : TypeId} {v : Value} {cs : List Value} {w1 wr w8 : World} (h : Below lo w1 wr) (hx : wr.ownsRow lo E k v n cs) (hs : lo ≤ wr.heap.size) (hg : wr.grownBy w8 v.ownBlock) : Below lo w1 w8 :=
  ⟨hg.os.trans h.os, hg.tape.trans h.tape, hg.output.trans h.output, Nat.le_trans h.size hg.size, fun k hk => by rw [hg.block k (by omega) (fun e => by have := (hx.lt k e.symm).1; omega)]; exact h.block k hk⟩
end Go.Proofs.YtefjgpkpplkkgaaGreatDoor
namespace Go.Proofs.YtefjgpkpplkkgaaGreatDoor
set_option linter.unusedSimpArgs false
set_option linter.unusedVariables false
open Go Go.RowKit

def BlPost (s : ByteArray) (a : Nat) (w : World) (r : Ending) (w' : World) : Prop := ∃ m : ByteArray, m.size ≤ 100000000 ∧ r = .returned (.tuple #[.string m, .int .i64 (blE s (a + 3) : Nat)]) ∧ Below w.heap.size w w'
set_option maxHeartbeats 4000000 in
set_option maxRecDepth 100000 in
theorem refBlock_any (s : ByteArray) (a : Nat) (w : World) (hs : s.size ≤ 4096) (ha : a + 3 ≤ s.size) :
    Calls Tryz.prog 109 #[.string s, .int .i64 a] w (BlPost s a w) := by
  obtain ⟨i0, hi, hz0, hz1, hz2⟩ := info_parts infoStrL
  have hs1 : s.size ≤ 9223372036854775807 := by omega
  have ha0 : (0 : Int) ≤ (a : Int) := Int.natCast_nonneg _
  have hzz : (0 : Int) ≤ (s.size : Int) := Int.natCast_nonneg _
  go_enter Tryz.func109, Tryz.ntmps109
  go_wp2_with fail
  go_loopg [1, 6, 7] (s.size + 1 - (a + 3)) (fun k v1 v6 v7 wr => ∃ (b m : Nat) (va : Option Addr) (vc : Nat) (l : ByteArray) (ls : List ByteArray), k = s.size + 1 - b ∧ b ≤ s.size ∧ v1 = .int .i64 (b : Nat) ∧ v6 = .slice va m vc ∧ v7 = .string l ∧ m = ls.length ∧ wr.ownsRow w.heap.size 9 1 (.slice va m vc) m (lsC ls) ∧ (∀ x ∈ ls, x.size ≤ 20000) ∧ m ≤ b ∧ l.size ≤ 4 * b ∧ blE s b = blE s (a + 3) ∧ Below w.heap.size w wr)
  case atStart => exact ⟨a + 3, 0, none, 0, ⟨#[]⟩, [], rfl, ha, by go_num, rfl, rfl, rfl, World.ownsRow_nil _ _ _ _, (fun x hx => by simp at hx), Nat.zero_le _, Nat.zero_le _, rfl, Below.refl _ _⟩
  case round =>
    obtain ⟨b, m, va, vc, l, ls, hk, hb, rfl, rfl, rfl, hm, hrow, hls, hmb, hl, hx, hbe⟩ := hrel
    have HK := Lib.hid hk
    have HX := Lib.hid hx
    have HB := Lib.hid hbe
    have HM := Lib.hid hm
    have HR := Lib.hid hrow
    have HLS := Lib.hid hls
    have hb0 : (0 : Int) ≤ (b : Int) := Int.natCast_nonneg _
    have hl0 : (0 : Int) ≤ (l.size : Int) := Int.natCast_nonneg _
    have HSZ : Hid (w.heap.size ≤ (wr.alloc (.cells #[.string l] 9)).heap.size) := Lib.hid (by have := hbe.size; simp; omega)
    have HXX : Hid ((wr.alloc (.cells #[.string l] 9)).ownsRow w.heap.size 9 1 (.slice va m vc) m (lsC ls)) := Lib.hid (hrow.alloc _)
    have HBX : Hid (Below w.heap.size w (wr.alloc (.cells #[.string l] 9))) := Lib.hid (hbe.alloc hbe.size _)
    have HLIT : Hid (∀ j u, ([.string l] : List Value)[j]? = some u → (wr.alloc (.cells #[.string l] 9)).cell? ((⟨wr.heap.size, 0, none⟩ : Addr).add j) = some u) := Lib.hid (lit_cells (w := (wr.alloc (.cells #[.string l] 9))) (L := wr.heap.size) (zs := [.string l]) (T := 9) (fz := (0, 0)) (heap_at_new wr (.cells #[.string l] 9)))
    have HLS8 : Hid (∀ x ∈ ls ++ [l], x.size ≤ 20000) := Lib.hid (fun x hx => by
      rcases List.mem_append.1 hx with h | h
      · exact hls x h
      · simp at h; subst h; omega)
    clear hk hx hbe hm hrow hls
    by_cases hlt : b < s.size
    · have hlt1 : (b : Int) < s.size := by omega
      have HT0 : Hid (∀ w, Calls Tryz.prog 108 #[.string s, .int .i64 b] w fun e w' => e = .returned (.bool (Lx.quotes3 (sfx s b))) ∧ w' = w) := Lib.hid fun w => refThree_any s b w hs hb _ rfl
      have HT1 : Hid (∀ w, Calls Tryz.prog 108 #[.string s, .int .i64 ((b : Int) + 1)] w fun e w' => e = .returned (.bool (Lx.quotes3 (sfx s (b + 1)))) ∧ w' = w) := Lib.hid fun w => refThree_any s (b + 1) w hs hlt _ (by omega)
      have HON : Hid (∀ w, Calls Tryz.prog 164 #[.string s, .int .i64 ((b : Int) + 1)] w fun e w' => e = .returned (.int .i64 (oneAt s (b + 1))) ∧ w' = w) := Lib.hid fun w => by
        have := one_any s (b + 1) w hs1 (by omega)
        rwa [show ((b + 1 : Nat) : Int) = (b : Int) + 1 by omega] at this
      cases q0 : Lx.quotes3 (sfx s b) with
      | true =>
        rw [q0] at HT0
        obtain ⟨hN, hb3⟩ := blE_quote s b q0
        have HN : Hid (blE s (a + 3) = b + 3) := Lib.hid (HX.out.symm.trans hN)
        clear hN q0
        go_wp2_with (first
          | (at_builtin; refine wpList_append_own_at _ rfl _ _ 120 rfl w.heap.size 9 i0 _ 1 16 Tryz.underlying120 hi hz0 hz1 hz2 rfl (by decide) (.slice va m vc) m (lsC ls) rfl HXX.out ⟨wr.heap.size, 0, none⟩ 1 1 [.string l] rfl rfl HLIT.out (fun u hu => by simp at hu; subst hu; rfl) (by unfold maxLen; omega) (by omega) HSZ.out ?_; intro v' w8 hrow8 hg8 hnil8 hloc8; clear hnil8 hloc8; obtain ⟨g', c', rfl, hg1, hg2⟩ := rowForm hrow8 (by omega); have HROW := Lib.hid hrow8; have HB8 := Lib.hid (rlGrown HBX.out HXX.out HBX.out.size hg8); clear hrow8 hg8
             have HLR := Lib.hid (lrow_of (ls := ls ++ [l]) (by unfold lsC; rw [List.map_append]; exact HROW.out) (by rw [List.length_append, ← HM.out]; rfl) HLS8.out))
          | (go_at_call 171; refine (refLines_any _ _ _ HLR.out (by omega)).mono ?_; rintro r w9 ⟨t, ht, rfl, hb9⟩; have HB9 := Lib.hid (HB8.out.trans (hb9.mono HB8.out.size)); clear hb9)
          | (go_at_call 108; (first | with_reducible refine (HT0.out _).mono ?_ | with_reducible refine (HT1.out _).mono ?_); rintro e2 w2 ⟨rfl, hw2⟩; obtain rfl := hw2.symm) | fail)
        go_ret2
        refine ⟨t, by omega, by rw [HN.out]; rfl, HB9.out⟩
      | false =>
      rw [q0] at HT0
      by_cases q10 : (bt s b).toNat = 10 ∨ (bt s b).toNat = 13
      · have e92 := eqF (n := (bt s b).toNat) (k := 92) (by omega)
        obtain ⟨n, hn⟩ : ∃ n, n = (if (bt s b).toNat = 13 ∧ (bt s (b + 1)).toNat = 10 then 2 else 1) := ⟨_, rfl⟩
        have hN : blE s (b + n) = blE s b ∧ b + n ≤ s.size := by
          have h1 := blE_low s b _ rfl q10
          by_cases h : (bt s b).toNat = 13 ∧ (bt s (b + 1)).toNat = 10
          · rw [if_pos h] at hn
            have h2 := blE_low s (b + 1) 10 h.2 (.inl rfl)
            subst hn
            exact ⟨(h1.1.trans h2.1).symm, h2.2⟩
          · rw [if_neg h] at hn
            subst hn
            exact ⟨h1.1.symm, h1.2⟩
        have HN := Lib.hid (hN.1.trans HX.out)
        have hbn := hN.2
        have hcs : ((((bt s b).toNat : Int) == 10) = true ∧ n = 1 ∧ (((bt s b).toNat : Int) == 13) = false) ∨ ((((bt s b).toNat : Int) == 10) = false ∧ (((bt s b).toNat : Int) == 13) = true ∧ (oneAt s (b + 1) == 10) = true ∧ n = 2) ∨ ((((bt s b).toNat : Int) == 10) = false ∧ (((bt s b).toNat : Int) == 13) = true ∧ (oneAt s (b + 1) == 10) = false ∧ n = 1) := by
          rcases q10 with h | h
          · rw [if_neg (by omega)] at hn
            exact .inl ⟨eqT (by omega), hn, eqF (by omega)⟩
          · refine .inr ?_
            by_cases h2 : (bt s (b + 1)).toNat = 10
            · rw [if_pos ⟨h, h2⟩] at hn
              refine .inl ⟨eqF (by omega), eqT (by omega), ?_, hn⟩
              unfold oneAt
              rw [if_pos (lt_of_bt8 h2 (by decide))]
              exact eqT (by omega)
            · rw [if_neg (fun e => h2 e.2)] at hn
              refine .inr ⟨eqF (by omega), eqT (by omega), ?_, hn⟩
              unfold oneAt
              by_cases h3 : b + 1 < s.size
              · rw [if_pos h3]
                exact eqF (by omega)
              · rw [if_neg h3]
                rfl
        clear hn hN q10 q0
        rcases hcs with ⟨c1, rfl, c2⟩ | ⟨c1, c2, c3, rfl⟩ | ⟨c1, c2, c3, rfl⟩
        · go_wp2_with (first
            | (at_builtin; refine wpList_append_own_at _ rfl _ _ 120 rfl w.heap.size 9 i0 _ 1 16 Tryz.underlying120 hi hz0 hz1 hz2 rfl (by decide) (.slice va m vc) m (lsC ls) rfl HXX.out ⟨wr.heap.size, 0, none⟩ 1 1 [.string l] rfl rfl HLIT.out (fun u hu => by simp at hu; subst hu; rfl) (by unfold maxLen; omega) (by omega) HSZ.out ?_; intro v' w8 hrow8 hg8 hnil8 hloc8; clear hnil8 hloc8; obtain ⟨g', c', rfl, hg1, hg2⟩ := rowForm hrow8 (by omega); have HROW := Lib.hid hrow8; have HB8 := Lib.hid (rlGrown HBX.out HXX.out HBX.out.size hg8); clear hrow8 hg8)
            | (go_at_call 108; (first | with_reducible refine (HT0.out _).mono ?_ | with_reducible refine (HT1.out _).mono ?_); rintro e2 w2 ⟨rfl, hw2⟩; obtain rfl := hw2.symm) | (go_at_call 164; refine (HON.out _).mono ?_; rintro e2 w2 ⟨rfl, hw2⟩; obtain rfl := hw2.symm) | fail)
          go_roundg (s.size + 1 - (b + 1))
          case measure => rw [HK.out]; omega
          case rel => exact ⟨b + 1, m + 1, _, _, ⟨#[]⟩, ls ++ [l], rfl, hbn, by go_num, rfl, rfl, by rw [List.length_append, ← HM.out]; rfl, by unfold lsC; rw [List.map_append]; exact HROW.out, HLS8.out, by omega, by show 0 ≤ _; omega, HN.out, HB8.out⟩
        · go_wp2_with (first
            | (at_builtin; refine wpList_append_own_at _ rfl _ _ 120 rfl w.heap.size 9 i0 _ 1 16 Tryz.underlying120 hi hz0 hz1 hz2 rfl (by decide) (.slice va m vc) m (lsC ls) rfl HXX.out ⟨wr.heap.size, 0, none⟩ 1 1 [.string l] rfl rfl HLIT.out (fun u hu => by simp at hu; subst hu; rfl) (by unfold maxLen; omega) (by omega) HSZ.out ?_; intro v' w8 hrow8 hg8 hnil8 hloc8; clear hnil8 hloc8; obtain ⟨g', c', rfl, hg1, hg2⟩ := rowForm hrow8 (by omega); have HROW := Lib.hid hrow8; have HB8 := Lib.hid (rlGrown HBX.out HXX.out HBX.out.size hg8); clear hrow8 hg8)
            | (go_at_call 108; (first | with_reducible refine (HT0.out _).mono ?_ | with_reducible refine (HT1.out _).mono ?_); rintro e2 w2 ⟨rfl, hw2⟩; obtain rfl := hw2.symm) | (go_at_call 164; refine (HON.out _).mono ?_; rintro e2 w2 ⟨rfl, hw2⟩; obtain rfl := hw2.symm) | fail)
          go_roundg (s.size + 1 - (b + 2))
          case measure => rw [HK.out]; omega
          case rel => exact ⟨b + 2, m + 1, _, _, ⟨#[]⟩, ls ++ [l], rfl, hbn, by go_num, rfl, rfl, by rw [List.length_append, ← HM.out]; rfl, by unfold lsC; rw [List.map_append]; exact HROW.out, HLS8.out, by omega, by show 0 ≤ _; omega, HN.out, HB8.out⟩
        · go_wp2_with (first
            | (at_builtin; refine wpList_append_own_at _ rfl _ _ 120 rfl w.heap.size 9 i0 _ 1 16 Tryz.underlying120 hi hz0 hz1 hz2 rfl (by decide) (.slice va m vc) m (lsC ls) rfl HXX.out ⟨wr.heap.size, 0, none⟩ 1 1 [.string l] rfl rfl HLIT.out (fun u hu => by simp at hu; subst hu; rfl) (by unfold maxLen; omega) (by omega) HSZ.out ?_; intro v' w8 hrow8 hg8 hnil8 hloc8; clear hnil8 hloc8; obtain ⟨g', c', rfl, hg1, hg2⟩ := rowForm hrow8 (by omega); have HROW := Lib.hid hrow8; have HB8 := Lib.hid (rlGrown HBX.out HXX.out HBX.out.size hg8); clear hrow8 hg8)
            | (go_at_call 108; (first | with_reducible refine (HT0.out _).mono ?_ | with_reducible refine (HT1.out _).mono ?_); rintro e2 w2 ⟨rfl, hw2⟩; obtain rfl := hw2.symm) | (go_at_call 164; refine (HON.out _).mono ?_; rintro e2 w2 ⟨rfl, hw2⟩; obtain rfl := hw2.symm) | fail)
          go_roundg (s.size + 1 - (b + 1))
          case measure => rw [HK.out]; omega
          case rel => exact ⟨b + 1, m + 1, _, _, ⟨#[]⟩, ls ++ [l], rfl, hbn, by go_num, rfl, rfl, by rw [List.length_append, ← HM.out]; rfl, by unfold lsC; rw [List.map_append]; exact HROW.out, HLS8.out, by omega, by show 0 ≤ _; omega, HN.out, HB8.out⟩
      have e10 := eqF (n := (bt s b).toNat) (k := 10) (by omega)
      have e13 := eqF (n := (bt s b).toNat) (k := 13) (by omega)
      by_cases q92 : (bt s b).toNat = 92 ∧ Lx.quotes3 (sfx s (b + 1)) = true
      · have e92 := eqT (n := (bt s b).toNat) (k := 92) (by omega)
        obtain ⟨hN, hbn⟩ := blE_esc s b q0 q92.1 q92.2
        have HN := Lib.hid (hN.symm.trans HX.out)
        rw [q92.2] at HT1
        clear hN q92 q0 q10
        go_wp2_with (first | (go_at_call 108; (first | with_reducible refine (HT0.out _).mono ?_ | with_reducible refine (HT1.out _).mono ?_); rintro e2 w2 ⟨rfl, hw2⟩; obtain rfl := hw2.symm) | fail)
        go_roundg (s.size + 1 - (b + 4))
        case measure => rw [HK.out]; omega
        case rel => exact ⟨b + 4, m, _, _, _, ls, rfl, hbn, by go_num, rfl, rfl, HM.out, HR.out, HLS.out, by omega, by rw [ByteArray.size_append]; have e1 : (ByteArray.mk #[34, 34, 34]).size = 3 := rfl; omega, HN.out, HB.out⟩
      obtain ⟨r, n, hrn⟩ : ∃ r n, Lx.rune (sfx s b) = (r, n) := ⟨_, _, rfl⟩
      obtain ⟨h1, h2⟩ := blE_plain s b r n hlt q0 q92 (by omega) (by omega) hrn
      have HRN := Lib.hid hrn
      have hq : (((bt s b).toNat : Int) == 92) = false ∨ ((((bt s b).toNat : Int) == 92) = true ∧ Lx.quotes3 (sfx s (b + 1)) = false) := by
        by_cases h : (bt s b).toNat = 92
        · refine .inr ⟨eqT (by omega), ?_⟩
          cases hh : Lx.quotes3 (sfx s (b + 1))
          · rfl
          · exact absurd ⟨h, hh⟩ q92
        · exact .inl (eqF (by omega))
      clear hrn q0 q92 q10
      by_cases hbad : n = 0 ∨ (r < 32 ∧ r ≠ 9)
      · have HN : Hid (blE s (a + 3) = 0) := Lib.hid (by rw [← HX.out]; exact h1 hbad)
        have hbt : ((n : Int) == 0) = true ∨ (((n : Int) == 0) = false ∧ decide ((r : Int) < 32) = true ∧ ((r : Int) != 9) = true) := by
          by_cases h0 : n = 0
          · exact .inl (eqT (by omega))
          · rcases hbad with h | h
            · exact absurd h h0
            · exact .inr ⟨eqF (by omega), decide_eq_true (by omega), neT (by omega)⟩
        clear hbad h1 h2
        rcases hq with f1 | ⟨f1, f2⟩
        all_goals (try rw [f2] at HT1)
        all_goals rcases hbt with t1 | ⟨t1, t2, t3⟩
        all_goals
          go_wp2_with (first | (go_at_call 108; (first | with_reducible refine (HT0.out _).mono ?_ | with_reducible refine (HT1.out _).mono ?_); rintro e2 w2 ⟨rfl, hw2⟩; obtain rfl := hw2.symm) | (go_at_call 94; refine (refRune_any s b _ hs (by omega)).mono ?_; rintro r w2 ⟨hr2, hw2⟩; rw [HRN.out] at hr2; subst hr2; obtain rfl := hw2.symm) | fail)
          go_ret2
          exact ⟨⟨#[]⟩, by decide, by rw [HN.out]; rfl, HB.out⟩
      · obtain ⟨h3, h4, h5, h6⟩ := h2 hbad
        have HN := Lib.hid (h3.symm.trans HX.out)
        have t1 : ((n : Int) == 0) = false := eqF (by omega)
        have hbt : decide ((r : Int) < 32) = false ∨ (decide ((r : Int) < 32) = true ∧ ((r : Int) != 9) = false) := by
          by_cases h0 : r < 32
          · exact .inr ⟨decide_eq_true (by omega), neF (by omega)⟩
          · exact .inl (decide_eq_false (by omega))
        have hn1 : (0 : Int) ≤ (n : Int) := Int.natCast_nonneg _
        have hbn : (b : Int) + n ≤ s.size := by omega
        clear hbad h1 h2 h3
        rcases hq with f1 | ⟨f1, f2⟩
        all_goals (try rw [f2] at HT1)
        all_goals rcases hbt with t2 | ⟨t2, t3⟩
        all_goals
          go_wp2_with (first | (go_at_call 108; (first | with_reducible refine (HT0.out _).mono ?_ | with_reducible refine (HT1.out _).mono ?_); rintro e2 w2 ⟨rfl, hw2⟩; obtain rfl := hw2.symm) | (go_at_call 94; refine (refRune_any s b _ hs (by omega)).mono ?_; rintro r w2 ⟨hr2, hw2⟩; rw [HRN.out] at hr2; subst hr2; obtain rfl := hw2.symm) | fail)
          go_roundg (s.size + 1 - (b + n))
          case measure => rw [HK.out]; omega
          case rel => exact ⟨b + n, m, _, _, _, ls, rfl, h4, by go_num, rfl, rfl, HM.out, HR.out, HLS.out, by omega, by rw [ByteArray.size_append, ByteArray.size_extract]; have := Nat.sub_le_sub_right (Nat.min_le_left (b + n) s.size) b; omega, HN.out, HB.out⟩
    · have hlt1 : (s.size : Int) ≤ b := by omega
      have HN : Hid (blE s (a + 3) = 0) := Lib.hid (by rw [← HX.out]; exact blE_end s b (by omega))
      go_wp2_with fail
      go_ret2
      exact ⟨⟨#[]⟩, by decide, by rw [HN.out]; rfl, HB.out⟩
end Go.Proofs.YtefjgpkpplkkgaaGreatDoor
