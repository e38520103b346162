/-
  The lexer's 'token', walked.
-/
import Derived.Test.YtonblegbnkfhbaaDoorLxts
import Derived.Test.YtonblegbnkfhbaaDoorLxw4
import Derived.Test.YtonblegbnkfhbaaDoorLxw9
import Derived.Outline
import Derived.Deep.DeepCutAuto
import Derived.Deep.CutBlock
import Derived.Deep.RegionWith
namespace Go.Proofs.YtonblegbnkfhbaaDoor
set_option linter.unusedSimpArgs false
set_option linter.unusedVariables false
open Go Go.RowKit


theorem signIdx (c : UInt8) (w : World) :
    Calls Tryd.prog 24 #[.string ⟨#[33, 36, 38, 40, 41, 58, 61, 64, 91, 93, 123, 124, 125]⟩, .int .u8 c.toNat] w fun e w' => e = .returned (.int .i64 (Lib.indexByte Lx.signs c)) ∧ w' = w := by
  refine (Tryd.strings_IndexByte _ _ _).mono ?_
  rintro e w' ⟨rfl, rfl⟩
  refine ⟨?_, rfl⟩
  have h1 : ((c.toNat : Int)).toNat.toUInt8 = c := by simp
  rw [h1]
  rfl
theorem dots3_prefix (l : List UInt8) : Lx.dots3 l = Lib.hasPrefix l [46, 46, 46] := by
  match l with
  | [] => rfl
  | [a] => simp [Lx.dots3, Lib.hasPrefix, List.isPrefixOf]
  | [a, b] => simp [Lx.dots3, Lib.hasPrefix, List.isPrefixOf]
  | a :: b :: c :: t =>
    have e : Lib.hasPrefix (a :: b :: c :: t) [46, 46, 46] = ((46 == a) && ((46 == b) && ((46 == c) && true))) := rfl
    have e2 : Lx.dots3 (a :: b :: c :: t) = decide ([a, b, c] = [46, 46, 46]) := rfl
    rw [e, e2]
    by_cases h1 : a = 46
    · by_cases h2 : b = 46
      · by_cases h3 : c = 46
        · subst h1 h2 h3; decide
        · simp [h1, h2, h3, Ne.symm h3]
      · simp [h1, h2, Ne.symm h2]
    · simp [h1, Ne.symm h1]
theorem dots3_len {l : List UInt8} (h : Lx.dots3 l = true) : 3 ≤ l.length := by
  unfold Lx.dots3 at h
  have h1 := congrArg List.length (of_decide_eq_true h)
  rw [List.length_take] at h1
  simp at h1; omega

theorem extract_between (s : ByteArray) (a b : Nat) : s.extract a b = ⟨((sfx s a).take (b - a)).toArray⟩ := by
  have h : (s.extract a b).data = ((sfx s a).take (b - a)).toArray := by
    apply Array.ext'
    simp only [ByteArray.data_extract, Array.toList_extract, sfx, List.extract_eq_take_drop]
  cases h' : s.extract a b
  simp_all
/-- What 'token' leaves. -/
def TokPost (bx : Nat) (s : ByteArray) (a : Nat) (w : World) (e : Ending) (w' : World) : Prop :=
  ∃ b, a ≤ b ∧ b ≤ s.size ∧ Scan w' bx s b ∧ Fr bx w w' ∧ Env w' ∧
    ((∃ (k : Nat) (T : List UInt8), Lx.token (sfx s a) = some (k, T, sfx s b) ∧ a < b ∧ 1 ≤ k ∧ k ≤ 5 ∧ T.length ≤ 1000000000 ∧ e = .returned (.tuple #[.agg #[.int .i64 k, .string ⟨T.toArray⟩, .int .i64 a], .bool true])) ∨
     (Lx.token (sfx s a) = none ∧ ∃ K T, e = .returned (.tuple #[.agg #[.int .i64 K, .string T, .int .i64 a], .bool false])))

/-- Behind the switch. -/
def Mid (bx : Nat) (s : ByteArray) (a : Nat) (w : World) (ok : Bool) (wx : World) : Prop :=
  ∃ (b : Nat) (K : Nat) (T : List UInt8), a ≤ b ∧ b ≤ s.size ∧ TS w bx s b K ⟨T.toArray⟩ a wx ∧
    ((ok = true ∧ K = 4 ∧ Lx.token (sfx s a) = some (4, T, sfx s b) ∧ a < b ∧ T.length ≤ 1000000000) ∨
     (ok = true ∧ K ≠ 4 ∧ 1 ≤ K ∧ K ≤ 5 ∧ T = [] ∧ a < b ∧ Lx.token (sfx s a) = some (K, (sfx s a).take (b - a), sfx s b)) ∨
     (ok = false ∧ Lx.token (sfx s a) = none))

set_option maxHeartbeats 8000000 in
set_option maxRecDepth 100000 in
theorem token_any (bx : Nat) (s : ByteArray) (a : Nat) (w : World) (hs : s.size ≤ 4096) (hat : a < s.size) (h : Scan w bx s a) (hE : Env w) (h3 : 3 ≤ bx) :
    Calls Tryd.prog 17 #[.pointer (some ⟨bx, 0, none⟩)] w (TokPost bx s a w) := by
  have hT0 := TS.start h hE h3 (a : Int)
  have c0 := h.c0; have c1 := h.c1; have hbl := h.lt
  have hbn : bx ≠ w.heap.size := by omega
  have HT0 := Lib.hid hT0
  clear hT0
  go_enter Tryd.func17, Tryd.ntmps17
  go_wp2_with fail
  refine (peek0_any bx s a _ hs (by omega) HT0.out.scan).mono ?_
  rintro e w1 ⟨rfl, n1, hw1⟩
  have hT := HT0.out.drewN n1
  rw [← hw1] at hT
  clear hw1 HT0 c0 c1 h hE
  go_upto_block 0 with (fail)
  go_cut [6] (fun s6 wx => ∃ ok : Bool, s6 = .bool ok ∧ Mid bx s a w ok wx)
  case first =>
    have t0 := hT.tok.c0; have f0 := hT.tok.fz 0; have t1 := hT.tok.c1; have f1 := hT.tok.fz 1
    have c0 := hT.scan.c0; have c1 := hT.scan.c1; have g1 := hT.scan.f1
    have hne : w.heap.size + 1 ≠ bx := by omega
    have hn1 : w.heap.size + 1 < w1.heap.size := hT.tok.lt
    have HH := Lib.hid (hd_sfx s a)
    have hlt : a + 1 ≤ s.size := hat
    have HC := Lib.hid (sfx_cons s a hat)
    have hxs := extract_sfx s a
    cases hlet : Lx.isLetter (bt s a)
    · have HLE := Lib.hid hlet
      clear hlet
      have htok1 : Lx.token (sfx s a) = if (bt s a).toNat = 45 ∨ Lx.isDigit (bt s a) = true then (Lx.number (sfx s a)).map fun p => (p.1, (sfx s a).take ((sfx s a).length - p.2.length), p.2)
          else if Lx.quotes3 (sfx s a) then (Lx.block [] (sfx s (a + 3))).map fun p => (4, Lx.dedent p.1, p.2)
          else if (bt s a).toNat = 34 then (Lx.text [] (sfx s (a + 1))).map fun p => (4, p.1, p.2)
          else if Lx.dots3 (sfx s a) then some (5, (sfx s a).take 3, sfx s (a + 3))
          else if (bt s a).toNat ≠ 0 ∧ Lx.signs.contains (bt s a) = true then some (5, (sfx s a).take 1, sfx s (a + 1))
          else none := by
        unfold Lx.token
        rw [HH.out, HLE.out, if_neg Bool.false_ne_true, sfx_drop, sfx_drop]
      by_cases hnum : (bt s a).toNat = 45 ∨ Lx.isDigit (bt s a) = true
      · rw [if_pos hnum] at htok1
        have HTK := Lib.hid htok1
        clear htok1
        have hcase : ((((bt s a).toNat : Int) == 45) = true) ∨ ((((bt s a).toNat : Int) == 45) = false ∧ Hid (Lx.isDigit (bt s a) = true)) := by
          by_cases h45 : (bt s a).toNat = 45
          · exact .inl (eqT (by omega))
          · exact .inr ⟨eqF (by omega), hnum.resolve_left h45⟩
        clear hnum
        rcases hcase with e1 | ⟨e1, HDI⟩
        all_goals
          go_wp2_with (first | (go_at_call 20; refine (letter_any _ _).mono ?_; rintro e w' ⟨rfl, hw'⟩; obtain rfl := hw'.symm; rw [HLE.out]) | (go_at_call 21; refine (digit_any _ _).mono ?_; rintro e w' ⟨rfl, hw'⟩; obtain rfl := hw'.symm; rw [HDI.out]) | fail)
          refine (number_any bx s a _ hs (by omega) hT.scan).mono ?_
          rintro e w2 ⟨b, hab, hb, hS2, hF2, hres⟩
          have hT2 := hT.call hS2 hF2
          clear t0 f0 t1 f1 c0 c1 g1 e1
          have t0 := hT2.tok.c0; have f0 := hT2.tok.fz 0
          rcases hres with ⟨k, hnu, hk, rfl⟩ | ⟨hnu, rfl⟩
          · have hsh := Lx.number_shorter hnu
            have HNU := Lib.hid hnu
            clear hnu
            have hsh2 : a < b := by rw [sfx_len, sfx_len] at hsh; omega
            have hk0 : 0 < k := by omega
            have hkd : decide (0 < k) = true := by simpa using hk0
            clear hsh
            go_wp2_with fail
            go_meet
            refine ⟨true, rfl, b, k, [], hab, hb, hT2.kind k, .inr (.inl ⟨rfl, by omega, by omega, by omega, rfl, hsh2, ?_⟩)⟩
            rw [HTK.out, HNU.out, Option.map_some, sfx_len, sfx_len, show s.size - a - (s.size - b) = b - a by omega]
          · have HNU := Lib.hid hnu
            clear hnu
            go_wp2_with fail
            go_meet
            refine ⟨false, rfl, b, 0, [], hab, hb, hT2.kind 0, .inr (.inr ⟨rfl, ?_⟩)⟩
            rw [HTK.out, HNU.out, Option.map_none]
      · rw [if_neg hnum] at htok1
        have e1 := eqF (n := (bt s a).toNat) (k := 45) (by omega)
        have HDI : Hid (Lx.isDigit (bt s a) = false) := by
          show _ = _
          cases hh : Lx.isDigit (bt s a)
          · rfl
          · exact absurd (.inr hh) hnum
        clear hnum
        cases hq : Lx.quotes3 (sfx s a)
        · rw [hq, if_neg Bool.false_ne_true] at htok1
          have HP : Hid (Lib.hasPrefix (sfx s a) [34, 34, 34] = false) := by rw [← quotes3_prefix]; exact hq
          clear hq
          by_cases h34 : (bt s a).toNat = 34
          · rw [if_pos h34] at htok1
            have e2 := eqT (n := (bt s a).toNat) (k := 34) (by omega)
            have HTK := Lib.hid htok1
            clear htok1 h34
            go_wp2_with (first | (go_at_call 20; refine (letter_any _ _).mono ?_; rintro e w' ⟨rfl, hw'⟩; obtain rfl := hw'.symm; rw [HLE.out]) | (go_at_call 21; refine (digit_any _ _).mono ?_; rintro e w' ⟨rfl, hw'⟩; obtain rfl := hw'.symm; rw [HDI.out]) | (go_at_call 28; refine (prefix_sfx s a [34, 34, 34] _).mono ?_; rintro e w' ⟨rfl, hw'⟩; obtain rfl := hw'.symm; rw [HP.out]) | fail)
            refine (text_any bx s a _ hs hat (hT.kind 4).scan (hT.kind 4).env (hT.kind 4).three).mono ?_
            rintro e w2 ⟨b, hab, hb, hS2, hF2, hE2, hres⟩
            have hT2 := (hT.kind 4).call hS2 hF2
            clear t0 f0 t1 f1 c0 c1 g1 e1 e2
            have t1 := hT2.tok.c1; have f1 := hT2.tok.fz 1
            rcases hres with ⟨m, htx, hml, rfl⟩ | ⟨htx, rfl⟩
            · have HTX := Lib.hid htx
              clear htx
              go_wp2_with fail
              go_meet
              exact ⟨true, rfl, b, 4, m, by omega, hb, hT2.text _, .inl ⟨rfl, rfl, by rw [HTK.out, HTX.out, Option.map_some], by omega, by omega⟩⟩
            · have HTX := Lib.hid htx
              clear htx
              go_wp2_with fail
              go_meet
              exact ⟨false, rfl, b, 4, [], by omega, hb, hT2.text _, .inr (.inr ⟨rfl, by rw [HTK.out, HTX.out, Option.map_none]⟩)⟩
          · rw [if_neg h34] at htok1
            have e2 := eqF (n := (bt s a).toNat) (k := 34) (by omega)
            clear h34
            cases hd3 : Lx.dots3 (sfx s a)
            · rw [hd3, if_neg Bool.false_ne_true] at htok1
              have HP2 : Hid (Lib.hasPrefix (sfx s a) [46, 46, 46] = false) := by rw [← dots3_prefix]; exact hd3
              clear hd3
              have hsi := signIdx (bt s a)
              have hsc := Lx.index_signs (bt s a) Lx.signs
              generalize Lib.indexByte Lx.signs (bt s a) = kk at hsi hsc
              have HI := Lib.hid hsi
              clear hsi
              by_cases hsg : (bt s a).toNat ≠ 0 ∧ Lx.signs.contains (bt s a) = true
              · rw [if_pos hsg] at htok1
                have HTK := Lib.hid htok1
                have e3 := neT (n := (bt s a).toNat) (k := 0) (by omega)
                have e4 : decide (0 ≤ kk) = true := by simpa using hsc.2 hsg.2
                clear htok1 hsc hsg
                go_wp2_with (first | (go_at_call 20; refine (letter_any _ _).mono ?_; rintro e w' ⟨rfl, hw'⟩; obtain rfl := hw'.symm; rw [HLE.out]) | (go_at_call 21; refine (digit_any _ _).mono ?_; rintro e w' ⟨rfl, hw'⟩; obtain rfl := hw'.symm; rw [HDI.out]) | (go_at_call 24; refine (HI.out _).mono ?_; rintro e w' ⟨rfl, hw'⟩; obtain rfl := hw'.symm) | (go_at_call_of 28 (Value.string ⟨#[34, 34, 34]⟩); refine (prefix_sfx s a [34, 34, 34] _).mono ?_; rintro e w' ⟨rfl, hw'⟩; obtain rfl := hw'.symm; rw [HP.out]) | (go_at_call 28; refine (prefix_sfx s a [46, 46, 46] _).mono ?_; rintro e w' ⟨rfl, hw'⟩; obtain rfl := hw'.symm; rw [HP2.out]) | fail)
                go_meet
                exact ⟨true, rfl, a + 1, 5, [], by omega, hlt, (hT.kind 5).put (a + 1), .inr (.inl ⟨rfl, by omega, by omega, by omega, rfl, by omega, by rw [HTK.out, show a + 1 - a = 1 by omega]⟩)⟩
              · rw [if_neg hsg] at htok1
                have HTK := Lib.hid htok1
                have hcase : ((((bt s a).toNat : Int) != 0) = false) ∨ ((((bt s a).toNat : Int) != 0) = true ∧ decide (0 ≤ kk) = false) := by
                  by_cases h0 : (bt s a).toNat = 0
                  · exact .inl (neF (by omega))
                  · refine .inr ⟨neT (by omega), ?_⟩
                    have : ¬ 0 ≤ kk := fun h => hsg ⟨h0, hsc.1 h⟩
                    simpa using this
                have t2 := hT.tok.c2
                have r0 := hT.res.c0; have r1 := hT.res.c1; have r2 := hT.res.c2
                have q0 := hT.res.fz 0; have q1 := hT.res.fz 1; have q2 := hT.res.fz 2
                clear htok1 hsc hsg
                rcases hcase with e3 | ⟨e3, e4⟩
                all_goals
                  go_wp2_with (first | (go_at_call 20; refine (letter_any _ _).mono ?_; rintro e w' ⟨rfl, hw'⟩; obtain rfl := hw'.symm; rw [HLE.out]) | (go_at_call 21; refine (digit_any _ _).mono ?_; rintro e w' ⟨rfl, hw'⟩; obtain rfl := hw'.symm; rw [HDI.out]) | (go_at_call 24; refine (HI.out _).mono ?_; rintro e w' ⟨rfl, hw'⟩; obtain rfl := hw'.symm) | (go_at_call_of 28 (Value.string ⟨#[34, 34, 34]⟩); refine (prefix_sfx s a [34, 34, 34] _).mono ?_; rintro e w' ⟨rfl, hw'⟩; obtain rfl := hw'.symm; rw [HP.out]) | (go_at_call 28; refine (prefix_sfx s a [46, 46, 46] _).mono ?_; rintro e w' ⟨rfl, hw'⟩; obtain rfl := hw'.symm; rw [HP2.out]) | fail)
                  try simp only [Exit.inBlock, Exit.then]
                  obtain ⟨W3, hW3, hk3, hs3, hf3, he3⟩ := TS.done hT 0 ⟨#[]⟩ a
                  rw [← hW3]
                  clear hW3
                  have d0 := hk3.c0; have d1 := hk3.c1; have d2 := hk3.c2
                  refine bodyPost_ret (v := .tuple #[.agg #[.int .i64 0, .string ⟨#[]⟩, .int .i64 a], .bool false]) (by simp [results, Tryd.results17, go_sem, d0, d1, d2]) rfl ?_
                  exact ⟨a, Nat.le_refl _, by omega, hs3, hf3, he3, .inr ⟨HTK.out, _, _, rfl⟩⟩
            · rw [hd3, if_pos rfl] at htok1
              have HP2 : Hid (Lib.hasPrefix (sfx s a) [46, 46, 46] = true) := by rw [← dots3_prefix]; exact hd3
              have hd4 := dots3_len hd3
              rw [sfx_len] at hd4
              have HTK := Lib.hid htok1
              clear hd3 htok1
              go_wp2_with (first | (go_at_call 20; refine (letter_any _ _).mono ?_; rintro e w' ⟨rfl, hw'⟩; obtain rfl := hw'.symm; rw [HLE.out]) | (go_at_call 21; refine (digit_any _ _).mono ?_; rintro e w' ⟨rfl, hw'⟩; obtain rfl := hw'.symm; rw [HDI.out]) | (go_at_call_of 28 (Value.string ⟨#[34, 34, 34]⟩); refine (prefix_sfx s a [34, 34, 34] _).mono ?_; rintro e w' ⟨rfl, hw'⟩; obtain rfl := hw'.symm; rw [HP.out]) | (go_at_call 28; refine (prefix_sfx s a [46, 46, 46] _).mono ?_; rintro e w' ⟨rfl, hw'⟩; obtain rfl := hw'.symm; rw [HP2.out]) | fail)
              go_meet
              exact ⟨true, rfl, a + 3, 5, [], by omega, by omega, (hT.kind 5).put (a + 3), .inr (.inl ⟨rfl, by omega, by omega, by omega, rfl, by omega, by rw [HTK.out, show a + 3 - a = 3 by omega]⟩)⟩
        · rw [hq, if_pos rfl] at htok1
          have hq3 := quotes3_len hq
          rw [sfx_len] at hq3
          have HP : Hid (Lib.hasPrefix (sfx s a) [34, 34, 34] = true) := by rw [← quotes3_prefix]; exact hq
          have HTK := Lib.hid htok1
          clear hq htok1
          go_wp2_with (first | (go_at_call 20; refine (letter_any _ _).mono ?_; rintro e w' ⟨rfl, hw'⟩; obtain rfl := hw'.symm; rw [HLE.out]) | (go_at_call 21; refine (digit_any _ _).mono ?_; rintro e w' ⟨rfl, hw'⟩; obtain rfl := hw'.symm; rw [HDI.out]) | (go_at_call 28; refine (prefix_sfx s a [34, 34, 34] _).mono ?_; rintro e w' ⟨rfl, hw'⟩; obtain rfl := hw'.symm; rw [HP.out]) | fail)
          refine (block_any bx s a _ hs (by omega) (hT.kind 4).scan (hT.kind 4).env (hT.kind 4).three).mono ?_
          rintro e w2 ⟨b, hab, hb, hS2, hF2, hE2, hres⟩
          have hT2 := (hT.kind 4).call hS2 hF2
          clear t0 f0 t1 f1 c0 c1 g1 e1
          have t1 := hT2.tok.c1; have f1 := hT2.tok.fz 1
          rcases hres with ⟨m, htx, hml, rfl⟩ | ⟨htx, rfl⟩
          · have HTX := Lib.hid htx
            clear htx
            go_wp2_with fail
            go_meet
            exact ⟨true, rfl, b, 4, Lx.dedent m, by omega, hb, hT2.text _, .inl ⟨rfl, rfl, by rw [HTK.out, HTX.out, Option.map_some], by omega, Lx.dedent_len m (by omega)⟩⟩
          · have HTX := Lib.hid htx
            clear htx
            go_wp2_with fail
            go_meet
            exact ⟨false, rfl, b, 4, [], by omega, hb, hT2.text _, .inr (.inr ⟨rfl, by rw [HTK.out, HTX.out, Option.map_none]⟩)⟩
    · have HLE := Lib.hid hlet
      clear hlet
      go_wp2_with (first | (go_at_call 20; refine (letter_any _ _).mono ?_; rintro e w' ⟨rfl, hw'⟩; obtain rfl := hw'.symm; rw [HLE.out]) | fail)
      refine (while_word bx s a _ hs (by omega) (hT.kind 1).scan).mono ?_
      rintro e w2 ⟨b, hab, hb, hdw, rfl, hS2, hF2⟩
      have hT2 := (hT.kind 1).call hS2 hF2
      have hab2 : a < b := by
        have h1 := congrArg List.length hdw
        have h2 := Lx.dropWhile_le Lx.isWord (sfx s (a + 1))
        rw [HC.out, List.dropWhile_cons, show isWord (bt s a) = true by simp [Lx.isWord, HLE.out], if_pos rfl, sfx_len] at h1
        rw [sfx_len] at h2
        have h3 : (List.dropWhile Lx.isWord (sfx s (a + 1))).length = (List.dropWhile isWord (sfx s (a + 1))).length := rfl
        omega
      have HDW := Lib.hid hdw
      clear hdw
      go_wp2_with fail
      go_meet
      refine ⟨true, rfl, b, 1, [], hab, hb, hT2, .inr (.inl ⟨rfl, by decide, by decide, by decide, rfl, hab2, ?_⟩)⟩
      unfold Lx.token
      have h1 : (sfx s a).dropWhile Lx.isWord = sfx s b := HDW.out.symm
      rw [HH.out, if_pos HLE.out, h1, sfx_len, sfx_len, show s.size - a - (s.size - b) = b - a by omega]
  case rest =>
    obtain ⟨ok, rfl, b, K, T, hab, hb, hT2, hcase⟩ := hcut
    clear hT
    have t0 := hT2.tok.c0; have t1 := hT2.tok.c1; have t2 := hT2.tok.c2; have f1 := hT2.tok.fz 1
    have r0 := hT2.res.c0; have r1 := hT2.res.c1; have r2 := hT2.res.c2
    have q0 := hT2.res.fz 0; have q1 := hT2.res.fz 1; have q2 := hT2.res.fz 2
    have hne : w.heap.size + 1 ≠ bx := by omega
    have c0 := hT2.scan.c0; have c1 := hT2.scan.c1
    rcases hcase with ⟨rfl, rfl, htk, hab2, hTl⟩ | ⟨rfl, hK, hK1, hK5, rfl, hab2, htk⟩ | ⟨rfl, htk⟩
    · have HTK := Lib.hid htk
      clear htk
      go_wp2
      try simp only [Exit.inBlock, Exit.then]
      obtain ⟨W3, hW3, hk3, hs3, hf3, he3⟩ := TS.done hT2 4 ⟨T.toArray⟩ a
      rw [← hW3]
      clear hW3
      have d0 := hk3.c0; have d1 := hk3.c1; have d2 := hk3.c2
      refine bodyPost_ret (v := .tuple #[.agg #[.int .i64 4, .string ⟨T.toArray⟩, .int .i64 a], .bool true]) (by simp [results, Tryd.results17, go_sem, d0, d1, d2]) rfl ?_
      exact ⟨b, hab, hb, hs3, hf3, he3, .inl ⟨4, T, HTK.out, hab2, by omega, by omega, hTl, rfl⟩⟩
    · have HTK := Lib.hid htk
      have e1 := neT (n := K) (k := 4) (by omega)
      have hx : s.extract a b = ⟨((sfx s a).take (b - a)).toArray⟩ := extract_between s a b
      have HK := Lib.hid hK
      have ha0 : (0 : Int) ≤ (a : Int) := by omega
      have ha1 : (a : Int) ≤ (b : Int) := by omega
      have ha2 : (b : Int) ≤ s.size := by omega
      clear htk hK
      go_wp2
      refine wp_region_cuts [11] (by kernel_rfl) (by kernel_rfl) ?_; simp only [wpMix, List.take_succ_cons, List.take_zero, List.drop_succ_cons, List.drop_zero, Nat.sub_zero, Nat.reduceSub, Nat.reduceAdd]
      repeat (go_big_quiet_step (fail))
      refine wpQuiet_nil ?_; rintro _ ⟨nq, rfl⟩
      go_wp2
      repeat (go_big_quiet_step (fail))
      refine wpQuiet_nil ?_; rintro _ ⟨nq, rfl⟩
      go_wp2
      have hT3 : ∀ n m : Nat, TS w bx s b K ⟨((sfx s a).take (b - a)).toArray⟩ a (((wc.drewN n).setCell ⟨w.heap.size + 1, 1, none⟩ (.string ⟨((sfx s a).take (b - a)).toArray⟩)).drewN m) := fun n m => ((hT2.drewN n).text _).drewN m
      try simp only [Exit.inBlock, Exit.then]
      obtain ⟨W3, hW3, hk3, hs3, hf3, he3⟩ := TS.done (hT3 _ _) K ⟨((sfx s a).take (b - a)).toArray⟩ a
      rw [← hW3]
      clear hW3
      have d0 := hk3.c0; have d1 := hk3.c1; have d2 := hk3.c2
      refine bodyPost_ret (v := .tuple #[.agg #[.int .i64 K, .string ⟨((sfx s a).take (b - a)).toArray⟩, .int .i64 a], .bool true]) (by simp [results, Tryd.results17, go_sem, d0, d1, d2]) rfl ?_
      exact ⟨b, hab, hb, hs3, hf3, he3, .inl ⟨K, (sfx s a).take (b - a), HTK.out, hab2, hK1, hK5, by rw [List.length_take]; omega, rfl⟩⟩
    · have HTK := Lib.hid htk
      clear htk
      go_wp2
      try simp only [Exit.inBlock, Exit.then]
      obtain ⟨W3, hW3, hk3, hs3, hf3, he3⟩ := TS.done hT2 K ⟨T.toArray⟩ a
      rw [← hW3]
      clear hW3
      have d0 := hk3.c0; have d1 := hk3.c1; have d2 := hk3.c2
      refine bodyPost_ret (v := .tuple #[.agg #[.int .i64 K, .string ⟨T.toArray⟩, .int .i64 a], .bool false]) (by simp [results, Tryd.results17, go_sem, d0, d1, d2]) rfl ?_
      exact ⟨b, hab, hb, hs3, hf3, he3, .inr ⟨HTK.out, _, _, rfl⟩⟩
end Go.Proofs.YtonblegbnkfhbaaDoor
