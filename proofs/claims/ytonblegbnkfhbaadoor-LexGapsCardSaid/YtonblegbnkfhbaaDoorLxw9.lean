/-
  The lexer's 'block', walked.
-/
import Derived.Test.YtonblegbnkfhbaaDoorLxw6
import Derived.Test.YtonblegbnkfhbaaDoorLxw8
import Derived.Outline
import Derived.Deep.LoopGhost
namespace Go.Proofs.YtonblegbnkfhbaaDoor
set_option linter.unusedSimpArgs false
set_option linter.unusedVariables false
open Go Go.RowKit

/-- The test 'n == 0 || r < 32 && r != 9 && r != 10 && r != 13', in the walk's own words. -/
theorem ctlB_cases (r n : Nat) :
    ((((n : Int) == 0) = true) ∧ (n = 0 ∨ (r < 32 ∧ r ≠ 9 ∧ r ≠ 10 ∧ r ≠ 13))) ∨
    ((((n : Int) == 0) = false) ∧ decide ((r : Int) < 32) = true ∧ ((r : Int) != 9) = true ∧ ((r : Int) != 10) = true ∧ ((r : Int) != 13) = true ∧ (n = 0 ∨ (r < 32 ∧ r ≠ 9 ∧ r ≠ 10 ∧ r ≠ 13))) ∨
    ((((n : Int) == 0) = false) ∧ decide ((r : Int) < 32) = true ∧ ((r : Int) != 9) = true ∧ ((r : Int) != 10) = true ∧ ((r : Int) != 13) = false ∧ ¬ (n = 0 ∨ (r < 32 ∧ r ≠ 9 ∧ r ≠ 10 ∧ r ≠ 13))) ∨
    ((((n : Int) == 0) = false) ∧ decide ((r : Int) < 32) = true ∧ ((r : Int) != 9) = true ∧ ((r : Int) != 10) = false ∧ ¬ (n = 0 ∨ (r < 32 ∧ r ≠ 9 ∧ r ≠ 10 ∧ r ≠ 13))) ∨
    ((((n : Int) == 0) = false) ∧ decide ((r : Int) < 32) = true ∧ ((r : Int) != 9) = false ∧ ¬ (n = 0 ∨ (r < 32 ∧ r ≠ 9 ∧ r ≠ 10 ∧ r ≠ 13))) ∨
    ((((n : Int) == 0) = false) ∧ decide ((r : Int) < 32) = false ∧ ¬ (n = 0 ∨ (r < 32 ∧ r ≠ 9 ∧ r ≠ 10 ∧ r ≠ 13))) := by
  by_cases h0 : n = 0
  · exact .inl ⟨by simp [h0], .inl h0⟩
  · have e0 : ((n : Int) == 0) = false := by simp [h0]
    by_cases h1 : r < 32
    · have e1 : decide ((r : Int) < 32) = true := by simp; omega
      by_cases h2 : r = 9
      · exact .inr (.inr (.inr (.inr (.inl ⟨e0, e1, by simp [h2], by omega⟩))))
      · by_cases h3 : r = 10
        · exact .inr (.inr (.inr (.inl ⟨e0, e1, by simp; omega, by simp [h3], by omega⟩)))
        · by_cases h4 : r = 13
          · exact .inr (.inr (.inl ⟨e0, e1, by simp; omega, by simp; omega, by simp [h4], by omega⟩))
          · exact .inr (.inl ⟨e0, e1, by simp; omega, by simp; omega, by simp; omega, by omega⟩)
    · exact .inr (.inr (.inr (.inr (.inr ⟨e0, by simp; omega, by omega⟩))))

theorem quotes3_prefix (l : List UInt8) : Lx.quotes3 l = Lib.hasPrefix l [34, 34, 34] := by
  match l with
  | [] => rfl
  | [a] => simp [Lx.quotes3, Lib.hasPrefix, List.isPrefixOf]
  | [a, b] => simp [Lx.quotes3, Lib.hasPrefix, List.isPrefixOf]
  | a :: b :: c :: t =>
    have e : Lib.hasPrefix (a :: b :: c :: t) [34, 34, 34] = ((34 == a) && ((34 == b) && ((34 == c) && true))) := rfl
    have e2 : Lx.quotes3 (a :: b :: c :: t) = decide ([a, b, c] = [34, 34, 34]) := rfl
    rw [e, e2]
    by_cases h1 : a = 34
    · by_cases h2 : b = 34
      · by_cases h3 : c = 34
        · subst h1 h2 h3; decide
        · simp [h1, h2, h3, Ne.symm h3]
      · simp [h1, h2, Ne.symm h2]
    · simp [h1, Ne.symm h1]
theorem bquotes_prefix (c : UInt8) (t : List UInt8) : Lib.hasPrefix (c :: t) [92, 34, 34, 34] = (decide (c.toNat = 92) && Lx.quotes3 t) := by
  have e : Lib.hasPrefix (c :: t) [92, 34, 34, 34] = ((92 == c) && Lib.hasPrefix t [34, 34, 34]) := rfl
  rw [e, quotes3_prefix]
  congr 1
  by_cases h : c = 92
  · subst h; rfl
  · have h2 : c.toNat ≠ 92 := fun e => h (UInt8.toNat_inj.1 (by rw [e]; rfl))
    simp [Ne.symm h, h2]
theorem quotes3_len {l : List UInt8} (h : Lx.quotes3 l = true) : 3 ≤ l.length := by
  unfold Lx.quotes3 at h
  have h1 := congrArg List.length (of_decide_eq_true h)
  rw [List.length_take] at h1
  simp at h1; omega

/-- HasPrefix at what stands from a place on. -/
theorem prefix_sfx (s : ByteArray) (b : Nat) (p : List UInt8) (w : World) :
    Calls Tryd.prog 28 #[.string ⟨(sfx s b).toArray⟩, .string ⟨p.toArray⟩] w fun e w' => e = .returned (.bool (Lib.hasPrefix (sfx s b) p)) ∧ w' = w := Tryd.strings_HasPrefix _ _ _

def blockOut (o : Option (List UInt8 × List UInt8)) : Option (List UInt8 × List UInt8) := o.map fun p => (Lx.dedent p.1, p.2)

/-- What 'block' leaves. -/
def BlkPost (o : Option (List UInt8 × List UInt8)) (bx : Nat) (s : ByteArray) (a : Nat) (w : World) (e : Ending) (w' : World) : Prop :=
  ∃ b, a < b ∧ b ≤ s.size ∧ Scan w' bx s b ∧ Fr bx w w' ∧ Env w' ∧
    ((∃ m, o = some (m, sfx s b) ∧ m.length ≤ b ∧ e = .returned (.tuple #[.string ⟨(Lx.dedent m).toArray⟩, .bool true])) ∨ (o = none ∧ e = .returned (.tuple #[.string ⟨#[]⟩, .bool false])))

set_option maxHeartbeats 8000000 in
set_option maxRecDepth 100000 in
theorem block_any (bx : Nat) (s : ByteArray) (a : Nat) (w : World) (hs : s.size ≤ 4096) (hat : a + 3 ≤ s.size) (h : Scan w bx s a) (hE : Env w) (h3 : 3 ≤ bx) :
    Calls Tryd.prog 34 #[.pointer (some ⟨bx, 0, none⟩)] w (BlkPost (Lx.block [] (sfx s (a + 3))) bx s a w) := by
  have hS0 : St w bx w.heap.size s (a + 3) [] ((w.setCell ⟨bx, 1, none⟩ (.int .i64 ((a + 3 : Nat) : Int))).alloc (.cells #[.pointer none, .slice none 0 0] 49)) := by
    have := St.start (w0 := w) (h.put (a + 3)) (Fr.set (But.refl _ _) 1 _) (hE.fr (Fr.set (But.refl _ _) 1 _) h3) (by simp [World.setCell]) h3
    simpa [World.setCell] using this
  have H0 := Lib.hid hS0
  have c0 := h.c0; have c1 := h.c1; have f1 := h.f1
  clear hS0 h hE
  go_enter Tryd.func34, Tryd.ntmps34
  go_wp2
  clear c0 c1 f1
  go_loopg [] (s.size - (a + 3)) (fun k wr => ∃ b out, k = s.size - b ∧ a < b ∧ b ≤ s.size ∧ out.length ≤ b ∧ Lx.block out (sfx s b) = Lx.block [] (sfx s (a + 3)) ∧ St w bx w.heap.size s b out wr)
  case atStart => exact ⟨a + 3, [], rfl, by omega, hat, by simp, rfl, H0.out⟩
  case round =>
    obtain ⟨b, out, hk, hab, hb, hol, hd, hS⟩ := hrel
    have c0 := hS.scan.c0; have c1 := hS.scan.c1; have f1 := hS.scan.f1
    have HD := Lib.hid hd; have HK := Lib.hid hk
    clear hd hk H0
    by_cases hlt : b < s.size
    · have hi0 : (0 : Int) ≤ (b : Int) := Int.natCast_nonneg _
      have hi1 : (b : Int) < s.size := by omega
      have HC := Lib.hid (sfx_cons s b hlt)
      have hn4 := Lx.rune_le4 (sfx s b)
      have hnl := Lx.rune_len (sfx s b)
      have hrm := Lx.rune_max (sfx s b)
      have hxs := extract_sfx s b
      rw [sfx_len] at hnl
      cases hq : Lx.quotes3 (sfx s b)
      · have HQ : Hid (Lx.quotes3 (bt s b :: sfx s (b + 1)) = false) := by rw [← HC.out]; exact hq
        have HP : Hid (Lib.hasPrefix (sfx s b) [34, 34, 34] = false) := by rw [← quotes3_prefix]; exact hq
        clear hq
        have hpe : Lib.hasPrefix (sfx s b) [92, 34, 34, 34] = (decide ((bt s b).toNat = 92) && Lx.quotes3 (sfx s (b + 1))) := by rw [HC.out, bquotes_prefix]
        by_cases hesc : (bt s b).toNat = 92 ∧ Lx.quotes3 (sfx s (b + 1)) = true
        · have HP2 : Hid (Lib.hasPrefix (sfx s b) [92, 34, 34, 34] = true) := by show _ = _; rw [hpe, hesc.2]; simp [hesc.1]
          have hq3 := quotes3_len hesc.2
          rw [sfx_len] at hq3
          have HES := Lib.hid hesc
          clear hesc hpe
          go_wp2
          go_quiet (fail)
          go_wp2
          go_quiet (fail)
          go_wp2_with fail
          refine (rune_any bx s b _ hs hb (hS.scan.drewN _) (hS.env.drewN _)).mono ?_
          rintro e w1 ⟨rfl, hb1⟩
          have hS2 := (hS.drewN _).below hb1
          clear hb1 c0 c1 f1
          have c0 := hS2.scan.c0; have c1 := hS2.scan.c1; have f1 := hS2.scan.f1
          go_wp2_with fail
          refine (prefix_sfx s b [34, 34, 34] _).mono ?_
          rintro e w2 ⟨rfl, hw2⟩
          subst hw2
          rw [HP.out]
          go_wp2_with fail
          refine (prefix_sfx s b [92, 34, 34, 34] _).mono ?_
          rintro e w2 ⟨rfl, hw2⟩
          subst hw2
          rw [HP2.out]
          go_wp2_with fail
          refine (hS2.str (by omega) [34, 34, 34] (by simp)).mono ?_
          rintro e w3 ⟨⟨n3, rfl⟩, hS3⟩
          clear c0 c1 f1
          have c0 := hS3.scan.c0; have c1 := hS3.scan.c1; have f1 := hS3.scan.f1
          go_wp2
          go_roundg (s.size - (b + 4))
          case measure => rw [HK.out]; omega
          case rel =>
            refine ⟨b + 4, out ++ [34, 34, 34], rfl, by omega, by omega, by simp; omega, ?_, hS3.put _⟩
            rw [← HD.out, HC.out, Lx.block_esc HQ.out HES.out, sfx_drop]
        · have HP2 : Hid (Lib.hasPrefix (sfx s b) [92, 34, 34, 34] = false) := by
            show _ = _
            rw [hpe]
            by_cases h1 : (bt s b).toNat = 92
            · have h2 : Lx.quotes3 (sfx s (b + 1)) = false := by
                cases hh : Lx.quotes3 (sfx s (b + 1))
                · rfl
                · exact absurd ⟨h1, hh⟩ hesc
              rw [h2]; simp
            · simp [h1]
          have HES := Lib.hid hesc
          clear hesc hpe
          rcases ctlB_cases (Lx.rune (sfx s b)).1 (Lx.rune (sfx s b)).2 with ⟨q1, q4⟩ | ⟨q1, q2, q3, q5, q6, q4⟩ | ⟨q1, q2, q3, q5, q6, q4⟩ | ⟨q1, q2, q3, q5, q4⟩ | ⟨q1, q2, q3, q4⟩ | ⟨q1, q2, q4⟩
          all_goals
            have Q4 := Lib.hid q4
            clear q4
            go_wp2
            go_quiet (fail)
            go_wp2
            go_quiet (fail)
            go_wp2_with fail
            refine (rune_any bx s b _ hs hb (hS.scan.drewN _) (hS.env.drewN _)).mono ?_
            rintro e w1 ⟨rfl, hb1⟩
            have hS2 := (hS.drewN _).below hb1
            clear hb1 c0 c1 f1
            have c0 := hS2.scan.c0; have c1 := hS2.scan.c1; have f1 := hS2.scan.f1
            go_wp2_with fail
            refine (prefix_sfx s b [34, 34, 34] _).mono ?_
            rintro e w2 ⟨rfl, hw2⟩
            subst hw2
            rw [HP.out]
            go_wp2_with fail
            refine (prefix_sfx s b [92, 34, 34, 34] _).mono ?_
            rintro e w2 ⟨rfl, hw2⟩
            subst hw2
            rw [HP2.out]
            go_wp2_with fail
            first
            | (go_ret2
               exact ⟨b, by omega, hb, hS2.scan, hS2.fr, hS2.env, .inr ⟨by rw [← HD.out, HC.out, Lx.block_bad HQ.out HES.out (by rw [← HC.out]; exact Q4.out)], rfl⟩⟩)
            | (have hn1 : (Lx.rune (sfx s b)).2 ≠ 0 := fun h => Q4.out (.inl h)
               obtain ⟨hen1, hen2⟩ := Lx.rune_enc (sfx s b) hn1
               have HEN := Lib.hid hen2
               clear hen2
               refine (hS2.rune (by omega) _ hen1).mono ?_
               rintro e w3 ⟨⟨n3, rfl⟩, hS3⟩
               clear c0 c1 f1 hen1
               have c0 := hS3.scan.c0; have c1 := hS3.scan.c1; have f1 := hS3.scan.f1
               go_wp2
               go_roundg (s.size - (b + (Lx.rune (sfx s b)).2))
               case measure => rw [HK.out]; omega
               case rel =>
                 refine ⟨b + (Lx.rune (sfx s b)).2, out ++ Lx.enc (Lx.rune (sfx s b)).1, rfl, by omega, by omega, ?_, ?_, hS3.put _⟩
                 · rw [HEN.out, List.length_append, List.length_take]; omega
                 · have := Lx.block_go (out := out) HQ.out HES.out (by rw [← HC.out]; exact Q4.out)
                   rw [← HC.out] at this
                   rw [← HD.out, this, HEN.out, sfx_drop])
      · have hq3 := quotes3_len hq
        rw [sfx_len] at hq3
        have HQ := Lib.hid hq
        have HP : Hid (Lib.hasPrefix (sfx s b) [34, 34, 34] = true) := by rw [← quotes3_prefix]; exact hq
        clear hq
        go_wp2
        go_quiet (fail)
        go_wp2
        go_quiet (fail)
        go_wp2_with fail
        refine (rune_any bx s b _ hs hb (hS.scan.drewN _) (hS.env.drewN _)).mono ?_
        rintro e w1 ⟨rfl, hb1⟩
        have hS2 := (hS.drewN _).below hb1
        clear hb1 c0 c1 f1
        have c0 := hS2.scan.c0; have c1 := hS2.scan.c1; have f1 := hS2.scan.f1
        go_wp2_with fail
        refine (prefix_sfx s b [34, 34, 34] _).mono ?_
        rintro e w2 ⟨rfl, hw2⟩
        subst hw2
        rw [HP.out]
        go_wp2_with fail
        refine (hS2.put (b + 3)).string.mono ?_
        rintro e w3 ⟨rfl, hS3⟩
        go_wp2_with fail
        refine (dedent_any out w3 hS3.env (by omega)).mono ?_
        rintro e w4 ⟨rfl, hb4⟩
        have hS4 := hS3.below hb4
        go_wp2_with fail
        go_ret2
        refine ⟨b + 3, by omega, by omega, hS4.scan, hS4.fr, hS4.env, .inl ⟨out, ?_, by omega, rfl⟩⟩
        rw [← HD.out, HC.out, Lx.block_end (by rw [← HC.out]; exact HQ.out), ← HC.out, sfx_drop]
    · have hi1 : (s.size : Int) ≤ b := by omega
      go_wp2
      go_quiet (fail)
      go_wp2
      go_ret2
      exact ⟨b, by omega, hb, hS.scan.drewN _, hS.fr.drewN _, hS.env.drewN _, .inr ⟨by rw [← HD.out, sfx_end s b (by omega), Lx.block_nil], rfl⟩⟩
end Go.Proofs.YtonblegbnkfhbaaDoor
