/-
  The lexer's 'block', walked. The lexer's 'token': its world. The lexer's 'token', walked. The lexer's 'Lex', walked. What the tokens' row holds, cell by cell.
-/
import Derived.Test.YtmgoebfcfgilfaaGreatDoorZi11
import Derived.Test.YtmgoebfcfgilfaaGreatDoorZi12
import Derived.Outline
import Derived.Deep.LoopGhost
import Derived.Test.YtmgoebfcfgilfaaGreatDoorZi10
import Derived.Deep.DeepCutAuto
import Derived.Deep.CutBlock
import Derived.Deep.RegionWith
import Derived.Test.YtmgoebfcfgilfaaGreatDoorZi3
import Derived.Test.YtmgoebfcfgilfaaGreatDoorZi6
import Derived.OwnWalk
namespace Go.Proofs.YtmgoebfcfgilfaaGreatDoor
set_option linter.unusedSimpArgs false
set_option linter.unusedVariables false
open Go Go.RowKit

/-- The test 'n == 0 || r < 32 && r != 9 && r != 10 && r != 13', in the walk's own words. -/
theorem ctlB_cases (r n : Nat) :
    ((((n : Int) == 0) = true) ∧ (n = 0 ∨ (r < 32 ∧ r ≠ 9 ∧ r ≠ 10 ∧ r ≠ 13))) ∨
    ((((n : Int) == 0) = false) ∧ decide ((r : Int) < 32) = true ∧ ((r : Int) != 9) = true ∧ ((r : Int) != 10) = true ∧ ((r : Int) != 13) = true ∧ (n = 0 ∨ (r < 32 ∧ r ≠ 9 ∧ r ≠ 10 ∧ r ≠ 13))) ∨
    ((((n : Int) == 0) = false) ∧ decide ((r : Int) < 32) = true ∧ ((r : Int) != 9) = true ∧ ((r : Int) != 10) = true ∧ ((r : Int) != 13) = false ∧ ¬ (n = 0 ∨ (r < 32 ∧ r ≠ 9 ∧ r ≠ 10 ∧ r ≠ 13))) ∨
    ((((n : Int) == 0) = false) ∧ decide ((r : Int) < 32) = true ∧ ((r : Int) != 9) = true ∧ ((r : Int) != 10) = false ∧ ¬ (n = 0 ∨ (r < 32 ∧ r ≠ 9 ∧ r ≠ 10 ∧ r ≠ 13))) ∨
    ((((n : Int) == 0) = false) ∧ decide ((r : Int) < 32) = true ∧ ((r : Int) != 9) = false ∧ ¬ (n = 0 ∨ (r < 32 ∧ r ≠ 9 ∧ r ≠ 10 ∧ r ≠ 13))) ∨
    ((((n : Int) == 0) = false) ∧ decide ((r : Int) < 32) = false ∧ ¬ (n = 0 ∨ (r < 32 ∧ r ≠ 9 ∧ r ≠ 10 ∧ r ≠ 13))) := by
  by_cases h0 : n = 0
  · exact .inl ⟨by simp [h0], .inl h0⟩
  · have e0 : ((n : Int) == 0) = false := by simp [h0]
    by_cases h1 : r < 32
    · have e1 : decide ((r : Int) < 32) = true := by simp; omega
      by_cases h2 : r = 9
      · exact .inr (.inr (.inr (.inr (.inl ⟨e0, e1, by simp [h2], by omega⟩))))
      · by_cases h3 : r = 10
        · exact .inr (.inr (.inr (.inl ⟨e0, e1, by simp; omega, by simp [h3], by omega⟩)))
        · by_cases h4 : r = 13
          · exact .inr (.inr (.inl ⟨e0, e1, by simp; omega, by simp; omega, by simp [h4], by omega⟩))
          · exact .inr (.inl ⟨e0, e1, by simp; omega, by simp; omega, by simp; omega, by omega⟩)
    · exact .inr (.inr (.inr (.inr (.inr ⟨e0, by simp; omega, by omega⟩))))

theorem quotes3_prefix (l : List UInt8) : Lx.quotes3 l = Lib.hasPrefix l [34, 34, 34] := by
  match l with
  | [] => rfl
  | [a] => simp [Lx.quotes3, Lib.hasPrefix, List.isPrefixOf]
  | [a, b] => simp [Lx.quotes3, Lib.hasPrefix, List.isPrefixOf]
  | a :: b :: c :: t =>
    have e : Lib.hasPrefix (a :: b :: c :: t) [34, 34, 34] = ((34 == a) && ((34 == b) && ((34 == c) && true))) := rfl
    have e2 : Lx.quotes3 (a :: b :: c :: t) = decide ([a, b, c] = [34, 34, 34]) := rfl
    rw [e, e2]
    by_cases h1 : a = 34
    · by_cases h2 : b = 34
      · by_cases h3 : c = 34
        · subst h1 h2 h3; decide
        · simp [h1, h2, h3, Ne.symm h3]
      · simp [h1, h2, Ne.symm h2]
    · simp [h1, Ne.symm h1]
theorem bquotes_prefix (c : UInt8) (t : List UInt8) : Lib.hasPrefix (c :: t) [92, 34, 34, 34] = (decide (c.toNat = 92) && Lx.quotes3 t) := by
  have e : Lib.hasPrefix (c :: t) [92, 34, 34, 34] = ((92 == c) && Lib.hasPrefix t [34, 34, 34]) := rfl
  rw [e, quotes3_prefix]
  congr 1
  by_cases h : c = 92
  · subst h; rfl
  · have h2 : c.toNat ≠ 92 := fun e => h (UInt8.toNat_inj.1 (by rw [e]; rfl))
    simp [Ne.symm h, h2]
theorem quotes3_len {l : List UInt8} (h : Lx.quotes3 l = true) : 3 ≤ l.length := by
  unfold Lx.quotes3 at h
  have h1 := congrArg List.length (of_decide_eq_true h)
  rw [List.length_take] at h1
  simp at h1; omega

/-- HasPrefix at what stands from a place on. -/
theorem prefix_sfx (s : ByteArray) (b : Nat) (p : List UInt8) (w : World) :
    Calls Tryz.prog 203 #[.string ⟨(sfx s b).toArray⟩, .string ⟨p.toArray⟩] w fun e w' => e = .returned (.bool (Lib.hasPrefix (sfx s b) p)) ∧ w' = w := Tryz.strings_HasPrefix _ _ _

/-- What 'block' leaves. -/
def BlkPost (o : Option (List UInt8 × List UInt8)) (bx : Nat) (s : ByteArray) (a : Nat) (w : World) (e : Ending) (w' : World) : Prop :=
  ∃ b, a < b ∧ b ≤ s.size ∧ Scan w' bx s b ∧ Fr bx w w' ∧ Env w' ∧
    ((∃ m, o = some (m, sfx s b) ∧ m.length ≤ b ∧ e = .returned (.tuple #[.string ⟨(Lx.dedent m).toArray⟩, .bool true])) ∨ (o = none ∧ e = .returned (.tuple #[.string ⟨#[]⟩, .bool false])))

set_option maxHeartbeats 8000000 in
set_option maxRecDepth 100000 in
theorem block_any (bx : Nat) (s : ByteArray) (a : Nat) (w : World) (hs : s.size ≤ 4096) (hat : a + 3 ≤ s.size) (h : Scan w bx s a) (hE : Env w) (h3 : 3 ≤ bx) :
    Calls Tryz.prog 209 #[.pointer (some ⟨bx, 0, none⟩)] w (BlkPost (Lx.block [] (sfx s (a + 3))) bx s a w) := by
  have hS0 : St w bx w.heap.size s (a + 3) [] ((w.setCell ⟨bx, 1, none⟩ (.int .i64 ((a + 3 : Nat) : Int))).alloc (.cells #[.pointer none, .slice none 0 0] 69)) := by
    have := St.start (w0 := w) (h.put (a + 3)) (Fr.set (But.refl _ _) 1 _) (hE.fr (Fr.set (But.refl _ _) 1 _) h3) (by simp [World.setCell]) h3
    simpa [World.setCell] using this
  have H0 := Lib.hid hS0
  have c0 := h.c0; have c1 := h.c1; have f1 := h.f1
  clear hS0 h hE
  go_enter Tryz.func209, Tryz.ntmps209
  go_wp2
  clear c0 c1 f1
  go_loopg [] (s.size - (a + 3)) (fun k wr => ∃ b out, k = s.size - b ∧ a < b ∧ b ≤ s.size ∧ out.length ≤ b ∧ Lx.block out (sfx s b) = Lx.block [] (sfx s (a + 3)) ∧ St w bx w.heap.size s b out wr)
  case atStart => exact ⟨a + 3, [], rfl, by omega, hat, by simp, rfl, H0.out⟩
  case round =>
    obtain ⟨b, out, hk, hab, hb, hol, hd, hS⟩ := hrel
    have c0 := hS.scan.c0; have c1 := hS.scan.c1; have f1 := hS.scan.f1
    have HD := Lib.hid hd; have HK := Lib.hid hk
    clear hd hk H0
    by_cases hlt : b < s.size
    · have hi0 : (0 : Int) ≤ (b : Int) := Int.natCast_nonneg _
      have hi1 : (b : Int) < s.size := by omega
      have HC := Lib.hid (sfx_cons s b hlt)
      have hn4 := Lx.rune_le4 (sfx s b)
      have hnl := Lx.rune_len (sfx s b)
      have hrm := Lx.rune_max (sfx s b)
      have hxs := extract_sfx s b
      rw [sfx_len] at hnl
      cases hq : Lx.quotes3 (sfx s b)
      · have HQ : Hid (Lx.quotes3 (bt s b :: sfx s (b + 1)) = false) := by rw [← HC.out]; exact hq
        have HP : Hid (Lib.hasPrefix (sfx s b) [34, 34, 34] = false) := by rw [← quotes3_prefix]; exact hq
        clear hq
        have hpe : Lib.hasPrefix (sfx s b) [92, 34, 34, 34] = (decide ((bt s b).toNat = 92) && Lx.quotes3 (sfx s (b + 1))) := by rw [HC.out, bquotes_prefix]
        by_cases hesc : (bt s b).toNat = 92 ∧ Lx.quotes3 (sfx s (b + 1)) = true
        · have HP2 : Hid (Lib.hasPrefix (sfx s b) [92, 34, 34, 34] = true) := by show _ = _; rw [hpe, hesc.2]; simp [hesc.1]
          have hq3 := quotes3_len hesc.2
          rw [sfx_len] at hq3
          have HES := Lib.hid hesc
          clear hesc hpe
          go_wp2
          go_quiet (fail)
          go_wp2
          go_quiet (fail)
          go_wp2_with fail
          refine (rune_any bx s b _ hs hb (hS.scan.drewN _) (hS.env.drewN _)).mono ?_
          rintro e w1 ⟨rfl, hb1⟩
          have hS2 := (hS.drewN _).below hb1
          clear hb1 c0 c1 f1
          have c0 := hS2.scan.c0; have c1 := hS2.scan.c1; have f1 := hS2.scan.f1
          go_wp2_with fail
          refine (prefix_sfx s b [34, 34, 34] _).mono ?_
          rintro e w2 ⟨rfl, hw2⟩
          subst hw2
          rw [HP.out]
          go_wp2_with fail
          refine (prefix_sfx s b [92, 34, 34, 34] _).mono ?_
          rintro e w2 ⟨rfl, hw2⟩
          subst hw2
          rw [HP2.out]
          go_wp2_with fail
          refine (hS2.str (by omega) [34, 34, 34] (by simp)).mono ?_
          rintro e w3 ⟨⟨n3, rfl⟩, hS3⟩
          clear c0 c1 f1
          have c0 := hS3.scan.c0; have c1 := hS3.scan.c1; have f1 := hS3.scan.f1
          go_wp2
          go_roundg (s.size - (b + 4))
          case measure => rw [HK.out]; omega
          case rel =>
            refine ⟨b + 4, out ++ [34, 34, 34], rfl, by omega, by omega, by simp; omega, ?_, hS3.put _⟩
            rw [← HD.out, HC.out, Lx.block_esc HQ.out HES.out, sfx_drop]
        · have HP2 : Hid (Lib.hasPrefix (sfx s b) [92, 34, 34, 34] = false) := by
            show _ = _
            rw [hpe]
            by_cases h1 : (bt s b).toNat = 92
            · have h2 : Lx.quotes3 (sfx s (b + 1)) = false := by
                cases hh : Lx.quotes3 (sfx s (b + 1))
                · rfl
                · exact absurd ⟨h1, hh⟩ hesc
              rw [h2]; simp
            · simp [h1]
          have HES := Lib.hid hesc
          clear hesc hpe
          rcases ctlB_cases (Lx.rune (sfx s b)).1 (Lx.rune (sfx s b)).2 with ⟨q1, q4⟩ | ⟨q1, q2, q3, q5, q6, q4⟩ | ⟨q1, q2, q3, q5, q6, q4⟩ | ⟨q1, q2, q3, q5, q4⟩ | ⟨q1, q2, q3, q4⟩ | ⟨q1, q2, q4⟩
          all_goals
            have Q4 := Lib.hid q4
            clear q4
            go_wp2
            go_quiet (fail)
            go_wp2
            go_quiet (fail)
            go_wp2_with fail
            refine (rune_any bx s b _ hs hb (hS.scan.drewN _) (hS.env.drewN _)).mono ?_
            rintro e w1 ⟨rfl, hb1⟩
            have hS2 := (hS.drewN _).below hb1
            clear hb1 c0 c1 f1
            have c0 := hS2.scan.c0; have c1 := hS2.scan.c1; have f1 := hS2.scan.f1
            go_wp2_with fail
            refine (prefix_sfx s b [34, 34, 34] _).mono ?_
            rintro e w2 ⟨rfl, hw2⟩
            subst hw2
            rw [HP.out]
            go_wp2_with fail
            refine (prefix_sfx s b [92, 34, 34, 34] _).mono ?_
            rintro e w2 ⟨rfl, hw2⟩
            subst hw2
            rw [HP2.out]
            go_wp2_with fail
            first
            | (go_ret2
               exact ⟨b, by omega, hb, hS2.scan, hS2.fr, hS2.env, .inr ⟨by rw [← HD.out, HC.out, Lx.block_bad HQ.out HES.out (by rw [← HC.out]; exact Q4.out)], rfl⟩⟩)
            | (have hn1 : (Lx.rune (sfx s b)).2 ≠ 0 := fun h => Q4.out (.inl h)
               obtain ⟨hen1, hen2⟩ := Lx.rune_enc (sfx s b) hn1
               have HEN := Lib.hid hen2
               clear hen2
               refine (hS2.rune (by omega) _ hen1).mono ?_
               rintro e w3 ⟨⟨n3, rfl⟩, hS3⟩
               clear c0 c1 f1 hen1
               have c0 := hS3.scan.c0; have c1 := hS3.scan.c1; have f1 := hS3.scan.f1
               go_wp2
               go_roundg (s.size - (b + (Lx.rune (sfx s b)).2))
               case measure => rw [HK.out]; omega
               case rel =>
                 refine ⟨b + (Lx.rune (sfx s b)).2, out ++ Lx.enc (Lx.rune (sfx s b)).1, rfl, by omega, by omega, ?_, ?_, hS3.put _⟩
                 · rw [HEN.out, List.length_append, List.length_take]; omega
                 · have := Lx.block_go (out := out) HQ.out HES.out (by rw [← HC.out]; exact Q4.out)
                   rw [← HC.out] at this
                   rw [← HD.out, this, HEN.out, sfx_drop])
      · have hq3 := quotes3_len hq
        rw [sfx_len] at hq3
        have HQ := Lib.hid hq
        have HP : Hid (Lib.hasPrefix (sfx s b) [34, 34, 34] = true) := by rw [← quotes3_prefix]; exact hq
        clear hq
        go_wp2
        go_quiet (fail)
        go_wp2
        go_quiet (fail)
        go_wp2_with fail
        refine (rune_any bx s b _ hs hb (hS.scan.drewN _) (hS.env.drewN _)).mono ?_
        rintro e w1 ⟨rfl, hb1⟩
        have hS2 := (hS.drewN _).below hb1
        clear hb1 c0 c1 f1
        have c0 := hS2.scan.c0; have c1 := hS2.scan.c1; have f1 := hS2.scan.f1
        go_wp2_with fail
        refine (prefix_sfx s b [34, 34, 34] _).mono ?_
        rintro e w2 ⟨rfl, hw2⟩
        subst hw2
        rw [HP.out]
        go_wp2_with fail
        refine (hS2.put (b + 3)).string.mono ?_
        rintro e w3 ⟨rfl, hS3⟩
        go_wp2_with fail
        refine (dedent_any out w3 hS3.env (by omega)).mono ?_
        rintro e w4 ⟨rfl, hb4⟩
        have hS4 := hS3.below hb4
        go_wp2_with fail
        go_ret2
        refine ⟨b + 3, by omega, by omega, hS4.scan, hS4.fr, hS4.env, .inl ⟨out, ?_, by omega, rfl⟩⟩
        rw [← HD.out, HC.out, Lx.block_end (by rw [← HC.out]; exact HQ.out), ← HC.out, sfx_drop]
    · have hi1 : (s.size : Int) ≤ b := by omega
      go_wp2
      go_quiet (fail)
      go_wp2
      go_ret2
      exact ⟨b, by omega, hb, hS.scan.drewN _, hS.fr.drewN _, hS.env.drewN _, .inr ⟨by rw [← HD.out, sfx_end s b (by omega), Lx.block_nil], rfl⟩⟩
end Go.Proofs.YtmgoebfcfgilfaaGreatDoor
namespace Go.Proofs.YtmgoebfcfgilfaaGreatDoor
set_option linter.unusedSimpArgs false
set_option linter.unusedVariables false
open Go Go.RowKit

/-- A block that holds one token. -/
def Tk (w : World) (k : Nat) (K : Int) (T : ByteArray) (A : Int) : Prop := w.heap[k]? = some (.cells #[.int .i64 K, .string T, .int .i64 A] 87 (0, 0))
theorem Tk.c0 {w : World} {k : Nat} {K A : Int} {T : ByteArray} (h : Tk w k K T A) : w.cell? ⟨k, 0, none⟩ = some (.int .i64 K) := by unfold Tk at h; simp [World.cell?, h]
theorem Tk.c1 {w : World} {k : Nat} {K A : Int} {T : ByteArray} (h : Tk w k K T A) : w.cell? ⟨k, 1, none⟩ = some (.string T) := by unfold Tk at h; simp [World.cell?, h]
theorem Tk.c2 {w : World} {k : Nat} {K A : Int} {T : ByteArray} (h : Tk w k K T A) : w.cell? ⟨k, 2, none⟩ = some (.int .i64 A) := by unfold Tk at h; simp [World.cell?, h]
theorem Tk.fz {w : World} {k : Nat} {K A : Int} {T : ByteArray} (h : Tk w k K T A) (i : Nat) : w.frozen? ⟨k, i, none⟩ = false := by unfold Tk at h; simp [World.frozen?, h]
theorem Tk.lt {w : World} {k : Nat} {K A : Int} {T : ByteArray} (h : Tk w k K T A) : k < w.heap.size := heap_lt h
theorem Tk.set0 {w : World} {k : Nat} {K A : Int} {T : ByteArray} (h : Tk w k K T A) (K' : Int) : Tk (w.setCell ⟨k, 0, none⟩ (.int .i64 K')) k K' T A := by
  unfold Tk at *; simp [World.setCell, Array.getElem?_modify, h]
theorem Tk.set1 {w : World} {k : Nat} {K A : Int} {T : ByteArray} (h : Tk w k K T A) (T' : ByteArray) : Tk (w.setCell ⟨k, 1, none⟩ (.string T')) k K T' A := by
  unfold Tk at *; simp [World.setCell, Array.getElem?_modify, h]
theorem Tk.set_other {w : World} {k : Nat} {K A : Int} {T : ByteArray} (h : Tk w k K T A) (p : Addr) (v : Value) (hp : p.block ≠ k) : Tk (w.setCell p v) k K T A := by
  unfold Tk at *; rw [Below.heap_setCell _ _ _ _ (Ne.symm hp)]; exact h

structure TS (w0 : World) (bx : Nat) (s : ByteArray) (b : Nat) (K : Int) (T : ByteArray) (A : Int) (w : World) : Prop where
  scan : Scan w bx s b
  fr : Fr bx w0 w
  env : Env w
  res : Tk w w0.heap.size 0 ⟨#[]⟩ 0
  tok : Tk w (w0.heap.size + 1) K T A
  lo : bx < w0.heap.size
  three : 3 ≤ bx

section
variable {w0 : World} {bx : Nat} {s : ByteArray} {b : Nat} {K : Int} {T : ByteArray} {A : Int} {w : World}
theorem TS.drewN (h : TS w0 bx s b K T A w) (n : Nat) : TS w0 bx s b K T A (w.drewN n) := ⟨h.scan.drewN n, h.fr.drewN n, h.env.drewN n, h.res, h.tok, h.lo, h.three⟩
theorem TS.call {b' : Nat} {w' : World} (h : TS w0 bx s b K T A w) (hs : Scan w' bx s b') (hf : Fr bx w w') : TS w0 bx s b' K T A w' := by
  have l := h.lo
  refine ⟨hs, h.fr.trans hf, h.env.fr hf h.three, ?_, ?_, h.lo, h.three⟩
  · have := h.res; have hl := Tk.lt this; unfold Tk at *; rw [hf.block _ hl (by omega)]; exact this
  · have := h.tok; have hl := Tk.lt this; unfold Tk at *; rw [hf.block _ hl (by omega)]; exact this
theorem TS.below {w' : World} (h : TS w0 bx s b K T A w) (hb : Below w.heap.size w w') : TS w0 bx s b K T A w' := h.call (h.scan.below hb) (But.of_below hb)
theorem TS.kind (h : TS w0 bx s b K T A w) (K' : Int) : TS w0 bx s b K' T A (w.setCell ⟨w0.heap.size + 1, 0, none⟩ (.int .i64 K')) := by
  have l := h.lo
  have hb : But (fun k => k = w0.heap.size + 1) w (w.setCell ⟨w0.heap.size + 1, 0, none⟩ (.int .i64 K')) := But.setCell (X := fun k => k = w0.heap.size + 1) (But.refl _ _) (.inl rfl) _
  refine ⟨h.scan.but hb (by omega), ⟨hb.os.trans h.fr.os, hb.tape.trans h.fr.tape, hb.output.trans h.fr.output, Nat.le_trans h.fr.size hb.size, fun k hk hx => ?_⟩, h.env.but hb (fun k hk => by have := h.three; omega), h.res.set_other _ _ (by simp), h.tok.set0 K', h.lo, h.three⟩
  rw [hb.block k (Nat.lt_of_lt_of_le hk h.fr.size) (by omega)]; exact h.fr.block k hk hx
theorem TS.text (h : TS w0 bx s b K T A w) (T' : ByteArray) : TS w0 bx s b K T' A (w.setCell ⟨w0.heap.size + 1, 1, none⟩ (.string T')) := by
  have l := h.lo
  have hb : But (fun k => k = w0.heap.size + 1) w (w.setCell ⟨w0.heap.size + 1, 1, none⟩ (.string T')) := But.setCell (X := fun k => k = w0.heap.size + 1) (But.refl _ _) (.inl rfl) _
  refine ⟨h.scan.but hb (by omega), ⟨hb.os.trans h.fr.os, hb.tape.trans h.fr.tape, hb.output.trans h.fr.output, Nat.le_trans h.fr.size hb.size, fun k hk hx => ?_⟩, h.env.but hb (fun k hk => by have := h.three; omega), h.res.set_other _ _ (by simp), h.tok.set1 T', h.lo, h.three⟩
  rw [hb.block k (Nat.lt_of_lt_of_le hk h.fr.size) (by omega)]; exact h.fr.block k hk hx
theorem TS.put (h : TS w0 bx s b K T A w) (n : Nat) : TS w0 bx s n K T A (w.setCell ⟨bx, 1, none⟩ (.int .i64 n)) := h.call (h.scan.put n) (Fr.set (But.refl _ _) 1 _)
end
theorem TS.done {w0 : World} {bx : Nat} {s : ByteArray} {b : Nat} {K : Int} {T : ByteArray} {A : Int} {w : World} (h : TS w0 bx s b K T A w) (k : Int) (t : ByteArray) (x : Int) :
    ∃ W, W = ((w.setCell ⟨w0.heap.size, 0, none⟩ (.int .i64 k)).setCell ⟨w0.heap.size, 1, none⟩ (.string t)).setCell ⟨w0.heap.size, 2, none⟩ (.int .i64 x) ∧
      Tk W w0.heap.size k t x ∧ Scan W bx s b ∧ Fr bx w0 W ∧ Env W := by
  refine ⟨_, rfl, ?_⟩
  have l := h.lo
  have hb : But (fun k => k = w0.heap.size) w (((w.setCell ⟨w0.heap.size, 0, none⟩ (.int .i64 k)).setCell ⟨w0.heap.size, 1, none⟩ (.string t)).setCell ⟨w0.heap.size, 2, none⟩ (.int .i64 x)) :=
    But.setCell (X := fun k => k = w0.heap.size) (But.setCell (X := fun k => k = w0.heap.size) (But.setCell (X := fun k => k = w0.heap.size) (But.refl _ _) (.inl rfl) _) (.inl rfl) _) (.inl rfl) _
  refine ⟨?_, h.scan.but hb (by omega), ⟨hb.os.trans h.fr.os, hb.tape.trans h.fr.tape, hb.output.trans h.fr.output, Nat.le_trans h.fr.size hb.size, fun k hk hx => ?_⟩, h.env.but hb (fun k hk => by have := h.three; omega)⟩
  · have hr := h.res
    unfold Tk at *
    simp [World.setCell, Array.getElem?_modify, hr]
  · rw [hb.block k (Nat.lt_of_lt_of_le hk h.fr.size) (by omega)]; exact h.fr.block k hk hx
theorem TS.start {w : World} {bx : Nat} {s : ByteArray} {b : Nat} (hs : Scan w bx s b) (he : Env w) (h3 : 3 ≤ bx) (A : Int) :
    TS w bx s b 0 ⟨#[]⟩ A ((w.alloc (.cells #[.int .i64 0, .string ⟨#[]⟩, .int .i64 0] 87)).alloc (.cells #[.int .i64 0, .string ⟨#[]⟩, .int .i64 A] 87)) := by
  have hb : Below w.heap.size w ((w.alloc (.cells #[.int .i64 0, .string ⟨#[]⟩, .int .i64 0] 87)).alloc (.cells #[.int .i64 0, .string ⟨#[]⟩, .int .i64 A] 87)) := ((Below.refl _ _).alloc (Nat.le_refl _) _).alloc (by simp) _
  refine ⟨hs.below hb, But.of_below hb, he.below hb, ?_, ?_, hs.lt, h3⟩
  · show ((w.heap.push _).push _)[w.heap.size]? = _
    rw [Array.getElem?_push, if_neg (by simp)]
    simp
  · show ((w.heap.push _).push _)[w.heap.size + 1]? = _
    rw [Array.getElem?_push, if_pos (by simp)]
end Go.Proofs.YtmgoebfcfgilfaaGreatDoor
namespace Go.Proofs.YtmgoebfcfgilfaaGreatDoor
set_option linter.unusedSimpArgs false
set_option linter.unusedVariables false
open Go Go.RowKit

theorem signIdx (c : UInt8) (w : World) :
    Calls Tryz.prog 211 #[.string ⟨#[33, 36, 38, 40, 41, 58, 61, 64, 91, 93, 123, 124, 125]⟩, .int .u8 c.toNat] w fun e w' => e = .returned (.int .i64 (Lib.indexByte Lx.signs c)) ∧ w' = w := by
  refine (Tryz.strings_IndexByte _ _ _).mono ?_
  rintro e w' ⟨rfl, rfl⟩
  refine ⟨?_, rfl⟩
  have h1 : ((c.toNat : Int)).toNat.toUInt8 = c := by simp
  rw [h1]
  rfl
theorem dots3_prefix (l : List UInt8) : Lx.dots3 l = Lib.hasPrefix l [46, 46, 46] := by
  match l with
  | [] => rfl
  | [a] => simp [Lx.dots3, Lib.hasPrefix, List.isPrefixOf]
  | [a, b] => simp [Lx.dots3, Lib.hasPrefix, List.isPrefixOf]
  | a :: b :: c :: t =>
    have e : Lib.hasPrefix (a :: b :: c :: t) [46, 46, 46] = ((46 == a) && ((46 == b) && ((46 == c) && true))) := rfl
    have e2 : Lx.dots3 (a :: b :: c :: t) = decide ([a, b, c] = [46, 46, 46]) := rfl
    rw [e, e2]
    by_cases h1 : a = 46
    · by_cases h2 : b = 46
      · by_cases h3 : c = 46
        · subst h1 h2 h3; decide
        · simp [h1, h2, h3, Ne.symm h3]
      · simp [h1, h2, Ne.symm h2]
    · simp [h1, Ne.symm h1]
theorem dots3_len {l : List UInt8} (h : Lx.dots3 l = true) : 3 ≤ l.length := by
  unfold Lx.dots3 at h
  have h1 := congrArg List.length (of_decide_eq_true h)
  rw [List.length_take] at h1
  simp at h1; omega

theorem extract_between (s : ByteArray) (a b : Nat) : s.extract a b = ⟨((sfx s a).take (b - a)).toArray⟩ := by
  have h : (s.extract a b).data = ((sfx s a).take (b - a)).toArray := by
    apply Array.ext'
    simp only [ByteArray.data_extract, Array.toList_extract, sfx, List.extract_eq_take_drop]
  cases h' : s.extract a b
  simp_all
/-- What 'token' leaves. -/
def TokPost (bx : Nat) (s : ByteArray) (a : Nat) (w : World) (e : Ending) (w' : World) : Prop :=
  ∃ b, a ≤ b ∧ b ≤ s.size ∧ Scan w' bx s b ∧ Fr bx w w' ∧ Env w' ∧
    ((∃ (k : Nat) (T : List UInt8), Lx.token (sfx s a) = some (k, T, sfx s b) ∧ a < b ∧ 1 ≤ k ∧ k ≤ 5 ∧ T.length ≤ 1000000000 ∧ e = .returned (.tuple #[.agg #[.int .i64 k, .string ⟨T.toArray⟩, .int .i64 a], .bool true])) ∨
     (Lx.token (sfx s a) = none ∧ ∃ K T, e = .returned (.tuple #[.agg #[.int .i64 K, .string T, .int .i64 a], .bool false])))

/-- Behind the switch. -/
def Mid (bx : Nat) (s : ByteArray) (a : Nat) (w : World) (ok : Bool) (wx : World) : Prop :=
  ∃ (b : Nat) (K : Nat) (T : List UInt8), a ≤ b ∧ b ≤ s.size ∧ TS w bx s b K ⟨T.toArray⟩ a wx ∧
    ((ok = true ∧ K = 4 ∧ Lx.token (sfx s a) = some (4, T, sfx s b) ∧ a < b ∧ T.length ≤ 1000000000) ∨
     (ok = true ∧ K ≠ 4 ∧ 1 ≤ K ∧ K ≤ 5 ∧ T = [] ∧ a < b ∧ Lx.token (sfx s a) = some (K, (sfx s a).take (b - a), sfx s b)) ∨
     (ok = false ∧ Lx.token (sfx s a) = none))

set_option maxHeartbeats 8000000 in
set_option maxRecDepth 100000 in
theorem token_any (bx : Nat) (s : ByteArray) (a : Nat) (w : World) (hs : s.size ≤ 4096) (hat : a < s.size) (h : Scan w bx s a) (hE : Env w) (h3 : 3 ≤ bx) :
    Calls Tryz.prog 144 #[.pointer (some ⟨bx, 0, none⟩)] w (TokPost bx s a w) := by
  have hT0 := TS.start h hE h3 (a : Int)
  have c0 := h.c0; have c1 := h.c1; have hbl := h.lt
  have hbn : bx ≠ w.heap.size := by omega
  have HT0 := Lib.hid hT0
  clear hT0
  go_enter Tryz.func144, Tryz.ntmps144
  go_wp2_with fail
  refine (peek0_any bx s a _ hs (by omega) HT0.out.scan).mono ?_
  rintro e w1 ⟨rfl, n1, hw1⟩
  have hT := HT0.out.drewN n1
  rw [← hw1] at hT
  clear hw1 HT0 c0 c1 h hE
  go_upto_block 0 with (fail)
  go_cut [6] (fun s6 wx => ∃ ok : Bool, s6 = .bool ok ∧ Mid bx s a w ok wx)
  case first =>
    have t0 := hT.tok.c0; have f0 := hT.tok.fz 0; have t1 := hT.tok.c1; have f1 := hT.tok.fz 1
    have c0 := hT.scan.c0; have c1 := hT.scan.c1; have g1 := hT.scan.f1
    have hne : w.heap.size + 1 ≠ bx := by omega
    have hn1 : w.heap.size + 1 < w1.heap.size := hT.tok.lt
    have HH := Lib.hid (hd_sfx s a)
    have hlt : a + 1 ≤ s.size := hat
    have HC := Lib.hid (sfx_cons s a hat)
    have hxs := extract_sfx s a
    cases hlet : Lx.isLetter (bt s a)
    · have HLE := Lib.hid hlet
      clear hlet
      have htok1 : Lx.token (sfx s a) = if (bt s a).toNat = 45 ∨ Lx.isDigit (bt s a) = true then (Lx.number (sfx s a)).map fun p => (p.1, (sfx s a).take ((sfx s a).length - p.2.length), p.2)
          else if Lx.quotes3 (sfx s a) then (Lx.block [] (sfx s (a + 3))).map fun p => (4, Lx.dedent p.1, p.2)
          else if (bt s a).toNat = 34 then (Lx.text [] (sfx s (a + 1))).map fun p => (4, p.1, p.2)
          else if Lx.dots3 (sfx s a) then some (5, (sfx s a).take 3, sfx s (a + 3))
          else if (bt s a).toNat ≠ 0 ∧ Lx.signs.contains (bt s a) = true then some (5, (sfx s a).take 1, sfx s (a + 1))
          else none := by
        unfold Lx.token
        rw [HH.out, HLE.out, if_neg Bool.false_ne_true, sfx_drop, sfx_drop]
      by_cases hnum : (bt s a).toNat = 45 ∨ Lx.isDigit (bt s a) = true
      · rw [if_pos hnum] at htok1
        have HTK := Lib.hid htok1
        clear htok1
        have hcase : ((((bt s a).toNat : Int) == 45) = true) ∨ ((((bt s a).toNat : Int) == 45) = false ∧ Hid (Lx.isDigit (bt s a) = true)) := by
          by_cases h45 : (bt s a).toNat = 45
          · exact .inl (eqT (by omega))
          · exact .inr ⟨eqF (by omega), hnum.resolve_left h45⟩
        clear hnum
        rcases hcase with e1 | ⟨e1, HDI⟩
        all_goals
          go_wp2_with (first | (go_at_call 189; refine (letter_any _ _).mono ?_; rintro e w' ⟨rfl, hw'⟩; obtain rfl := hw'.symm; rw [HLE.out]) | (go_at_call 190; refine (digit_any _ _).mono ?_; rintro e w' ⟨rfl, hw'⟩; obtain rfl := hw'.symm; rw [HDI.out]) | fail)
          refine (number_any bx s a _ hs (by omega) hT.scan).mono ?_
          rintro e w2 ⟨b, hab, hb, hS2, hF2, hres⟩
          have hT2 := hT.call hS2 hF2
          clear t0 f0 t1 f1 c0 c1 g1 e1
          have t0 := hT2.tok.c0; have f0 := hT2.tok.fz 0
          rcases hres with ⟨k, hnu, hk, rfl⟩ | ⟨hnu, rfl⟩
          · have hsh := Lx.number_shorter hnu
            have HNU := Lib.hid hnu
            clear hnu
            have hsh2 : a < b := by rw [sfx_len, sfx_len] at hsh; omega
            have hk0 : 0 < k := by omega
            have hkd : decide (0 < k) = true := by simpa using hk0
            clear hsh
            go_wp2_with fail
            go_meet
            refine ⟨true, rfl, b, k, [], hab, hb, hT2.kind k, .inr (.inl ⟨rfl, by omega, by omega, by omega, rfl, hsh2, ?_⟩)⟩
            rw [HTK.out, HNU.out, Option.map_some, sfx_len, sfx_len, show s.size - a - (s.size - b) = b - a by omega]
          · have HNU := Lib.hid hnu
            clear hnu
            go_wp2_with fail
            go_meet
            refine ⟨false, rfl, b, 0, [], hab, hb, hT2.kind 0, .inr (.inr ⟨rfl, ?_⟩)⟩
            rw [HTK.out, HNU.out, Option.map_none]
      · rw [if_neg hnum] at htok1
        have e1 := eqF (n := (bt s a).toNat) (k := 45) (by omega)
        have HDI : Hid (Lx.isDigit (bt s a) = false) := by
          show _ = _
          cases hh : Lx.isDigit (bt s a)
          · rfl
          · exact absurd (.inr hh) hnum
        clear hnum
        cases hq : Lx.quotes3 (sfx s a)
        · rw [hq, if_neg Bool.false_ne_true] at htok1
          have HP : Hid (Lib.hasPrefix (sfx s a) [34, 34, 34] = false) := by rw [← quotes3_prefix]; exact hq
          clear hq
          by_cases h34 : (bt s a).toNat = 34
          · rw [if_pos h34] at htok1
            have e2 := eqT (n := (bt s a).toNat) (k := 34) (by omega)
            have HTK := Lib.hid htok1
            clear htok1 h34
            go_wp2_with (first | (go_at_call 189; refine (letter_any _ _).mono ?_; rintro e w' ⟨rfl, hw'⟩; obtain rfl := hw'.symm; rw [HLE.out]) | (go_at_call 190; refine (digit_any _ _).mono ?_; rintro e w' ⟨rfl, hw'⟩; obtain rfl := hw'.symm; rw [HDI.out]) | (go_at_call 203; refine (prefix_sfx s a [34, 34, 34] _).mono ?_; rintro e w' ⟨rfl, hw'⟩; obtain rfl := hw'.symm; rw [HP.out]) | fail)
            refine (text_any bx s a _ hs hat (hT.kind 4).scan (hT.kind 4).env (hT.kind 4).three).mono ?_
            rintro e w2 ⟨b, hab, hb, hS2, hF2, hE2, hres⟩
            have hT2 := (hT.kind 4).call hS2 hF2
            clear t0 f0 t1 f1 c0 c1 g1 e1 e2
            have t1 := hT2.tok.c1; have f1 := hT2.tok.fz 1
            rcases hres with ⟨m, htx, hml, rfl⟩ | ⟨htx, rfl⟩
            · have HTX := Lib.hid htx
              clear htx
              go_wp2_with fail
              go_meet
              exact ⟨true, rfl, b, 4, m, by omega, hb, hT2.text _, .inl ⟨rfl, rfl, by rw [HTK.out, HTX.out, Option.map_some], by omega, by omega⟩⟩
            · have HTX := Lib.hid htx
              clear htx
              go_wp2_with fail
              go_meet
              exact ⟨false, rfl, b, 4, [], by omega, hb, hT2.text _, .inr (.inr ⟨rfl, by rw [HTK.out, HTX.out, Option.map_none]⟩)⟩
          · rw [if_neg h34] at htok1
            have e2 := eqF (n := (bt s a).toNat) (k := 34) (by omega)
            clear h34
            cases hd3 : Lx.dots3 (sfx s a)
            · rw [hd3, if_neg Bool.false_ne_true] at htok1
              have HP2 : Hid (Lib.hasPrefix (sfx s a) [46, 46, 46] = false) := by rw [← dots3_prefix]; exact hd3
              clear hd3
              have hsi := signIdx (bt s a)
              have hsc := Lx.index_signs (bt s a) Lx.signs
              generalize Lib.indexByte Lx.signs (bt s a) = kk at hsi hsc
              have HI := Lib.hid hsi
              clear hsi
              by_cases hsg : (bt s a).toNat ≠ 0 ∧ Lx.signs.contains (bt s a) = true
              · rw [if_pos hsg] at htok1
                have HTK := Lib.hid htok1
                have e3 := neT (n := (bt s a).toNat) (k := 0) (by omega)
                have e4 : decide (0 ≤ kk) = true := by simpa using hsc.2 hsg.2
                clear htok1 hsc hsg
                go_wp2_with (first | (go_at_call 189; refine (letter_any _ _).mono ?_; rintro e w' ⟨rfl, hw'⟩; obtain rfl := hw'.symm; rw [HLE.out]) | (go_at_call 190; refine (digit_any _ _).mono ?_; rintro e w' ⟨rfl, hw'⟩; obtain rfl := hw'.symm; rw [HDI.out]) | (go_at_call 211; refine (HI.out _).mono ?_; rintro e w' ⟨rfl, hw'⟩; obtain rfl := hw'.symm) | (go_at_call_of 203 (Value.string ⟨#[34, 34, 34]⟩); refine (prefix_sfx s a [34, 34, 34] _).mono ?_; rintro e w' ⟨rfl, hw'⟩; obtain rfl := hw'.symm; rw [HP.out]) | (go_at_call 203; refine (prefix_sfx s a [46, 46, 46] _).mono ?_; rintro e w' ⟨rfl, hw'⟩; obtain rfl := hw'.symm; rw [HP2.out]) | fail)
                go_meet
                exact ⟨true, rfl, a + 1, 5, [], by omega, hlt, (hT.kind 5).put (a + 1), .inr (.inl ⟨rfl, by omega, by omega, by omega, rfl, by omega, by rw [HTK.out, show a + 1 - a = 1 by omega]⟩)⟩
              · rw [if_neg hsg] at htok1
                have HTK := Lib.hid htok1
                have hcase : ((((bt s a).toNat : Int) != 0) = false) ∨ ((((bt s a).toNat : Int) != 0) = true ∧ decide (0 ≤ kk) = false) := by
                  by_cases h0 : (bt s a).toNat = 0
                  · exact .inl (neF (by omega))
                  · refine .inr ⟨neT (by omega), ?_⟩
                    have : ¬ 0 ≤ kk := fun h => hsg ⟨h0, hsc.1 h⟩
                    simpa using this
                have t2 := hT.tok.c2
                have r0 := hT.res.c0; have r1 := hT.res.c1; have r2 := hT.res.c2
                have q0 := hT.res.fz 0; have q1 := hT.res.fz 1; have q2 := hT.res.fz 2
                clear htok1 hsc hsg
                rcases hcase with e3 | ⟨e3, e4⟩
                all_goals
                  go_wp2_with (first | (go_at_call 189; refine (letter_any _ _).mono ?_; rintro e w' ⟨rfl, hw'⟩; obtain rfl := hw'.symm; rw [HLE.out]) | (go_at_call 190; refine (digit_any _ _).mono ?_; rintro e w' ⟨rfl, hw'⟩; obtain rfl := hw'.symm; rw [HDI.out]) | (go_at_call 211; refine (HI.out _).mono ?_; rintro e w' ⟨rfl, hw'⟩; obtain rfl := hw'.symm) | (go_at_call_of 203 (Value.string ⟨#[34, 34, 34]⟩); refine (prefix_sfx s a [34, 34, 34] _).mono ?_; rintro e w' ⟨rfl, hw'⟩; obtain rfl := hw'.symm; rw [HP.out]) | (go_at_call 203; refine (prefix_sfx s a [46, 46, 46] _).mono ?_; rintro e w' ⟨rfl, hw'⟩; obtain rfl := hw'.symm; rw [HP2.out]) | fail)
                  try simp only [Exit.inBlock, Exit.then]
                  obtain ⟨W3, hW3, hk3, hs3, hf3, he3⟩ := TS.done hT 0 ⟨#[]⟩ a
                  rw [← hW3]
                  clear hW3
                  have d0 := hk3.c0; have d1 := hk3.c1; have d2 := hk3.c2
                  refine bodyPost_ret (v := .tuple #[.agg #[.int .i64 0, .string ⟨#[]⟩, .int .i64 a], .bool false]) (by simp [results, Tryz.results144, go_sem, d0, d1, d2]) rfl ?_
                  exact ⟨a, Nat.le_refl _, by omega, hs3, hf3, he3, .inr ⟨HTK.out, _, _, rfl⟩⟩
            · rw [hd3, if_pos rfl] at htok1
              have HP2 : Hid (Lib.hasPrefix (sfx s a) [46, 46, 46] = true) := by rw [← dots3_prefix]; exact hd3
              have hd4 := dots3_len hd3
              rw [sfx_len] at hd4
              have HTK := Lib.hid htok1
              clear hd3 htok1
              go_wp2_with (first | (go_at_call 189; refine (letter_any _ _).mono ?_; rintro e w' ⟨rfl, hw'⟩; obtain rfl := hw'.symm; rw [HLE.out]) | (go_at_call 190; refine (digit_any _ _).mono ?_; rintro e w' ⟨rfl, hw'⟩; obtain rfl := hw'.symm; rw [HDI.out]) | (go_at_call_of 203 (Value.string ⟨#[34, 34, 34]⟩); refine (prefix_sfx s a [34, 34, 34] _).mono ?_; rintro e w' ⟨rfl, hw'⟩; obtain rfl := hw'.symm; rw [HP.out]) | (go_at_call 203; refine (prefix_sfx s a [46, 46, 46] _).mono ?_; rintro e w' ⟨rfl, hw'⟩; obtain rfl := hw'.symm; rw [HP2.out]) | fail)
              go_meet
              exact ⟨true, rfl, a + 3, 5, [], by omega, by omega, (hT.kind 5).put (a + 3), .inr (.inl ⟨rfl, by omega, by omega, by omega, rfl, by omega, by rw [HTK.out, show a + 3 - a = 3 by omega]⟩)⟩
        · rw [hq, if_pos rfl] at htok1
          have hq3 := quotes3_len hq
          rw [sfx_len] at hq3
          have HP : Hid (Lib.hasPrefix (sfx s a) [34, 34, 34] = true) := by rw [← quotes3_prefix]; exact hq
          have HTK := Lib.hid htok1
          clear hq htok1
          go_wp2_with (first | (go_at_call 189; refine (letter_any _ _).mono ?_; rintro e w' ⟨rfl, hw'⟩; obtain rfl := hw'.symm; rw [HLE.out]) | (go_at_call 190; refine (digit_any _ _).mono ?_; rintro e w' ⟨rfl, hw'⟩; obtain rfl := hw'.symm; rw [HDI.out]) | (go_at_call 203; refine (prefix_sfx s a [34, 34, 34] _).mono ?_; rintro e w' ⟨rfl, hw'⟩; obtain rfl := hw'.symm; rw [HP.out]) | fail)
          refine (block_any bx s a _ hs (by omega) (hT.kind 4).scan (hT.kind 4).env (hT.kind 4).three).mono ?_
          rintro e w2 ⟨b, hab, hb, hS2, hF2, hE2, hres⟩
          have hT2 := (hT.kind 4).call hS2 hF2
          clear t0 f0 t1 f1 c0 c1 g1 e1
          have t1 := hT2.tok.c1; have f1 := hT2.tok.fz 1
          rcases hres with ⟨m, htx, hml, rfl⟩ | ⟨htx, rfl⟩
          · have HTX := Lib.hid htx
            clear htx
            go_wp2_with fail
            go_meet
            exact ⟨true, rfl, b, 4, Lx.dedent m, by omega, hb, hT2.text _, .inl ⟨rfl, rfl, by rw [HTK.out, HTX.out, Option.map_some], by omega, Lx.dedent_len m (by omega)⟩⟩
          · have HTX := Lib.hid htx
            clear htx
            go_wp2_with fail
            go_meet
            exact ⟨false, rfl, b, 4, [], by omega, hb, hT2.text _, .inr (.inr ⟨rfl, by rw [HTK.out, HTX.out, Option.map_none]⟩)⟩
    · have HLE := Lib.hid hlet
      clear hlet
      go_wp2_with (first | (go_at_call 189; refine (letter_any _ _).mono ?_; rintro e w' ⟨rfl, hw'⟩; obtain rfl := hw'.symm; rw [HLE.out]) | fail)
      refine (while_word bx s a _ hs (by omega) (hT.kind 1).scan).mono ?_
      rintro e w2 ⟨b, hab, hb, hdw, rfl, hS2, hF2⟩
      have hT2 := (hT.kind 1).call hS2 hF2
      have hab2 : a < b := by
        have h1 := congrArg List.length hdw
        have h2 := Lx.dropWhile_le Lx.isWord (sfx s (a + 1))
        rw [HC.out, List.dropWhile_cons, show isWord (bt s a) = true by simp [Lx.isWord, HLE.out], if_pos rfl, sfx_len] at h1
        rw [sfx_len] at h2
        have h3 : (List.dropWhile Lx.isWord (sfx s (a + 1))).length = (List.dropWhile isWord (sfx s (a + 1))).length := rfl
        omega
      have HDW := Lib.hid hdw
      clear hdw
      go_wp2_with fail
      go_meet
      refine ⟨true, rfl, b, 1, [], hab, hb, hT2, .inr (.inl ⟨rfl, by decide, by decide, by decide, rfl, hab2, ?_⟩)⟩
      unfold Lx.token
      have h1 : (sfx s a).dropWhile Lx.isWord = sfx s b := HDW.out.symm
      rw [HH.out, if_pos HLE.out, h1, sfx_len, sfx_len, show s.size - a - (s.size - b) = b - a by omega]
  case rest =>
    obtain ⟨ok, rfl, b, K, T, hab, hb, hT2, hcase⟩ := hcut
    clear hT
    have t0 := hT2.tok.c0; have t1 := hT2.tok.c1; have t2 := hT2.tok.c2; have f1 := hT2.tok.fz 1
    have r0 := hT2.res.c0; have r1 := hT2.res.c1; have r2 := hT2.res.c2
    have q0 := hT2.res.fz 0; have q1 := hT2.res.fz 1; have q2 := hT2.res.fz 2
    have hne : w.heap.size + 1 ≠ bx := by omega
    have c0 := hT2.scan.c0; have c1 := hT2.scan.c1
    rcases hcase with ⟨rfl, rfl, htk, hab2, hTl⟩ | ⟨rfl, hK, hK1, hK5, rfl, hab2, htk⟩ | ⟨rfl, htk⟩
    · have HTK := Lib.hid htk
      clear htk
      go_wp2
      try simp only [Exit.inBlock, Exit.then]
      obtain ⟨W3, hW3, hk3, hs3, hf3, he3⟩ := TS.done hT2 4 ⟨T.toArray⟩ a
      rw [← hW3]
      clear hW3
      have d0 := hk3.c0; have d1 := hk3.c1; have d2 := hk3.c2
      refine bodyPost_ret (v := .tuple #[.agg #[.int .i64 4, .string ⟨T.toArray⟩, .int .i64 a], .bool true]) (by simp [results, Tryz.results144, go_sem, d0, d1, d2]) rfl ?_
      exact ⟨b, hab, hb, hs3, hf3, he3, .inl ⟨4, T, HTK.out, hab2, by omega, by omega, hTl, rfl⟩⟩
    · have HTK := Lib.hid htk
      have e1 := neT (n := K) (k := 4) (by omega)
      have hx : s.extract a b = ⟨((sfx s a).take (b - a)).toArray⟩ := extract_between s a b
      have HK := Lib.hid hK
      have ha0 : (0 : Int) ≤ (a : Int) := by omega
      have ha1 : (a : Int) ≤ (b : Int) := by omega
      have ha2 : (b : Int) ≤ s.size := by omega
      clear htk hK
      go_wp2
      refine wp_region_cuts [11] (by kernel_rfl) (by kernel_rfl) ?_; simp only [wpMix, List.take_succ_cons, List.take_zero, List.drop_succ_cons, List.drop_zero, Nat.sub_zero, Nat.reduceSub, Nat.reduceAdd]
      repeat (go_big_quiet_step (fail))
      refine wpQuiet_nil ?_; rintro _ ⟨nq, rfl⟩
      go_wp2
      repeat (go_big_quiet_step (fail))
      refine wpQuiet_nil ?_; rintro _ ⟨nq, rfl⟩
      go_wp2
      have hT3 : ∀ n m : Nat, TS w bx s b K ⟨((sfx s a).take (b - a)).toArray⟩ a (((wc.drewN n).setCell ⟨w.heap.size + 1, 1, none⟩ (.string ⟨((sfx s a).take (b - a)).toArray⟩)).drewN m) := fun n m => ((hT2.drewN n).text _).drewN m
      try simp only [Exit.inBlock, Exit.then]
      obtain ⟨W3, hW3, hk3, hs3, hf3, he3⟩ := TS.done (hT3 _ _) K ⟨((sfx s a).take (b - a)).toArray⟩ a
      rw [← hW3]
      clear hW3
      have d0 := hk3.c0; have d1 := hk3.c1; have d2 := hk3.c2
      refine bodyPost_ret (v := .tuple #[.agg #[.int .i64 K, .string ⟨((sfx s a).take (b - a)).toArray⟩, .int .i64 a], .bool true]) (by simp [results, Tryz.results144, go_sem, d0, d1, d2]) rfl ?_
      exact ⟨b, hab, hb, hs3, hf3, he3, .inl ⟨K, (sfx s a).take (b - a), HTK.out, hab2, hK1, hK5, by rw [List.length_take]; omega, rfl⟩⟩
    · have HTK := Lib.hid htk
      clear htk
      go_wp2
      try simp only [Exit.inBlock, Exit.then]
      obtain ⟨W3, hW3, hk3, hs3, hf3, he3⟩ := TS.done hT2 K ⟨T.toArray⟩ a
      rw [← hW3]
      clear hW3
      have d0 := hk3.c0; have d1 := hk3.c1; have d2 := hk3.c2
      refine bodyPost_ret (v := .tuple #[.agg #[.int .i64 K, .string ⟨T.toArray⟩, .int .i64 a], .bool false]) (by simp [results, Tryz.results144, go_sem, d0, d1, d2]) rfl ?_
      exact ⟨b, hab, hb, hs3, hf3, he3, .inr ⟨HTK.out, _, _, rfl⟩⟩
end Go.Proofs.YtmgoebfcfgilfaaGreatDoor
namespace Go.Proofs.YtmgoebfcfgilfaaGreatDoor
set_option linter.unusedSimpArgs false
set_option linter.unusedVariables false
open Go Go.RowKit

/-- The tokens' cells. -/
def tokCells (ts : List Lx.Tok) : List Value := ts.flatMap fun t => [.int .i64 t.kind, .string ⟨t.text.toArray⟩, .int .i64 t.at_]
/-- The slice that 'Lex' answers with holds these tokens, in blocks from 'base' on. -/
def Toks (w : World) (base : Nat) (v : Value) (ts : List Lx.Tok) : Prop := w.ownsRow base 87 3 v ts.length (tokCells ts)

theorem Toks.but {w w' : World} {base : Nat} {v : Value} {ts : List Lx.Tok} {X : Nat → Prop} (h : Toks w base v ts) (hb : But X w w') (hX : ∀ k, X k → k < base) : Toks w' base v ts := by
  refine ⟨h.1, ?_⟩
  rcases h.2 with h2 | ⟨g, cap, cur, hv, hg, hc, h3⟩
  · exact .inl h2
  · refine .inr ⟨g, cap, cur, hv, hg, ?_, h3⟩
    rw [hb.block g (heap_lt hc) (fun x => by have := hX _ x; omega)]
    exact hc
theorem Toks.below {w w' : World} {base : Nat} {v : Value} {ts : List Lx.Tok} (h : Toks w base v ts) (hb : Below w.heap.size w w') : Toks w' base v ts := h.but (X := fun _ => False) (But.of_below hb) (fun _ f => f.elim)
theorem tokCells_snoc (ts : List Lx.Tok) (t : Lx.Tok) : tokCells (ts ++ [t]) = tokCells ts ++ [.int .i64 t.kind, .string ⟨t.text.toArray⟩, .int .i64 t.at_] := by simp [tokCells]

theorem infoTok : (Tryz.prog.info? 87).map (fun i => (i.zero, i.size, i.bytes)) = some (some (.agg #[.int .i64 0, .string ⟨#[]⟩, .int .i64 0]), 3, 32) := by kernel_rfl

/-- What 'Lex' leaves. -/
def LexPost (s : ByteArray) (w : World) (e : Ending) (w' : World) : Prop :=
  Below w.heap.size w w' ∧
  ((∃ ts v, Lx.lex s.data.toList = .ok ts ∧ e = .returned (.tuple #[v, .int .i64 0, .int .i64 0]) ∧ Toks w' (w.heap.size + 1) v ts ∧ Std s ts) ∨
   (∃ a c : Nat, Lx.lex s.data.toList = .err a c ∧ e = .returned (.tuple #[.slice none 0 0, .int .i64 a, .int .i64 c]) ∧ (c = 5 ∨ c = 8 ∨ c = 40)))

/-- A round's world. -/
structure LS (w0 : World) (s : ByteArray) (a : Nat) (v : Value) (out : List Lx.Tok) (w : World) : Prop where
  scan : Scan w w0.heap.size s a
  env : Env w
  own : Toks w (w0.heap.size + 1) v out
  bel : Below w0.heap.size w0 w
  hi : w0.heap.size + 1 ≤ w.heap.size
theorem LS.call {w0 w w' : World} {s : ByteArray} {a b : Nat} {v : Value} {out : List Lx.Tok} (h : LS w0 s a v out w) (h3 : 3 ≤ w0.heap.size) (hs : Scan w' w0.heap.size s b) (hf : Fr w0.heap.size w w') : LS w0 s b v out w' := by
  refine ⟨hs, h.env.fr hf h3, h.own.but hf (fun k hk => by omega), ?_, Nat.le_trans h.hi hf.size⟩
  exact h.bel.trans ⟨hf.os, hf.tape, hf.output, Nat.le_trans (by have := h.hi; omega) hf.size, fun k hk => hf.block k (by have := h.hi; omega) (by omega)⟩
theorem LS.drewN {w0 w : World} {s : ByteArray} {a : Nat} {v : Value} {out : List Lx.Tok} (h : LS w0 s a v out w) (n : Nat) : LS w0 s a v out (w.drewN n) :=
  ⟨h.scan.drewN n, h.env.drewN n, h.own, Below.drewN h.bel n, h.hi⟩
theorem LS.alloc {w0 w : World} {s : ByteArray} {a : Nat} {v : Value} {out : List Lx.Tok} (h : LS w0 s a v out w) (o : Obj) : LS w0 s a v out (w.alloc o) := by
  have hb : Below w.heap.size w (w.alloc o) := (Below.refl _ _).alloc (Nat.le_refl _) _
  exact ⟨h.scan.below hb, h.env.below hb, h.own.below hb, h.bel.trans (hb.mono (by have := h.hi; omega)), Nat.le_trans h.hi hb.size⟩
theorem LS.grown {w0 w w' : World} {s : ByteArray} {a : Nat} {v v' : Value} {out out' : List Lx.Tok} (h : LS w0 s a v out w) (h3 : 3 ≤ w0.heap.size) (ho : Toks w' (w0.heap.size + 1) v' out') (hg : w.grownBy w' v.ownBlock) : LS w0 s a v' out' w' := by
  have hlt : ∀ k, v.ownBlock = some k → w0.heap.size + 1 ≤ k := fun k hk => (World.ownsRow.lt h.own k hk).1
  have hb : But (fun k => v.ownBlock = some k) w w' := ⟨hg.os, hg.tape, hg.output, hg.size, fun k hk hx => hg.block k hk (fun e => hx e.symm)⟩
  refine ⟨h.scan.but hb (fun x => by have := hlt _ x; omega), ?_, ho, ?_, Nat.le_trans h.hi hg.size⟩
  · have hE := h.env
    obtain ⟨⟨h1, h2⟩, m, h4⟩ := hE
    refine Env.but ⟨⟨h1, h2⟩, m, h4⟩ hb (fun k hk => by have := hlt _ hk; omega)
  · exact h.bel.trans ⟨hg.os, hg.tape, hg.output, Nat.le_trans (by have := h.hi; omega) hg.size, fun k hk => hb.block k (by have := h.hi; omega) (fun x => by have := hlt _ x; omega)⟩

theorem Toks.form {w : World} {base : Nat} {v : Value} {ts : List Lx.Tok} (h : Toks w base v ts) : ∃ a c, v = .slice a ts.length c := by
  rcases h.2 with ⟨h2, h3⟩ | ⟨g, cap, cur, hv, hg, hc, h3⟩
  · exact ⟨none, 0, by rw [h3]; exact h2⟩
  · exact ⟨_, _, hv⟩

set_option maxHeartbeats 1000000 in
set_option maxRecDepth 100000 in
theorem lex_any (s : ByteArray) (w : World) (hs : s.size ≤ 9223372036854775807) (hE : Env w) (h3 : 3 ≤ w.heap.size) :
    Calls Tryz.prog 83 #[.string s] w (LexPost s w) := by
  obtain ⟨i0, hi, hz0, hz1, hz2⟩ := info_parts infoTok
  go_enter Tryz.func83, Tryz.ntmps83
  have hi0 : (0 : Int) ≤ (s.size : Int) := Int.natCast_nonneg _
  have hlen : s.data.toList.length = s.size := rfl
  by_cases hbig : 4096 < s.size
  · go_wp2_with fail
    refine bodyPost_ret (v := .tuple #[.slice none 0 0, .int .i64 0, .int .i64 5]) (by simp [results, Tryz.results83, go_sem]) rfl ?_
    exact ⟨Below.refl _ _, .inr ⟨0, 5, by unfold Lx.lex; rw [if_pos (by omega)], rfl, .inl rfl⟩⟩
  · have hst : LS w s 0 (.slice none 0 0) [] (w.alloc (.cells #[.string s, .int .i64 0] 210)) := by
      have hb : Below w.heap.size w (w.alloc (.cells #[.string s, .int .i64 0] 210)) := (Below.refl _ _).alloc (Nat.le_refl _) _
      refine ⟨?_, hE.below hb, World.ownsRow_nil _ _ _ _, hb, by simp⟩
      show (w.heap.push _)[w.heap.size]? = _
      simp
    have hR : Lx.lexGo s.size (s.size + 1) (sfx s 0) [] = Lx.lex s.data.toList := by
      unfold Lx.lex; rw [if_neg (by omega), sfx_all, hlen]
    have HST := Lib.hid hst
    have HR := Lib.hid hR
    clear hst hR hlen
    go_wp2_with fail
    go_loopg [6, 7, 8] (s.size + 1) (fun k s6 _ _ wr => ∃ a out, a ≤ s.size ∧ s.size < k + a ∧ Lx.lexGo s.size k (sfx s a) out = Lx.lex s.data.toList ∧ out.length ≤ 1500 ∧ Chain s 0 out a ∧ LS w s a s6 out wr)
    case atStart => exact ⟨0, [], Nat.zero_le _, by omega, HR.out, by simp, Nat.le_refl _, HST.out⟩
    case round =>
      obtain ⟨a, out, ha, hk, hR, hol, hch, hL⟩ := hrel
      have HCH := Lib.hid hch
      have HR := Lib.hid hR
      clear hR HST hch
      go_wp2_with fail
      refine (gap_any w.heap.size s a wr (by omega) ha hL.scan hL.env h3).mono ?_
      rintro e w2 ⟨b, r, hab, hb, hgap, rfl, hS2, hF2⟩
      have hL2 := hL.call h3 hS2 hF2
      clear hL
      obtain ⟨n, rfl⟩ : ∃ n, gk = n + 1 := ⟨gk - 1, by omega⟩
      have hd0 : decide ((sfx s a).length = s.size) = decide (a = 0) := by
        rw [sfx_len]; by_cases h0 : a = 0 <;> simp [h0]; omega
      have c1 := hL2.scan.c1
      have hr1 := HR.out
      rw [Lx.lexGo, hd0, hgap, sfx_len] at hr1
      clear HR hd0 hgap hS2 hF2
      cases r
      · rw [if_pos rfl, show s.size - (s.size - b) = b by omega] at hr1
        have HRR := Lib.hid hr1
        clear hr1
        go_wp2_with fail
        refine wp_region_cuts [] (by kernel_rfl) (by kernel_rfl) ?_; simp only [wpMix, List.take_succ_cons, List.take_zero, List.drop_succ_cons, List.drop_zero, Nat.sub_zero, Nat.reduceSub, Nat.reduceAdd]
        repeat (go_big_quiet_step (fail))
        refine wpQuiet_nil ?_; rintro _ ⟨nq, rfl⟩
        go_wp2
        refine bodyPost_ret (v := .tuple #[.slice none 0 0, .int .i64 b, .int .i64 40]) (by simp [results, Tryz.results83, go_sem]) rfl ?_
        exact ⟨Below.drewN hL2.bel _, .inr ⟨b, 40, HRR.out.symm, rfl, .inr (.inr rfl)⟩⟩
      · rw [if_neg (by simp)] at hr1
        by_cases hbe : b = s.size
        · rw [if_pos (by omega)] at hr1
          have HRR := Lib.hid hr1
          have e1 := eqT (n := b) (k := s.size) (by omega)
          clear hr1
          go_wp2_with (first | (at_builtin; refine wpList_append_own _ rfl _ _ 80 rfl (w.heap.size + 1) 87 i0 (.agg #[.int .i64 0, .string ⟨#[]⟩, .int .i64 0]) 3 32 Tryz.underlying80 hi hz0 hz1 hz2 rfl (by decide) _ _ _ rfl (hL2.alloc _).own ⟨w2.heap.size, 0, none⟩ 1 1 [.int .i64 0, .string ⟨#[]⟩, .int .i64 s.size] rfl rfl ?c1 ?c2 ?c3 ?c4 ?c5 ?_) | fail)
          case c1 =>
            intro j u hj
            match j, hj with
            | 0, hj => simp at hj; subst hj; simp [Addr.add]
            | 1, hj => simp at hj; subst hj; simp [Addr.add]
            | 2, hj => simp at hj; subst hj; simp [Addr.add]
            | (j + 3), hj => simp at hj
          case c2 => intro u hu; simp at hu; rcases hu with rfl | rfl | rfl <;> rfl
          case c3 => unfold maxLen; omega
          case c4 => omega
          case c5 => have := hL2.hi; simp; omega
          intro v' w3 hown' hgrow _
          have hL3 := (hL2.alloc _).grown (out' := out ++ [⟨0, [], s.size⟩]) h3 (by unfold Toks; rw [tokCells_snoc, List.length_append]; exact hown') hgrow
          clear hown' hgrow hL2 c1
          go_wp2
          refine bodyPost_ret (v := .tuple #[v', .int .i64 0, .int .i64 0]) (by simp [results, Tryz.results83, go_sem]) rfl ?_
          exact ⟨hL3.bel, .inl ⟨_, v', HRR.out.symm, rfl, hL3.own, ⟨by simp; omega, out, rfl, HCH.out.mono (by omega)⟩⟩⟩
        · rw [if_neg (by omega)] at hr1
          have HRR := Lib.hid hr1
          have e1 := eqF (n := b) (k := s.size) (by omega)
          clear hr1
          go_wp2_with fail
          refine (token_any w.heap.size s b _ (by omega) (by omega) hL2.scan hL2.env h3).mono ?_
          rintro e w3 ⟨c, hbc, hc, hS3, hF3, hE3, hres⟩
          have hL3 := hL2.call h3 hS3 hF3
          clear hL2 hS3 hF3 c1
          rcases hres with ⟨k, T, htk, hbc2, hk1, hk5, hTl, rfl⟩ | ⟨htk, K, T, rfl⟩
          · have hr1 := HRR.out
            rw [htk, show s.size - (s.size - b) = b by omega] at hr1
            replace hr1 : (if out.length = 1500 then Lx.Res.err b 8 else Lx.lexGo s.size n (sfx s c) (out ++ [⟨k, T, b⟩])) = Lx.lex s.data.toList := hr1
            have HTO := Lib.hid (tokOk_of htk hbc2 hc hk1 hk5)
            clear HRR htk
            have hL4 := hL3.alloc (.cells #[.int .i64 k, .string ⟨T.toArray⟩, .int .i64 b] 87)
            obtain ⟨oa, oc, rfl⟩ := hL4.own.form
            by_cases h15 : out.length = 1500
            · rw [if_pos h15] at hr1
              have HRR := Lib.hid hr1
              have e2 := eqT (n := out.length) (k := 1500) (by omega)
              clear hr1 hL3
              go_wp2_with fail
              refine wp_region_cuts [] (by kernel_rfl) (by kernel_rfl) ?_; simp only [wpMix, List.take_succ_cons, List.take_zero, List.drop_succ_cons, List.drop_zero, Nat.sub_zero, Nat.reduceSub, Nat.reduceAdd]
              repeat (go_big_quiet_step (fail))
              refine wpQuiet_nil ?_; rintro _ ⟨nq, rfl⟩
              go_wp2
              refine bodyPost_ret (v := .tuple #[.slice none 0 0, .int .i64 b, .int .i64 8]) (by simp [results, Tryz.results83, go_sem]) rfl ?_
              exact ⟨Below.drewN hL4.bel _, .inr ⟨b, 8, HRR.out.symm, rfl, .inr (.inl rfl)⟩⟩
            · rw [if_neg h15] at hr1
              have HRR := Lib.hid hr1
              have e2 := eqF (n := out.length) (k := 1500) (by omega)
              clear hr1
              go_wp2_with (first | (at_builtin; refine wpList_append_own _ rfl _ _ 80 rfl (w.heap.size + 1) 87 i0 (.agg #[.int .i64 0, .string ⟨#[]⟩, .int .i64 0]) 3 32 Tryz.underlying80 hi hz0 hz1 hz2 rfl (by decide) _ _ _ rfl (hL4.alloc _).own ⟨w3.heap.size + 1, 0, none⟩ 1 1 [.int .i64 k, .string ⟨T.toArray⟩, .int .i64 b] rfl rfl ?d1 ?d2 ?d3 ?d4 ?d5 ?_) | fail)
              case d1 =>
                intro j u hj
                match j, hj with
                | 0, hj => simp at hj; subst hj; simp [Addr.add]
                | 1, hj => simp at hj; subst hj; simp [Addr.add]
                | 2, hj => simp at hj; subst hj; simp [Addr.add]
                | (j + 3), hj => simp at hj
              case d2 => intro u hu; simp at hu; rcases hu with rfl | rfl | rfl <;> rfl
              case d3 => unfold maxLen; omega
              case d4 => omega
              case d5 => have := hL4.hi; simp at this; simp; omega
              intro v' w5 hown' hgrow _
              have hL5 := (hL4.alloc _).grown (out' := out ++ [⟨k, T, b⟩]) h3 (by unfold Toks; rw [tokCells_snoc, List.length_append]; exact hown') hgrow
              clear hown' hgrow hL4 hL3
              go_wp2
              go_roundg n
              case measure => omega
              case rel => exact ⟨c, _, hc, by omega, HRR.out, by rw [List.length_append]; simp; omega, (HCH.out.mono hab).snoc HTO.out.1 HTO.out.2, hL5⟩
          · have hr1 := HRR.out
            rw [htk, show s.size - (s.size - b) = b by omega] at hr1
            have HRR := Lib.hid hr1
            clear hr1 htk
            go_wp2_with fail
            refine wp_region_cuts [] (by kernel_rfl) (by kernel_rfl) ?_; simp only [wpMix, List.take_succ_cons, List.take_zero, List.drop_succ_cons, List.drop_zero, Nat.sub_zero, Nat.reduceSub, Nat.reduceAdd]
            repeat (go_big_quiet_step (fail))
            refine wpQuiet_nil ?_; rintro _ ⟨nq, rfl⟩
            go_wp2
            refine bodyPost_ret (v := .tuple #[.slice none 0 0, .int .i64 b, .int .i64 40]) (by simp [results, Tryz.results83, go_sem]) rfl ?_
            exact ⟨Below.drewN (hL3.alloc _).bel _, .inr ⟨b, 40, HRR.out.symm, rfl, .inr (.inr rfl)⟩⟩
end Go.Proofs.YtmgoebfcfgilfaaGreatDoor
namespace Go.Proofs.YtmgoebfcfgilfaaGreatDoor
set_option linter.unusedSimpArgs false
set_option linter.unusedVariables false
open Go Go.RowKit

theorem tokCells_at (ts : List Lx.Tok) : ∀ (i : Nat) (t : Lx.Tok), ts[i]? = some t →
    (tokCells ts)[3 * i]? = some (.int .i64 t.kind) ∧ (tokCells ts)[3 * i + 1]? = some (.string ⟨t.text.toArray⟩) ∧ (tokCells ts)[3 * i + 2]? = some (.int .i64 t.at_) := by
  induction ts with
  | nil => intro i t h; simp at h
  | cons x xs ih =>
    intro i t h
    match i, h with
    | 0, h => simp at h; subst h; simp [tokCells]
    | i + 1, h =>
      simp at h
      have := ih i t h
      have e : tokCells (x :: xs) = .int .i64 x.kind :: .string ⟨x.text.toArray⟩ :: .int .i64 x.at_ :: tokCells xs := by simp [tokCells]
      rw [e, show 3 * (i + 1) = 3 * i + 1 + 1 + 1 by omega]
      exact this

/-- A row of tokens, opened: where it lies. -/
structure TokRow (w : World) (g : Nat) (ts : List Lx.Tok) : Prop where
  lt : g < w.heap.size
  kind : ∀ (i : Nat) (t : Lx.Tok), ts[i]? = some t → w.cell? ⟨g, 3 * i, none⟩ = some (.int .i64 t.kind)
  text : ∀ (i : Nat) (t : Lx.Tok), ts[i]? = some t → w.cell? ⟨g, 3 * i + 1, none⟩ = some (.string ⟨t.text.toArray⟩)
  at_ : ∀ (i : Nat) (t : Lx.Tok), ts[i]? = some t → w.cell? ⟨g, 3 * i + 2, none⟩ = some (.int .i64 t.at_)
theorem TokRow.below {w w' : World} {g : Nat} {ts : List Lx.Tok} (h : TokRow w g ts) (hb : Below w.heap.size w w') : TokRow w' g ts := by
  have e : ∀ k, w'.cell? ⟨g, k, none⟩ = w.cell? ⟨g, k, none⟩ := fun k => World.cell?_of_block (hb.block g h.lt)
  exact ⟨Nat.lt_of_lt_of_le h.lt hb.size, fun i t x => (e _).trans (h.kind i t x), fun i t x => (e _).trans (h.text i t x), fun i t x => (e _).trans (h.at_ i t x)⟩
theorem TokRow.drewN {w : World} {g : Nat} {ts : List Lx.Tok} (h : TokRow w g ts) (n : Nat) : TokRow (w.drewN n) g ts := ⟨h.lt, h.kind, h.text, h.at_⟩
theorem addr_add (g k : Nat) : (⟨g, 0, none⟩ : Addr).add k = ⟨g, k, none⟩ := by
  by_cases h : k = 0
  · subst h; simp [Addr.add]
  · simp [Addr.add, h]
theorem Toks.openRow {w : World} {base : Nat} {v : Value} {ts : List Lx.Tok} (h : Toks w base v ts) (hne : 0 < ts.length) :
    ∃ g cap, v = .slice (some ⟨g, 0, none⟩) ts.length cap ∧ base ≤ g ∧ TokRow w g ts := by
  have hc := fun g => World.ownsRow.cells (g := g) h
  rcases h.2 with ⟨h2, h3⟩ | ⟨g, cap, cur, hv, hg, hcur, h3⟩
  · omega
  · refine ⟨g, cap, hv, hg, heap_lt hcur, ?_, ?_, ?_⟩
    · intro i t ht
      have := hc g (by rw [hv]; rfl) (3 * i) _ (tokCells_at ts i t ht).1
      simpa only [addr_add] using this
    · intro i t ht
      have := hc g (by rw [hv]; rfl) (3 * i + 1) _ (tokCells_at ts i t ht).2.1
      simpa only [addr_add] using this
    · intro i t ht
      have := hc g (by rw [hv]; rfl) (3 * i + 2) _ (tokCells_at ts i t ht).2.2
      simpa only [addr_add] using this

end Go.Proofs.YtmgoebfcfgilfaaGreatDoor
