/-
  The lexer's 'token': its world. The lexer's 'token', walked. The lexer's 'Lex', walked. What the tokens' row holds, cell by cell. Data in memory: trees of numbers, texts, structs and slices; rows that grow. A region that draws its order: a first phase, of operations below n, all of which the later ones wait for. What only reads may be taken first, if all of that phase keeps what it reads. (The kit's OrdersHeld, with the condition asked of the first phase alone.) The reader: how it lies in memory; Peek, Fail, Wrong, Next, walked. The reader: Is, Word, walked. The reader: Take, Want, Name, End, Down, Up, Some, walked.
-/
import Derived.Test.YtabcaljnpahgpaaDoorG4
import Derived.Outline
import Derived.Deep.DeepCutAuto
import Derived.Deep.CutBlock
import Derived.Deep.RegionWith
import Derived.Test.YtabcaljnpahgpaaDoorG1
import Derived.Test.YtabcaljnpahgpaaDoorG3
import Derived.OwnWalk
import Derived.Deep.LoopGhost
import Derived.OrdersHeld
namespace Go.Proofs.YtabcaljnpahgpaaDoor
set_option linter.unusedSimpArgs false
set_option linter.unusedVariables false
open Go Go.RowKit

/-- A block that holds one token. -/
def Tk (w : World) (k : Nat) (K : Int) (T : ByteArray) (A : Int) : Prop := w.heap[k]? = some (.cells #[.int .i64 K, .string T, .int .i64 A] 68 (0, 0))
theorem Tk.c0 {w : World} {k : Nat} {K A : Int} {T : ByteArray} (h : Tk w k K T A) : w.cell? ⟨k, 0, none⟩ = some (.int .i64 K) := by unfold Tk at h; simp [World.cell?, h]
theorem Tk.c1 {w : World} {k : Nat} {K A : Int} {T : ByteArray} (h : Tk w k K T A) : w.cell? ⟨k, 1, none⟩ = some (.string T) := by unfold Tk at h; simp [World.cell?, h]
theorem Tk.c2 {w : World} {k : Nat} {K A : Int} {T : ByteArray} (h : Tk w k K T A) : w.cell? ⟨k, 2, none⟩ = some (.int .i64 A) := by unfold Tk at h; simp [World.cell?, h]
theorem Tk.fz {w : World} {k : Nat} {K A : Int} {T : ByteArray} (h : Tk w k K T A) (i : Nat) : w.frozen? ⟨k, i, none⟩ = false := by unfold Tk at h; simp [World.frozen?, h]
theorem Tk.lt {w : World} {k : Nat} {K A : Int} {T : ByteArray} (h : Tk w k K T A) : k < w.heap.size := heap_lt h
theorem Tk.set0 {w : World} {k : Nat} {K A : Int} {T : ByteArray} (h : Tk w k K T A) (K' : Int) : Tk (w.setCell ⟨k, 0, none⟩ (.int .i64 K')) k K' T A := by
  unfold Tk at *; simp [World.setCell, Array.getElem?_modify, h]
theorem Tk.set1 {w : World} {k : Nat} {K A : Int} {T : ByteArray} (h : Tk w k K T A) (T' : ByteArray) : Tk (w.setCell ⟨k, 1, none⟩ (.string T')) k K T' A := by
  unfold Tk at *; simp [World.setCell, Array.getElem?_modify, h]
theorem Tk.set_other {w : World} {k : Nat} {K A : Int} {T : ByteArray} (h : Tk w k K T A) (p : Addr) (v : Value) (hp : p.block ≠ k) : Tk (w.setCell p v) k K T A := by
  unfold Tk at *; rw [Below.heap_setCell _ _ _ _ (Ne.symm hp)]; exact h

structure TS (w0 : World) (bx : Nat) (s : ByteArray) (b : Nat) (K : Int) (T : ByteArray) (A : Int) (w : World) : Prop where
  scan : Scan w bx s b
  fr : Fr bx w0 w
  env : Env w
  res : Tk w w0.heap.size 0 ⟨#[]⟩ 0
  tok : Tk w (w0.heap.size + 1) K T A
  lo : bx < w0.heap.size
  three : 3 ≤ bx

section
variable {w0 : World} {bx : Nat} {s : ByteArray} {b : Nat} {K : Int} {T : ByteArray} {A : Int} {w : World}
theorem TS.drewN (h : TS w0 bx s b K T A w) (n : Nat) : TS w0 bx s b K T A (w.drewN n) := ⟨h.scan.drewN n, h.fr.drewN n, h.env.drewN n, h.res, h.tok, h.lo, h.three⟩
theorem TS.call {b' : Nat} {w' : World} (h : TS w0 bx s b K T A w) (hs : Scan w' bx s b') (hf : Fr bx w w') : TS w0 bx s b' K T A w' := by
  have l := h.lo
  refine ⟨hs, h.fr.trans hf, h.env.fr hf h.three, ?_, ?_, h.lo, h.three⟩
  · have := h.res; have hl := Tk.lt this; unfold Tk at *; rw [hf.block _ hl (by omega)]; exact this
  · have := h.tok; have hl := Tk.lt this; unfold Tk at *; rw [hf.block _ hl (by omega)]; exact this
theorem TS.below {w' : World} (h : TS w0 bx s b K T A w) (hb : Below w.heap.size w w') : TS w0 bx s b K T A w' := h.call (h.scan.below hb) (But.of_below hb)
theorem TS.kind (h : TS w0 bx s b K T A w) (K' : Int) : TS w0 bx s b K' T A (w.setCell ⟨w0.heap.size + 1, 0, none⟩ (.int .i64 K')) := by
  have l := h.lo
  have hb : But (fun k => k = w0.heap.size + 1) w (w.setCell ⟨w0.heap.size + 1, 0, none⟩ (.int .i64 K')) := But.setCell (X := fun k => k = w0.heap.size + 1) (But.refl _ _) (.inl rfl) _
  refine ⟨h.scan.but hb (by omega), ⟨hb.os.trans h.fr.os, hb.tape.trans h.fr.tape, hb.output.trans h.fr.output, Nat.le_trans h.fr.size hb.size, fun k hk hx => ?_⟩, h.env.but hb (fun k hk => by have := h.three; omega), h.res.set_other _ _ (by simp), h.tok.set0 K', h.lo, h.three⟩
  rw [hb.block k (Nat.lt_of_lt_of_le hk h.fr.size) (by omega)]; exact h.fr.block k hk hx
theorem TS.text (h : TS w0 bx s b K T A w) (T' : ByteArray) : TS w0 bx s b K T' A (w.setCell ⟨w0.heap.size + 1, 1, none⟩ (.string T')) := by
  have l := h.lo
  have hb : But (fun k => k = w0.heap.size + 1) w (w.setCell ⟨w0.heap.size + 1, 1, none⟩ (.string T')) := But.setCell (X := fun k => k = w0.heap.size + 1) (But.refl _ _) (.inl rfl) _
  refine ⟨h.scan.but hb (by omega), ⟨hb.os.trans h.fr.os, hb.tape.trans h.fr.tape, hb.output.trans h.fr.output, Nat.le_trans h.fr.size hb.size, fun k hk hx => ?_⟩, h.env.but hb (fun k hk => by have := h.three; omega), h.res.set_other _ _ (by simp), h.tok.set1 T', h.lo, h.three⟩
  rw [hb.block k (Nat.lt_of_lt_of_le hk h.fr.size) (by omega)]; exact h.fr.block k hk hx
theorem TS.put (h : TS w0 bx s b K T A w) (n : Nat) : TS w0 bx s n K T A (w.setCell ⟨bx, 1, none⟩ (.int .i64 n)) := h.call (h.scan.put n) (Fr.set (But.refl _ _) 1 _)
end
theorem TS.done {w0 : World} {bx : Nat} {s : ByteArray} {b : Nat} {K : Int} {T : ByteArray} {A : Int} {w : World} (h : TS w0 bx s b K T A w) (k : Int) (t : ByteArray) (x : Int) :
    ∃ W, W = ((w.setCell ⟨w0.heap.size, 0, none⟩ (.int .i64 k)).setCell ⟨w0.heap.size, 1, none⟩ (.string t)).setCell ⟨w0.heap.size, 2, none⟩ (.int .i64 x) ∧
      Tk W w0.heap.size k t x ∧ Scan W bx s b ∧ Fr bx w0 W ∧ Env W := by
  refine ⟨_, rfl, ?_⟩
  have l := h.lo
  have hb : But (fun k => k = w0.heap.size) w (((w.setCell ⟨w0.heap.size, 0, none⟩ (.int .i64 k)).setCell ⟨w0.heap.size, 1, none⟩ (.string t)).setCell ⟨w0.heap.size, 2, none⟩ (.int .i64 x)) :=
    But.setCell (X := fun k => k = w0.heap.size) (But.setCell (X := fun k => k = w0.heap.size) (But.setCell (X := fun k => k = w0.heap.size) (But.refl _ _) (.inl rfl) _) (.inl rfl) _) (.inl rfl) _
  refine ⟨?_, h.scan.but hb (by omega), ⟨hb.os.trans h.fr.os, hb.tape.trans h.fr.tape, hb.output.trans h.fr.output, Nat.le_trans h.fr.size hb.size, fun k hk hx => ?_⟩, h.env.but hb (fun k hk => by have := h.three; omega)⟩
  · have hr := h.res
    unfold Tk at *
    simp [World.setCell, Array.getElem?_modify, hr]
  · rw [hb.block k (Nat.lt_of_lt_of_le hk h.fr.size) (by omega)]; exact h.fr.block k hk hx
theorem TS.start {w : World} {bx : Nat} {s : ByteArray} {b : Nat} (hs : Scan w bx s b) (he : Env w) (h3 : 3 ≤ bx) (A : Int) :
    TS w bx s b 0 ⟨#[]⟩ A ((w.alloc (.cells #[.int .i64 0, .string ⟨#[]⟩, .int .i64 0] 68)).alloc (.cells #[.int .i64 0, .string ⟨#[]⟩, .int .i64 A] 68)) := by
  have hb : Below w.heap.size w ((w.alloc (.cells #[.int .i64 0, .string ⟨#[]⟩, .int .i64 0] 68)).alloc (.cells #[.int .i64 0, .string ⟨#[]⟩, .int .i64 A] 68)) := ((Below.refl _ _).alloc (Nat.le_refl _) _).alloc (by simp) _
  refine ⟨hs.below hb, But.of_below hb, he.below hb, ?_, ?_, hs.lt, h3⟩
  · show ((w.heap.push _).push _)[w.heap.size]? = _
    rw [Array.getElem?_push, if_neg (by simp)]
    simp
  · show ((w.heap.push _).push _)[w.heap.size + 1]? = _
    rw [Array.getElem?_push, if_pos (by simp)]
end Go.Proofs.YtabcaljnpahgpaaDoor
namespace Go.Proofs.YtabcaljnpahgpaaDoor
set_option linter.unusedSimpArgs false
set_option linter.unusedVariables false
open Go Go.RowKit


theorem signIdx (c : UInt8) (w : World) :
    Calls Tryd.prog 66 #[.string ⟨#[33, 36, 38, 40, 41, 58, 61, 64, 91, 93, 123, 124, 125]⟩, .int .u8 c.toNat] w fun e w' => e = .returned (.int .i64 (Lib.indexByte Lx.signs c)) ∧ w' = w := by
  refine (Tryd.strings_IndexByte _ _ _).mono ?_
  rintro e w' ⟨rfl, rfl⟩
  refine ⟨?_, rfl⟩
  have h1 : ((c.toNat : Int)).toNat.toUInt8 = c := by simp
  rw [h1]
  rfl
theorem dots3_prefix (l : List UInt8) : Lx.dots3 l = Lib.hasPrefix l [46, 46, 46] := by
  match l with
  | [] => rfl
  | [a] => simp [Lx.dots3, Lib.hasPrefix, List.isPrefixOf]
  | [a, b] => simp [Lx.dots3, Lib.hasPrefix, List.isPrefixOf]
  | a :: b :: c :: t =>
    have e : Lib.hasPrefix (a :: b :: c :: t) [46, 46, 46] = ((46 == a) && ((46 == b) && ((46 == c) && true))) := rfl
    have e2 : Lx.dots3 (a :: b :: c :: t) = decide ([a, b, c] = [46, 46, 46]) := rfl
    rw [e, e2]
    by_cases h1 : a = 46
    · by_cases h2 : b = 46
      · by_cases h3 : c = 46
        · subst h1 h2 h3; decide
        · simp [h1, h2, h3, Ne.symm h3]
      · simp [h1, h2, Ne.symm h2]
    · simp [h1, Ne.symm h1]
theorem dots3_len {l : List UInt8} (h : Lx.dots3 l = true) : 3 ≤ l.length := by
  unfold Lx.dots3 at h
  have h1 := congrArg List.length (of_decide_eq_true h)
  rw [List.length_take] at h1
  simp at h1; omega

theorem extract_between (s : ByteArray) (a b : Nat) : s.extract a b = ⟨((sfx s a).take (b - a)).toArray⟩ := by
  have h : (s.extract a b).data = ((sfx s a).take (b - a)).toArray := by
    apply Array.ext'
    simp only [ByteArray.data_extract, Array.toList_extract, sfx, List.extract_eq_take_drop]
  cases h' : s.extract a b
  simp_all
/-- What 'token' leaves. -/
def TokPost (bx : Nat) (s : ByteArray) (a : Nat) (w : World) (e : Ending) (w' : World) : Prop :=
  ∃ b, a ≤ b ∧ b ≤ s.size ∧ Scan w' bx s b ∧ Fr bx w w' ∧ Env w' ∧
    ((∃ (k : Nat) (T : List UInt8), Lx.token (sfx s a) = some (k, T, sfx s b) ∧ a < b ∧ 1 ≤ k ∧ k ≤ 5 ∧ T.length ≤ 1000000000 ∧ e = .returned (.tuple #[.agg #[.int .i64 k, .string ⟨T.toArray⟩, .int .i64 a], .bool true])) ∨
     (Lx.token (sfx s a) = none ∧ ∃ K T, e = .returned (.tuple #[.agg #[.int .i64 K, .string T, .int .i64 a], .bool false])))

/-- Behind the switch. -/
def Mid (bx : Nat) (s : ByteArray) (a : Nat) (w : World) (ok : Bool) (wx : World) : Prop :=
  ∃ (b : Nat) (K : Nat) (T : List UInt8), a ≤ b ∧ b ≤ s.size ∧ TS w bx s b K ⟨T.toArray⟩ a wx ∧
    ((ok = true ∧ K = 4 ∧ Lx.token (sfx s a) = some (4, T, sfx s b) ∧ a < b ∧ T.length ≤ 1000000000) ∨
     (ok = true ∧ K ≠ 4 ∧ 1 ≤ K ∧ K ≤ 5 ∧ T = [] ∧ a < b ∧ Lx.token (sfx s a) = some (K, (sfx s a).take (b - a), sfx s b)) ∨
     (ok = false ∧ Lx.token (sfx s a) = none))

set_option maxHeartbeats 8000000 in
set_option maxRecDepth 100000 in
theorem token_any (bx : Nat) (s : ByteArray) (a : Nat) (w : World) (hs : s.size ≤ 4096) (hat : a < s.size) (h : Scan w bx s a) (hE : Env w) (h3 : 3 ≤ bx) :
    Calls Tryd.prog 47 #[.pointer (some ⟨bx, 0, none⟩)] w (TokPost bx s a w) := by
  have hT0 := TS.start h hE h3 (a : Int)
  have c0 := h.c0; have c1 := h.c1; have hbl := h.lt
  have hbn : bx ≠ w.heap.size := by omega
  have HT0 := Lib.hid hT0
  clear hT0
  go_enter Tryd.func47, Tryd.ntmps47
  go_wp2_with fail
  refine (peek0_any bx s a _ hs (by omega) HT0.out.scan).mono ?_
  rintro e w1 ⟨rfl, n1, hw1⟩
  have hT := HT0.out.drewN n1
  rw [← hw1] at hT
  clear hw1 HT0 c0 c1 h hE
  go_upto_block 0 with (fail)
  go_cut [6] (fun s6 wx => ∃ ok : Bool, s6 = .bool ok ∧ Mid bx s a w ok wx)
  case first =>
    have t0 := hT.tok.c0; have f0 := hT.tok.fz 0; have t1 := hT.tok.c1; have f1 := hT.tok.fz 1
    have c0 := hT.scan.c0; have c1 := hT.scan.c1; have g1 := hT.scan.f1
    have hne : w.heap.size + 1 ≠ bx := by omega
    have hn1 : w.heap.size + 1 < w1.heap.size := hT.tok.lt
    have HH := Lib.hid (hd_sfx s a)
    have hlt : a + 1 ≤ s.size := hat
    have HC := Lib.hid (sfx_cons s a hat)
    have hxs := extract_sfx s a
    cases hlet : Lx.isLetter (bt s a)
    · have HLE := Lib.hid hlet
      clear hlet
      have htok1 : Lx.token (sfx s a) = if (bt s a).toNat = 45 ∨ Lx.isDigit (bt s a) = true then (Lx.number (sfx s a)).map fun p => (p.1, (sfx s a).take ((sfx s a).length - p.2.length), p.2)
          else if Lx.quotes3 (sfx s a) then (Lx.block [] (sfx s (a + 3))).map fun p => (4, Lx.dedent p.1, p.2)
          else if (bt s a).toNat = 34 then (Lx.text [] (sfx s (a + 1))).map fun p => (4, p.1, p.2)
          else if Lx.dots3 (sfx s a) then some (5, (sfx s a).take 3, sfx s (a + 3))
          else if (bt s a).toNat ≠ 0 ∧ Lx.signs.contains (bt s a) = true then some (5, (sfx s a).take 1, sfx s (a + 1))
          else none := by
        unfold Lx.token
        rw [HH.out, HLE.out, if_neg Bool.false_ne_true, sfx_drop, sfx_drop]
      by_cases hnum : (bt s a).toNat = 45 ∨ Lx.isDigit (bt s a) = true
      · rw [if_pos hnum] at htok1
        have HTK := Lib.hid htok1
        clear htok1
        have hcase : ((((bt s a).toNat : Int) == 45) = true) ∨ ((((bt s a).toNat : Int) == 45) = false ∧ Hid (Lx.isDigit (bt s a) = true)) := by
          by_cases h45 : (bt s a).toNat = 45
          · exact .inl (eqT (by omega))
          · exact .inr ⟨eqF (by omega), hnum.resolve_left h45⟩
        clear hnum
        rcases hcase with e1 | ⟨e1, HDI⟩
        all_goals
          go_wp2_with (first | (go_at_call 59; refine (letter_any _ _).mono ?_; rintro e w' ⟨rfl, hw'⟩; obtain rfl := hw'.symm; rw [HLE.out]) | (go_at_call 62; refine (digit_any _ _).mono ?_; rintro e w' ⟨rfl, hw'⟩; obtain rfl := hw'.symm; rw [HDI.out]) | fail)
          refine (number_any bx s a _ hs (by omega) hT.scan).mono ?_
          rintro e w2 ⟨b, hab, hb, hS2, hF2, hres⟩
          have hT2 := hT.call hS2 hF2
          clear t0 f0 t1 f1 c0 c1 g1 e1
          have t0 := hT2.tok.c0; have f0 := hT2.tok.fz 0
          rcases hres with ⟨k, hnu, hk, rfl⟩ | ⟨hnu, rfl⟩
          · have hsh := Lx.number_shorter hnu
            have HNU := Lib.hid hnu
            clear hnu
            have hsh2 : a < b := by rw [sfx_len, sfx_len] at hsh; omega
            have hk0 : 0 < k := by omega
            have hkd : decide (0 < k) = true := by simpa using hk0
            clear hsh
            go_wp2_with fail
            go_meet
            refine ⟨true, rfl, b, k, [], hab, hb, hT2.kind k, .inr (.inl ⟨rfl, by omega, by omega, by omega, rfl, hsh2, ?_⟩)⟩
            rw [HTK.out, HNU.out, Option.map_some, sfx_len, sfx_len, show s.size - a - (s.size - b) = b - a by omega]
          · have HNU := Lib.hid hnu
            clear hnu
            go_wp2_with fail
            go_meet
            refine ⟨false, rfl, b, 0, [], hab, hb, hT2.kind 0, .inr (.inr ⟨rfl, ?_⟩)⟩
            rw [HTK.out, HNU.out, Option.map_none]
      · rw [if_neg hnum] at htok1
        have e1 := eqF (n := (bt s a).toNat) (k := 45) (by omega)
        have HDI : Hid (Lx.isDigit (bt s a) = false) := by
          show _ = _
          cases hh : Lx.isDigit (bt s a)
          · rfl
          · exact absurd (.inr hh) hnum
        clear hnum
        cases hq : Lx.quotes3 (sfx s a)
        · rw [hq, if_neg Bool.false_ne_true] at htok1
          have HP : Hid (Lib.hasPrefix (sfx s a) [34, 34, 34] = false) := by rw [← quotes3_prefix]; exact hq
          clear hq
          by_cases h34 : (bt s a).toNat = 34
          · rw [if_pos h34] at htok1
            have e2 := eqT (n := (bt s a).toNat) (k := 34) (by omega)
            have HTK := Lib.hid htok1
            clear htok1 h34
            go_wp2_with (first | (go_at_call 59; refine (letter_any _ _).mono ?_; rintro e w' ⟨rfl, hw'⟩; obtain rfl := hw'.symm; rw [HLE.out]) | (go_at_call 62; refine (digit_any _ _).mono ?_; rintro e w' ⟨rfl, hw'⟩; obtain rfl := hw'.symm; rw [HDI.out]) | (go_at_call 56; refine (prefix_sfx s a [34, 34, 34] _).mono ?_; rintro e w' ⟨rfl, hw'⟩; obtain rfl := hw'.symm; rw [HP.out]) | fail)
            refine (text_any bx s a _ hs hat (hT.kind 4).scan (hT.kind 4).env (hT.kind 4).three).mono ?_
            rintro e w2 ⟨b, hab, hb, hS2, hF2, hE2, hres⟩
            have hT2 := (hT.kind 4).call hS2 hF2
            clear t0 f0 t1 f1 c0 c1 g1 e1 e2
            have t1 := hT2.tok.c1; have f1 := hT2.tok.fz 1
            rcases hres with ⟨m, htx, hml, rfl⟩ | ⟨htx, rfl⟩
            · have HTX := Lib.hid htx
              clear htx
              go_wp2_with fail
              go_meet
              exact ⟨true, rfl, b, 4, m, by omega, hb, hT2.text _, .inl ⟨rfl, rfl, by rw [HTK.out, HTX.out, Option.map_some], by omega, by omega⟩⟩
            · have HTX := Lib.hid htx
              clear htx
              go_wp2_with fail
              go_meet
              exact ⟨false, rfl, b, 4, [], by omega, hb, hT2.text _, .inr (.inr ⟨rfl, by rw [HTK.out, HTX.out, Option.map_none]⟩)⟩
          · rw [if_neg h34] at htok1
            have e2 := eqF (n := (bt s a).toNat) (k := 34) (by omega)
            clear h34
            cases hd3 : Lx.dots3 (sfx s a)
            · rw [hd3, if_neg Bool.false_ne_true] at htok1
              have HP2 : Hid (Lib.hasPrefix (sfx s a) [46, 46, 46] = false) := by rw [← dots3_prefix]; exact hd3
              clear hd3
              have hsi := signIdx (bt s a)
              have hsc := Lx.index_signs (bt s a) Lx.signs
              generalize Lib.indexByte Lx.signs (bt s a) = kk at hsi hsc
              have HI := Lib.hid hsi
              clear hsi
              by_cases hsg : (bt s a).toNat ≠ 0 ∧ Lx.signs.contains (bt s a) = true
              · rw [if_pos hsg] at htok1
                have HTK := Lib.hid htok1
                have e3 := neT (n := (bt s a).toNat) (k := 0) (by omega)
                have e4 : decide (0 ≤ kk) = true := by simpa using hsc.2 hsg.2
                clear htok1 hsc hsg
                go_wp2_with (first | (go_at_call 59; refine (letter_any _ _).mono ?_; rintro e w' ⟨rfl, hw'⟩; obtain rfl := hw'.symm; rw [HLE.out]) | (go_at_call 62; refine (digit_any _ _).mono ?_; rintro e w' ⟨rfl, hw'⟩; obtain rfl := hw'.symm; rw [HDI.out]) | (go_at_call 66; refine (HI.out _).mono ?_; rintro e w' ⟨rfl, hw'⟩; obtain rfl := hw'.symm) | (go_at_call_of 56 (Value.string ⟨#[34, 34, 34]⟩); refine (prefix_sfx s a [34, 34, 34] _).mono ?_; rintro e w' ⟨rfl, hw'⟩; obtain rfl := hw'.symm; rw [HP.out]) | (go_at_call 56; refine (prefix_sfx s a [46, 46, 46] _).mono ?_; rintro e w' ⟨rfl, hw'⟩; obtain rfl := hw'.symm; rw [HP2.out]) | fail)
                go_meet
                exact ⟨true, rfl, a + 1, 5, [], by omega, hlt, (hT.kind 5).put (a + 1), .inr (.inl ⟨rfl, by omega, by omega, by omega, rfl, by omega, by rw [HTK.out, show a + 1 - a = 1 by omega]⟩)⟩
              · rw [if_neg hsg] at htok1
                have HTK := Lib.hid htok1
                have hcase : ((((bt s a).toNat : Int) != 0) = false) ∨ ((((bt s a).toNat : Int) != 0) = true ∧ decide (0 ≤ kk) = false) := by
                  by_cases h0 : (bt s a).toNat = 0
                  · exact .inl (neF (by omega))
                  · refine .inr ⟨neT (by omega), ?_⟩
                    have : ¬ 0 ≤ kk := fun h => hsg ⟨h0, hsc.1 h⟩
                    simpa using this
                have t2 := hT.tok.c2
                have r0 := hT.res.c0; have r1 := hT.res.c1; have r2 := hT.res.c2
                have q0 := hT.res.fz 0; have q1 := hT.res.fz 1; have q2 := hT.res.fz 2
                clear htok1 hsc hsg
                rcases hcase with e3 | ⟨e3, e4⟩
                all_goals
                  go_wp2_with (first | (go_at_call 59; refine (letter_any _ _).mono ?_; rintro e w' ⟨rfl, hw'⟩; obtain rfl := hw'.symm; rw [HLE.out]) | (go_at_call 62; refine (digit_any _ _).mono ?_; rintro e w' ⟨rfl, hw'⟩; obtain rfl := hw'.symm; rw [HDI.out]) | (go_at_call 66; refine (HI.out _).mono ?_; rintro e w' ⟨rfl, hw'⟩; obtain rfl := hw'.symm) | (go_at_call_of 56 (Value.string ⟨#[34, 34, 34]⟩); refine (prefix_sfx s a [34, 34, 34] _).mono ?_; rintro e w' ⟨rfl, hw'⟩; obtain rfl := hw'.symm; rw [HP.out]) | (go_at_call 56; refine (prefix_sfx s a [46, 46, 46] _).mono ?_; rintro e w' ⟨rfl, hw'⟩; obtain rfl := hw'.symm; rw [HP2.out]) | fail)
                  try simp only [Exit.inBlock, Exit.then]
                  obtain ⟨W3, hW3, hk3, hs3, hf3, he3⟩ := TS.done hT 0 ⟨#[]⟩ a
                  rw [← hW3]
                  clear hW3
                  have d0 := hk3.c0; have d1 := hk3.c1; have d2 := hk3.c2
                  refine bodyPost_ret (v := .tuple #[.agg #[.int .i64 0, .string ⟨#[]⟩, .int .i64 a], .bool false]) (by simp [results, Tryd.results47, go_sem, d0, d1, d2]) rfl ?_
                  exact ⟨a, Nat.le_refl _, by omega, hs3, hf3, he3, .inr ⟨HTK.out, _, _, rfl⟩⟩
            · rw [hd3, if_pos rfl] at htok1
              have HP2 : Hid (Lib.hasPrefix (sfx s a) [46, 46, 46] = true) := by rw [← dots3_prefix]; exact hd3
              have hd4 := dots3_len hd3
              rw [sfx_len] at hd4
              have HTK := Lib.hid htok1
              clear hd3 htok1
              go_wp2_with (first | (go_at_call 59; refine (letter_any _ _).mono ?_; rintro e w' ⟨rfl, hw'⟩; obtain rfl := hw'.symm; rw [HLE.out]) | (go_at_call 62; refine (digit_any _ _).mono ?_; rintro e w' ⟨rfl, hw'⟩; obtain rfl := hw'.symm; rw [HDI.out]) | (go_at_call_of 56 (Value.string ⟨#[34, 34, 34]⟩); refine (prefix_sfx s a [34, 34, 34] _).mono ?_; rintro e w' ⟨rfl, hw'⟩; obtain rfl := hw'.symm; rw [HP.out]) | (go_at_call 56; refine (prefix_sfx s a [46, 46, 46] _).mono ?_; rintro e w' ⟨rfl, hw'⟩; obtain rfl := hw'.symm; rw [HP2.out]) | fail)
              go_meet
              exact ⟨true, rfl, a + 3, 5, [], by omega, by omega, (hT.kind 5).put (a + 3), .inr (.inl ⟨rfl, by omega, by omega, by omega, rfl, by omega, by rw [HTK.out, show a + 3 - a = 3 by omega]⟩)⟩
        · rw [hq, if_pos rfl] at htok1
          have hq3 := quotes3_len hq
          rw [sfx_len] at hq3
          have HP : Hid (Lib.hasPrefix (sfx s a) [34, 34, 34] = true) := by rw [← quotes3_prefix]; exact hq
          have HTK := Lib.hid htok1
          clear hq htok1
          go_wp2_with (first | (go_at_call 59; refine (letter_any _ _).mono ?_; rintro e w' ⟨rfl, hw'⟩; obtain rfl := hw'.symm; rw [HLE.out]) | (go_at_call 62; refine (digit_any _ _).mono ?_; rintro e w' ⟨rfl, hw'⟩; obtain rfl := hw'.symm; rw [HDI.out]) | (go_at_call 56; refine (prefix_sfx s a [34, 34, 34] _).mono ?_; rintro e w' ⟨rfl, hw'⟩; obtain rfl := hw'.symm; rw [HP.out]) | fail)
          refine (block_any bx s a _ hs (by omega) (hT.kind 4).scan (hT.kind 4).env (hT.kind 4).three).mono ?_
          rintro e w2 ⟨b, hab, hb, hS2, hF2, hE2, hres⟩
          have hT2 := (hT.kind 4).call hS2 hF2
          clear t0 f0 t1 f1 c0 c1 g1 e1
          have t1 := hT2.tok.c1; have f1 := hT2.tok.fz 1
          rcases hres with ⟨m, htx, hml, rfl⟩ | ⟨htx, rfl⟩
          · have HTX := Lib.hid htx
            clear htx
            go_wp2_with fail
            go_meet
            exact ⟨true, rfl, b, 4, Lx.dedent m, by omega, hb, hT2.text _, .inl ⟨rfl, rfl, by rw [HTK.out, HTX.out, Option.map_some], by omega, Lx.dedent_len m (by omega)⟩⟩
          · have HTX := Lib.hid htx
            clear htx
            go_wp2_with fail
            go_meet
            exact ⟨false, rfl, b, 4, [], by omega, hb, hT2.text _, .inr (.inr ⟨rfl, by rw [HTK.out, HTX.out, Option.map_none]⟩)⟩
    · have HLE := Lib.hid hlet
      clear hlet
      go_wp2_with (first | (go_at_call 59; refine (letter_any _ _).mono ?_; rintro e w' ⟨rfl, hw'⟩; obtain rfl := hw'.symm; rw [HLE.out]) | fail)
      refine (while_word bx s a _ hs (by omega) (hT.kind 1).scan).mono ?_
      rintro e w2 ⟨b, hab, hb, hdw, rfl, hS2, hF2⟩
      have hT2 := (hT.kind 1).call hS2 hF2
      have hab2 : a < b := by
        have h1 := congrArg List.length hdw
        have h2 := Lx.dropWhile_le Lx.isWord (sfx s (a + 1))
        rw [HC.out, List.dropWhile_cons, show isWord (bt s a) = true by simp [Lx.isWord, HLE.out], if_pos rfl, sfx_len] at h1
        rw [sfx_len] at h2
        have h3 : (List.dropWhile Lx.isWord (sfx s (a + 1))).length = (List.dropWhile isWord (sfx s (a + 1))).length := rfl
        omega
      have HDW := Lib.hid hdw
      clear hdw
      go_wp2_with fail
      go_meet
      refine ⟨true, rfl, b, 1, [], hab, hb, hT2, .inr (.inl ⟨rfl, by decide, by decide, by decide, rfl, hab2, ?_⟩)⟩
      unfold Lx.token
      have h1 : (sfx s a).dropWhile Lx.isWord = sfx s b := HDW.out.symm
      rw [HH.out, if_pos HLE.out, h1, sfx_len, sfx_len, show s.size - a - (s.size - b) = b - a by omega]
  case rest =>
    obtain ⟨ok, rfl, b, K, T, hab, hb, hT2, hcase⟩ := hcut
    clear hT
    have t0 := hT2.tok.c0; have t1 := hT2.tok.c1; have t2 := hT2.tok.c2; have f1 := hT2.tok.fz 1
    have r0 := hT2.res.c0; have r1 := hT2.res.c1; have r2 := hT2.res.c2
    have q0 := hT2.res.fz 0; have q1 := hT2.res.fz 1; have q2 := hT2.res.fz 2
    have hne : w.heap.size + 1 ≠ bx := by omega
    have c0 := hT2.scan.c0; have c1 := hT2.scan.c1
    rcases hcase with ⟨rfl, rfl, htk, hab2, hTl⟩ | ⟨rfl, hK, hK1, hK5, rfl, hab2, htk⟩ | ⟨rfl, htk⟩
    · have HTK := Lib.hid htk
      clear htk
      go_wp2
      try simp only [Exit.inBlock, Exit.then]
      obtain ⟨W3, hW3, hk3, hs3, hf3, he3⟩ := TS.done hT2 4 ⟨T.toArray⟩ a
      rw [← hW3]
      clear hW3
      have d0 := hk3.c0; have d1 := hk3.c1; have d2 := hk3.c2
      refine bodyPost_ret (v := .tuple #[.agg #[.int .i64 4, .string ⟨T.toArray⟩, .int .i64 a], .bool true]) (by simp [results, Tryd.results47, go_sem, d0, d1, d2]) rfl ?_
      exact ⟨b, hab, hb, hs3, hf3, he3, .inl ⟨4, T, HTK.out, hab2, by omega, by omega, hTl, rfl⟩⟩
    · have HTK := Lib.hid htk
      have e1 := neT (n := K) (k := 4) (by omega)
      have hx : s.extract a b = ⟨((sfx s a).take (b - a)).toArray⟩ := extract_between s a b
      have HK := Lib.hid hK
      have ha0 : (0 : Int) ≤ (a : Int) := by omega
      have ha1 : (a : Int) ≤ (b : Int) := by omega
      have ha2 : (b : Int) ≤ s.size := by omega
      clear htk hK
      go_wp2
      refine wp_region_cuts [11] (by kernel_rfl) (by kernel_rfl) ?_; simp only [wpMix, List.take_succ_cons, List.take_zero, List.drop_succ_cons, List.drop_zero, Nat.sub_zero, Nat.reduceSub, Nat.reduceAdd]
      repeat (go_big_quiet_step (fail))
      refine wpQuiet_nil ?_; rintro _ ⟨nq, rfl⟩
      go_wp2
      repeat (go_big_quiet_step (fail))
      refine wpQuiet_nil ?_; rintro _ ⟨nq, rfl⟩
      go_wp2
      have hT3 : ∀ n m : Nat, TS w bx s b K ⟨((sfx s a).take (b - a)).toArray⟩ a (((wc.drewN n).setCell ⟨w.heap.size + 1, 1, none⟩ (.string ⟨((sfx s a).take (b - a)).toArray⟩)).drewN m) := fun n m => ((hT2.drewN n).text _).drewN m
      try simp only [Exit.inBlock, Exit.then]
      obtain ⟨W3, hW3, hk3, hs3, hf3, he3⟩ := TS.done (hT3 _ _) K ⟨((sfx s a).take (b - a)).toArray⟩ a
      rw [← hW3]
      clear hW3
      have d0 := hk3.c0; have d1 := hk3.c1; have d2 := hk3.c2
      refine bodyPost_ret (v := .tuple #[.agg #[.int .i64 K, .string ⟨((sfx s a).take (b - a)).toArray⟩, .int .i64 a], .bool true]) (by simp [results, Tryd.results47, go_sem, d0, d1, d2]) rfl ?_
      exact ⟨b, hab, hb, hs3, hf3, he3, .inl ⟨K, (sfx s a).take (b - a), HTK.out, hab2, hK1, hK5, by rw [List.length_take]; omega, rfl⟩⟩
    · have HTK := Lib.hid htk
      clear htk
      go_wp2
      try simp only [Exit.inBlock, Exit.then]
      obtain ⟨W3, hW3, hk3, hs3, hf3, he3⟩ := TS.done hT2 K ⟨T.toArray⟩ a
      rw [← hW3]
      clear hW3
      have d0 := hk3.c0; have d1 := hk3.c1; have d2 := hk3.c2
      refine bodyPost_ret (v := .tuple #[.agg #[.int .i64 K, .string ⟨T.toArray⟩, .int .i64 a], .bool false]) (by simp [results, Tryd.results47, go_sem, d0, d1, d2]) rfl ?_
      exact ⟨b, hab, hb, hs3, hf3, he3, .inr ⟨HTK.out, _, _, rfl⟩⟩
end Go.Proofs.YtabcaljnpahgpaaDoor
namespace Go.Proofs.YtabcaljnpahgpaaDoor
set_option linter.unusedSimpArgs false
set_option linter.unusedVariables false
open Go Go.RowKit

/-- The tokens' cells. -/
def tokCells (ts : List Lx.Tok) : List Value := ts.flatMap fun t => [.int .i64 t.kind, .string ⟨t.text.toArray⟩, .int .i64 t.at_]
/-- The slice that 'Lex' answers with holds these tokens, in blocks from 'base' on. -/
def Toks (w : World) (base : Nat) (v : Value) (ts : List Lx.Tok) : Prop := w.ownsRow base 68 3 v ts.length (tokCells ts)

theorem Toks.but {w w' : World} {base : Nat} {v : Value} {ts : List Lx.Tok} {X : Nat → Prop} (h : Toks w base v ts) (hb : But X w w') (hX : ∀ k, X k → k < base) : Toks w' base v ts := by
  refine ⟨h.1, ?_⟩
  rcases h.2 with h2 | ⟨g, cap, cur, hv, hg, hc, h3⟩
  · exact .inl h2
  · refine .inr ⟨g, cap, cur, hv, hg, ?_, h3⟩
    rw [hb.block g (heap_lt hc) (fun x => by have := hX _ x; omega)]
    exact hc
theorem Toks.below {w w' : World} {base : Nat} {v : Value} {ts : List Lx.Tok} (h : Toks w base v ts) (hb : Below w.heap.size w w') : Toks w' base v ts := h.but (X := fun _ => False) (But.of_below hb) (fun _ f => f.elim)
theorem tokCells_snoc (ts : List Lx.Tok) (t : Lx.Tok) : tokCells (ts ++ [t]) = tokCells ts ++ [.int .i64 t.kind, .string ⟨t.text.toArray⟩, .int .i64 t.at_] := by simp [tokCells]

theorem infoTok : (Tryd.prog.info? 68).map (fun i => (i.zero, i.size, i.bytes)) = some (some (.agg #[.int .i64 0, .string ⟨#[]⟩, .int .i64 0]), 3, 32) := by kernel_rfl

/-- What 'Lex' leaves. -/
def LexPost (s : ByteArray) (w : World) (e : Ending) (w' : World) : Prop :=
  Below w.heap.size w w' ∧
  ((∃ ts v, Lx.lex s.data.toList = .ok ts ∧ e = .returned (.tuple #[v, .int .i64 0, .int .i64 0]) ∧ Toks w' (w.heap.size + 1) v ts ∧ Std s ts) ∨
   (∃ a c : Nat, Lx.lex s.data.toList = .err a c ∧ e = .returned (.tuple #[.slice none 0 0, .int .i64 a, .int .i64 c]) ∧ (c = 5 ∨ c = 8 ∨ c = 40)))

/-- A round's world. -/
structure LS (w0 : World) (s : ByteArray) (a : Nat) (v : Value) (out : List Lx.Tok) (w : World) : Prop where
  scan : Scan w w0.heap.size s a
  env : Env w
  own : Toks w (w0.heap.size + 1) v out
  bel : Below w0.heap.size w0 w
  hi : w0.heap.size + 1 ≤ w.heap.size
theorem LS.call {w0 w w' : World} {s : ByteArray} {a b : Nat} {v : Value} {out : List Lx.Tok} (h : LS w0 s a v out w) (h3 : 3 ≤ w0.heap.size) (hs : Scan w' w0.heap.size s b) (hf : Fr w0.heap.size w w') : LS w0 s b v out w' := by
  refine ⟨hs, h.env.fr hf h3, h.own.but hf (fun k hk => by omega), ?_, Nat.le_trans h.hi hf.size⟩
  exact h.bel.trans ⟨hf.os, hf.tape, hf.output, Nat.le_trans (by have := h.hi; omega) hf.size, fun k hk => hf.block k (by have := h.hi; omega) (by omega)⟩
theorem LS.drewN {w0 w : World} {s : ByteArray} {a : Nat} {v : Value} {out : List Lx.Tok} (h : LS w0 s a v out w) (n : Nat) : LS w0 s a v out (w.drewN n) :=
  ⟨h.scan.drewN n, h.env.drewN n, h.own, Below.drewN h.bel n, h.hi⟩
theorem LS.alloc {w0 w : World} {s : ByteArray} {a : Nat} {v : Value} {out : List Lx.Tok} (h : LS w0 s a v out w) (o : Obj) : LS w0 s a v out (w.alloc o) := by
  have hb : Below w.heap.size w (w.alloc o) := (Below.refl _ _).alloc (Nat.le_refl _) _
  exact ⟨h.scan.below hb, h.env.below hb, h.own.below hb, h.bel.trans (hb.mono (by have := h.hi; omega)), Nat.le_trans h.hi hb.size⟩
theorem LS.grown {w0 w w' : World} {s : ByteArray} {a : Nat} {v v' : Value} {out out' : List Lx.Tok} (h : LS w0 s a v out w) (h3 : 3 ≤ w0.heap.size) (ho : Toks w' (w0.heap.size + 1) v' out') (hg : w.grownBy w' v.ownBlock) : LS w0 s a v' out' w' := by
  have hlt : ∀ k, v.ownBlock = some k → w0.heap.size + 1 ≤ k := fun k hk => (World.ownsRow.lt h.own k hk).1
  have hb : But (fun k => v.ownBlock = some k) w w' := ⟨hg.os, hg.tape, hg.output, hg.size, fun k hk hx => hg.block k hk (fun e => hx e.symm)⟩
  refine ⟨h.scan.but hb (fun x => by have := hlt _ x; omega), ?_, ho, ?_, Nat.le_trans h.hi hg.size⟩
  · have hE := h.env
    obtain ⟨⟨h1, h2⟩, m, h4⟩ := hE
    refine Env.but ⟨⟨h1, h2⟩, m, h4⟩ hb (fun k hk => by have := hlt _ hk; omega)
  · exact h.bel.trans ⟨hg.os, hg.tape, hg.output, Nat.le_trans (by have := h.hi; omega) hg.size, fun k hk => hb.block k (by have := h.hi; omega) (fun x => by have := hlt _ x; omega)⟩

theorem Toks.form {w : World} {base : Nat} {v : Value} {ts : List Lx.Tok} (h : Toks w base v ts) : ∃ a c, v = .slice a ts.length c := by
  rcases h.2 with ⟨h2, h3⟩ | ⟨g, cap, cur, hv, hg, hc, h3⟩
  · exact ⟨none, 0, by rw [h3]; exact h2⟩
  · exact ⟨_, _, hv⟩

set_option maxHeartbeats 1000000 in
set_option maxRecDepth 100000 in
theorem lex_any (s : ByteArray) (w : World) (hs : s.size ≤ 9223372036854775807) (hE : Env w) (h3 : 3 ≤ w.heap.size) :
    Calls Tryd.prog 23 #[.string s] w (LexPost s w) := by
  obtain ⟨i0, hi, hz0, hz1, hz2⟩ := info_parts infoTok
  go_enter Tryd.func23, Tryd.ntmps23
  have hi0 : (0 : Int) ≤ (s.size : Int) := Int.natCast_nonneg _
  have hlen : s.data.toList.length = s.size := rfl
  by_cases hbig : 4096 < s.size
  · go_wp2_with fail
    refine bodyPost_ret (v := .tuple #[.slice none 0 0, .int .i64 0, .int .i64 5]) (by simp [results, Tryd.results23, go_sem]) rfl ?_
    exact ⟨Below.refl _ _, .inr ⟨0, 5, by unfold Lx.lex; rw [if_pos (by omega)], rfl, .inl rfl⟩⟩
  · have hst : LS w s 0 (.slice none 0 0) [] (w.alloc (.cells #[.string s, .int .i64 0] 102)) := by
      have hb : Below w.heap.size w (w.alloc (.cells #[.string s, .int .i64 0] 102)) := (Below.refl _ _).alloc (Nat.le_refl _) _
      refine ⟨?_, hE.below hb, World.ownsRow_nil _ _ _ _, hb, by simp⟩
      show (w.heap.push _)[w.heap.size]? = _
      simp
    have hR : Lx.lexGo s.size (s.size + 1) (sfx s 0) [] = Lx.lex s.data.toList := by
      unfold Lx.lex; rw [if_neg (by omega), sfx_all, hlen]
    have HST := Lib.hid hst
    have HR := Lib.hid hR
    clear hst hR hlen
    go_wp2_with fail
    go_loopg [6, 7, 8] (s.size + 1) (fun k s6 _ _ wr => ∃ a out, a ≤ s.size ∧ s.size < k + a ∧ Lx.lexGo s.size k (sfx s a) out = Lx.lex s.data.toList ∧ out.length ≤ 1500 ∧ Chain s 0 out a ∧ LS w s a s6 out wr)
    case atStart => exact ⟨0, [], Nat.zero_le _, by omega, HR.out, by simp, Nat.le_refl _, HST.out⟩
    case round =>
      obtain ⟨a, out, ha, hk, hR, hol, hch, hL⟩ := hrel
      have HCH := Lib.hid hch
      have HR := Lib.hid hR
      clear hR HST hch
      go_wp2_with fail
      refine (gap_any w.heap.size s a wr (by omega) ha hL.scan hL.env h3).mono ?_
      rintro e w2 ⟨b, r, hab, hb, hgap, rfl, hS2, hF2⟩
      have hL2 := hL.call h3 hS2 hF2
      clear hL
      obtain ⟨n, rfl⟩ : ∃ n, gk = n + 1 := ⟨gk - 1, by omega⟩
      have hd0 : decide ((sfx s a).length = s.size) = decide (a = 0) := by
        rw [sfx_len]; by_cases h0 : a = 0 <;> simp [h0]; omega
      have c1 := hL2.scan.c1
      have hr1 := HR.out
      rw [Lx.lexGo, hd0, hgap, sfx_len] at hr1
      clear HR hd0 hgap hS2 hF2
      cases r
      · rw [if_pos rfl, show s.size - (s.size - b) = b by omega] at hr1
        have HRR := Lib.hid hr1
        clear hr1
        go_wp2_with fail
        refine wp_region_cuts [] (by kernel_rfl) (by kernel_rfl) ?_; simp only [wpMix, List.take_succ_cons, List.take_zero, List.drop_succ_cons, List.drop_zero, Nat.sub_zero, Nat.reduceSub, Nat.reduceAdd]
        repeat (go_big_quiet_step (fail))
        refine wpQuiet_nil ?_; rintro _ ⟨nq, rfl⟩
        go_wp2
        refine bodyPost_ret (v := .tuple #[.slice none 0 0, .int .i64 b, .int .i64 40]) (by simp [results, Tryd.results23, go_sem]) rfl ?_
        exact ⟨Below.drewN hL2.bel _, .inr ⟨b, 40, HRR.out.symm, rfl, .inr (.inr rfl)⟩⟩
      · rw [if_neg (by simp)] at hr1
        by_cases hbe : b = s.size
        · rw [if_pos (by omega)] at hr1
          have HRR := Lib.hid hr1
          have e1 := eqT (n := b) (k := s.size) (by omega)
          clear hr1
          go_wp2_with (first | (at_builtin; refine wpList_append_own _ rfl _ _ 61 rfl (w.heap.size + 1) 68 i0 (.agg #[.int .i64 0, .string ⟨#[]⟩, .int .i64 0]) 3 32 Tryd.underlying61 hi hz0 hz1 hz2 rfl (by decide) _ _ _ rfl (hL2.alloc _).own ⟨w2.heap.size, 0, none⟩ 1 1 [.int .i64 0, .string ⟨#[]⟩, .int .i64 s.size] rfl rfl ?c1 ?c2 ?c3 ?c4 ?c5 ?_) | fail)
          case c1 =>
            intro j u hj
            match j, hj with
            | 0, hj => simp at hj; subst hj; simp [Addr.add]
            | 1, hj => simp at hj; subst hj; simp [Addr.add]
            | 2, hj => simp at hj; subst hj; simp [Addr.add]
            | (j + 3), hj => simp at hj
          case c2 => intro u hu; simp at hu; rcases hu with rfl | rfl | rfl <;> rfl
          case c3 => unfold maxLen; omega
          case c4 => omega
          case c5 => have := hL2.hi; simp; omega
          intro v' w3 hown' hgrow _
          have hL3 := (hL2.alloc _).grown (out' := out ++ [⟨0, [], s.size⟩]) h3 (by unfold Toks; rw [tokCells_snoc, List.length_append]; exact hown') hgrow
          clear hown' hgrow hL2 c1
          go_wp2
          refine bodyPost_ret (v := .tuple #[v', .int .i64 0, .int .i64 0]) (by simp [results, Tryd.results23, go_sem]) rfl ?_
          exact ⟨hL3.bel, .inl ⟨_, v', HRR.out.symm, rfl, hL3.own, ⟨by simp; omega, out, rfl, HCH.out.mono (by omega)⟩⟩⟩
        · rw [if_neg (by omega)] at hr1
          have HRR := Lib.hid hr1
          have e1 := eqF (n := b) (k := s.size) (by omega)
          clear hr1
          go_wp2_with fail
          refine (token_any w.heap.size s b _ (by omega) (by omega) hL2.scan hL2.env h3).mono ?_
          rintro e w3 ⟨c, hbc, hc, hS3, hF3, hE3, hres⟩
          have hL3 := hL2.call h3 hS3 hF3
          clear hL2 hS3 hF3 c1
          rcases hres with ⟨k, T, htk, hbc2, hk1, hk5, hTl, rfl⟩ | ⟨htk, K, T, rfl⟩
          · have hr1 := HRR.out
            rw [htk, show s.size - (s.size - b) = b by omega] at hr1
            replace hr1 : (if out.length = 1500 then Lx.Res.err b 8 else Lx.lexGo s.size n (sfx s c) (out ++ [⟨k, T, b⟩])) = Lx.lex s.data.toList := hr1
            have HTO := Lib.hid (tokOk_of htk hbc2 hc hk1 hk5)
            clear HRR htk
            have hL4 := hL3.alloc (.cells #[.int .i64 k, .string ⟨T.toArray⟩, .int .i64 b] 68)
            obtain ⟨oa, oc, rfl⟩ := hL4.own.form
            by_cases h15 : out.length = 1500
            · rw [if_pos h15] at hr1
              have HRR := Lib.hid hr1
              have e2 := eqT (n := out.length) (k := 1500) (by omega)
              clear hr1 hL3
              go_wp2_with fail
              refine wp_region_cuts [] (by kernel_rfl) (by kernel_rfl) ?_; simp only [wpMix, List.take_succ_cons, List.take_zero, List.drop_succ_cons, List.drop_zero, Nat.sub_zero, Nat.reduceSub, Nat.reduceAdd]
              repeat (go_big_quiet_step (fail))
              refine wpQuiet_nil ?_; rintro _ ⟨nq, rfl⟩
              go_wp2
              refine bodyPost_ret (v := .tuple #[.slice none 0 0, .int .i64 b, .int .i64 8]) (by simp [results, Tryd.results23, go_sem]) rfl ?_
              exact ⟨Below.drewN hL4.bel _, .inr ⟨b, 8, HRR.out.symm, rfl, .inr (.inl rfl)⟩⟩
            · rw [if_neg h15] at hr1
              have HRR := Lib.hid hr1
              have e2 := eqF (n := out.length) (k := 1500) (by omega)
              clear hr1
              go_wp2_with (first | (at_builtin; refine wpList_append_own _ rfl _ _ 61 rfl (w.heap.size + 1) 68 i0 (.agg #[.int .i64 0, .string ⟨#[]⟩, .int .i64 0]) 3 32 Tryd.underlying61 hi hz0 hz1 hz2 rfl (by decide) _ _ _ rfl (hL4.alloc _).own ⟨w3.heap.size + 1, 0, none⟩ 1 1 [.int .i64 k, .string ⟨T.toArray⟩, .int .i64 b] rfl rfl ?d1 ?d2 ?d3 ?d4 ?d5 ?_) | fail)
              case d1 =>
                intro j u hj
                match j, hj with
                | 0, hj => simp at hj; subst hj; simp [Addr.add]
                | 1, hj => simp at hj; subst hj; simp [Addr.add]
                | 2, hj => simp at hj; subst hj; simp [Addr.add]
                | (j + 3), hj => simp at hj
              case d2 => intro u hu; simp at hu; rcases hu with rfl | rfl | rfl <;> rfl
              case d3 => unfold maxLen; omega
              case d4 => omega
              case d5 => have := hL4.hi; simp at this; simp; omega
              intro v' w5 hown' hgrow _
              have hL5 := (hL4.alloc _).grown (out' := out ++ [⟨k, T, b⟩]) h3 (by unfold Toks; rw [tokCells_snoc, List.length_append]; exact hown') hgrow
              clear hown' hgrow hL4 hL3
              go_wp2
              go_roundg n
              case measure => omega
              case rel => exact ⟨c, _, hc, by omega, HRR.out, by rw [List.length_append]; simp; omega, (HCH.out.mono hab).snoc HTO.out.1 HTO.out.2, hL5⟩
          · have hr1 := HRR.out
            rw [htk, show s.size - (s.size - b) = b by omega] at hr1
            have HRR := Lib.hid hr1
            clear hr1 htk
            go_wp2_with fail
            refine wp_region_cuts [] (by kernel_rfl) (by kernel_rfl) ?_; simp only [wpMix, List.take_succ_cons, List.take_zero, List.drop_succ_cons, List.drop_zero, Nat.sub_zero, Nat.reduceSub, Nat.reduceAdd]
            repeat (go_big_quiet_step (fail))
            refine wpQuiet_nil ?_; rintro _ ⟨nq, rfl⟩
            go_wp2
            refine bodyPost_ret (v := .tuple #[.slice none 0 0, .int .i64 b, .int .i64 40]) (by simp [results, Tryd.results23, go_sem]) rfl ?_
            exact ⟨Below.drewN (hL3.alloc _).bel _, .inr ⟨b, 40, HRR.out.symm, rfl, .inr (.inr rfl)⟩⟩
end Go.Proofs.YtabcaljnpahgpaaDoor
namespace Go.Proofs.YtabcaljnpahgpaaDoor
set_option linter.unusedSimpArgs false
set_option linter.unusedVariables false
open Go Go.RowKit

theorem tokCells_at (ts : List Lx.Tok) : ∀ (i : Nat) (t : Lx.Tok), ts[i]? = some t →
    (tokCells ts)[3 * i]? = some (.int .i64 t.kind) ∧ (tokCells ts)[3 * i + 1]? = some (.string ⟨t.text.toArray⟩) ∧ (tokCells ts)[3 * i + 2]? = some (.int .i64 t.at_) := by
  induction ts with
  | nil => intro i t h; simp at h
  | cons x xs ih =>
    intro i t h
    match i, h with
    | 0, h => simp at h; subst h; simp [tokCells]
    | i + 1, h =>
      simp at h
      have := ih i t h
      have e : tokCells (x :: xs) = .int .i64 x.kind :: .string ⟨x.text.toArray⟩ :: .int .i64 x.at_ :: tokCells xs := by simp [tokCells]
      rw [e, show 3 * (i + 1) = 3 * i + 1 + 1 + 1 by omega]
      exact this

/-- A row of tokens, opened: where it lies. -/
structure TokRow (w : World) (g : Nat) (ts : List Lx.Tok) : Prop where
  lt : g < w.heap.size
  kind : ∀ (i : Nat) (t : Lx.Tok), ts[i]? = some t → w.cell? ⟨g, 3 * i, none⟩ = some (.int .i64 t.kind)
  text : ∀ (i : Nat) (t : Lx.Tok), ts[i]? = some t → w.cell? ⟨g, 3 * i + 1, none⟩ = some (.string ⟨t.text.toArray⟩)
  at_ : ∀ (i : Nat) (t : Lx.Tok), ts[i]? = some t → w.cell? ⟨g, 3 * i + 2, none⟩ = some (.int .i64 t.at_)
theorem TokRow.below {w w' : World} {g : Nat} {ts : List Lx.Tok} (h : TokRow w g ts) (hb : Below w.heap.size w w') : TokRow w' g ts := by
  have e : ∀ k, w'.cell? ⟨g, k, none⟩ = w.cell? ⟨g, k, none⟩ := fun k => World.cell?_of_block (hb.block g h.lt)
  exact ⟨Nat.lt_of_lt_of_le h.lt hb.size, fun i t x => (e _).trans (h.kind i t x), fun i t x => (e _).trans (h.text i t x), fun i t x => (e _).trans (h.at_ i t x)⟩
theorem TokRow.drewN {w : World} {g : Nat} {ts : List Lx.Tok} (h : TokRow w g ts) (n : Nat) : TokRow (w.drewN n) g ts := ⟨h.lt, h.kind, h.text, h.at_⟩
theorem addr_add (g k : Nat) : (⟨g, 0, none⟩ : Addr).add k = ⟨g, k, none⟩ := by
  by_cases h : k = 0
  · subst h; simp [Addr.add]
  · simp [Addr.add, h]
theorem Toks.openRow {w : World} {base : Nat} {v : Value} {ts : List Lx.Tok} (h : Toks w base v ts) (hne : 0 < ts.length) :
    ∃ g cap, v = .slice (some ⟨g, 0, none⟩) ts.length cap ∧ base ≤ g ∧ TokRow w g ts := by
  have hc := fun g => World.ownsRow.cells (g := g) h
  rcases h.2 with ⟨h2, h3⟩ | ⟨g, cap, cur, hv, hg, hcur, h3⟩
  · omega
  · refine ⟨g, cap, hv, hg, heap_lt hcur, ?_, ?_, ?_⟩
    · intro i t ht
      have := hc g (by rw [hv]; rfl) (3 * i) _ (tokCells_at ts i t ht).1
      simpa only [addr_add] using this
    · intro i t ht
      have := hc g (by rw [hv]; rfl) (3 * i + 1) _ (tokCells_at ts i t ht).2.1
      simpa only [addr_add] using this
    · intro i t ht
      have := hc g (by rw [hv]; rfl) (3 * i + 2) _ (tokCells_at ts i t ht).2.2
      simpa only [addr_add] using this

end Go.Proofs.YtabcaljnpahgpaaDoor
namespace Go.Proofs.YtabcaljnpahgpaaDoor
set_option linter.unusedSimpArgs false
set_option linter.unusedVariables false
open Go Go.RowKit

/-- Data. -/
inductive D where
  | int (n : Int)
  | str (s : List UInt8)
  | bool (b : Bool)
  | obj (fs : List D)
  | seq (k : Nat) (xs : List D)
deriving Inhabited

mutual
/-- These cells hold that, in blocks that P names. -/
inductive Reads (w : World) (P : Nat → Prop) : D → List Value → Prop
  | int (n : Int) : Reads w P (.int n) [.int .i64 n]
  | str (s : List UInt8) : Reads w P (.str s) [.string ⟨s.toArray⟩]
  | bool (b : Bool) : Reads w P (.bool b) [.bool b]
  | obj {fs : List D} {cs : List Value} : ReadsR w P fs cs → Reads w P (.obj fs) cs
  | seq {k : Nat} {xs : List D} {a : Option Addr} {cap : Nat} : ReadsS w P k a 0 xs → Reads w P (.seq k xs) [.slice a xs.length cap]
/-- One behind the other. -/
inductive ReadsR (w : World) (P : Nat → Prop) : List D → List Value → Prop
  | nil : ReadsR w P [] []
  | cons {d : D} {ds : List D} {cs cs' : List Value} : Reads w P d cs → ReadsR w P ds cs' → ReadsR w P (d :: ds) (cs ++ cs')
/-- The elements from the i-th on. -/
inductive ReadsS (w : World) (P : Nat → Prop) : Nat → Option Addr → Nat → List D → Prop
  | nil {k : Nat} {a : Option Addr} {i : Nat} : ReadsS w P k a i []
  | cons {k : Nat} {a : Option Addr} {i g o : Nat} {d : D} {ds : List D} {cs : List Value} : a = some ⟨g, o, none⟩ → P g → g < w.heap.size → cs.length = k →
      (∀ (j : Nat) v, cs[j]? = some v → w.cell? ⟨g, o + i * k + j, none⟩ = some v) → Reads w P d cs → ReadsS w P k a (i + 1) ds → ReadsS w P k a i (d :: ds)
end

/-- What P names stands in w' as it stood in w, and Q names it. -/
structure Stands (w : World) (P : Nat → Prop) (w' : World) (Q : Nat → Prop) : Prop where
  size : w.heap.size ≤ w'.heap.size
  block : ∀ g, g < w.heap.size → P g → Q g ∧ w'.heap[g]? = w.heap[g]?
mutual
theorem Reads.to {w w' : World} {P Q : Nat → Prop} (hs : Stands w P w' Q) : ∀ {d : D} {cs : List Value}, Reads w P d cs → Reads w' Q d cs
  | _, _, .int n => .int n
  | _, _, .str s => .str s
  | _, _, .bool b => .bool b
  | _, _, .obj h => .obj (ReadsR.to hs h)
  | _, _, .seq h => .seq (ReadsS.to hs h)
theorem ReadsR.to {w w' : World} {P Q : Nat → Prop} (hs : Stands w P w' Q) : ∀ {ds : List D} {cs : List Value}, ReadsR w P ds cs → ReadsR w' Q ds cs
  | _, _, .nil => .nil
  | _, _, .cons h t => .cons (Reads.to hs h) (ReadsR.to hs t)
theorem ReadsS.to {w w' : World} {P Q : Nat → Prop} (hs : Stands w P w' Q) : ∀ {k : Nat} {a : Option Addr} {i : Nat} {ds : List D}, ReadsS w P k a i ds → ReadsS w' Q k a i ds
  | _, _, _, _, .nil => .nil
  | _, _, _, _, .cons e hP hg hl hc h t => .cons e (hs.block _ hg hP).1 (Nat.lt_of_lt_of_le hg hs.size) hl (fun j v hv => by
      rw [World.cell?_of_block (w := w) (hs.block _ hg hP).2]; exact hc j v hv) (Reads.to hs h) (ReadsS.to hs t)
end
mutual
theorem Reads.one {w : World} {P : Nat → Prop} : ∀ {d : D} {cs : List Value}, Reads w P d cs → ∀ u ∈ cs, u.oneCell' = true
  | _, _, .int n => fun u hu => by simp at hu; subst hu; rfl
  | _, _, .str s => fun u hu => by simp at hu; subst hu; rfl
  | _, _, .bool b => fun u hu => by simp at hu; subst hu; rfl
  | _, _, .obj h => ReadsR.one h
  | _, _, .seq h => fun u hu => by simp at hu; subst hu; rfl
theorem ReadsR.one {w : World} {P : Nat → Prop} : ∀ {ds : List D} {cs : List Value}, ReadsR w P ds cs → ∀ u ∈ cs, u.oneCell' = true
  | _, _, .nil => fun u hu => by simp at hu
  | _, _, .cons h t => fun u hu => by
    rcases List.mem_append.1 hu with hu | hu
    · exact Reads.one h u hu
    · exact ReadsR.one t u hu
end
section
variable {w w' : World} {P Q : Nat → Prop}
theorem Stands.refl (w : World) (P : Nat → Prop) : Stands w P w P := ⟨Nat.le_refl _, fun _ _ h => ⟨h, rfl⟩⟩
theorem Stands.sub (w : World) (h : ∀ g, g < w.heap.size → P g → Q g) : Stands w P w Q := ⟨Nat.le_refl _, fun g hg hp => ⟨h g hg hp, rfl⟩⟩
theorem Stands.but {X : Nat → Prop} (h : But X w w') (hx : ∀ g, P g → ¬ X g) : Stands w P w' P := ⟨h.size, fun g hg hp => ⟨hp, h.block g hg (hx g hp)⟩⟩
theorem Stands.below (h : Below w.heap.size w w') : Stands w P w' P := ⟨h.size, fun g hg hp => ⟨hp, h.block g hg⟩⟩
theorem Stands.trans {w2 : World} {R : Nat → Prop} (h : Stands w P w' Q) (k : Stands w' Q w2 R) : Stands w P w2 R :=
  ⟨Nat.le_trans h.size k.size, fun g hg hp => by
    obtain ⟨q, e⟩ := h.block g hg hp
    obtain ⟨r, f⟩ := k.block g (Nat.lt_of_lt_of_le hg h.size) q
    exact ⟨r, f.trans e⟩⟩
theorem Stands.drewN (h : Stands w P w' Q) (n : Nat) : Stands w P (w'.drewN n) Q := ⟨h.size, h.block⟩

theorem Reads.int_inv {n : Int} {cs : List Value} (h : Reads w P (.int n) cs) : cs = [.int .i64 n] := by cases h; rfl
theorem Reads.str_inv {s : List UInt8} {cs : List Value} (h : Reads w P (.str s) cs) : cs = [.string ⟨s.toArray⟩] := by cases h; rfl
theorem Reads.bool_inv {b : Bool} {cs : List Value} (h : Reads w P (.bool b) cs) : cs = [.bool b] := by cases h; rfl
theorem Reads.obj_inv {fs : List D} {cs : List Value} (h : Reads w P (.obj fs) cs) : ReadsR w P fs cs := by cases h; assumption
theorem Reads.seq_inv {k : Nat} {xs : List D} {cs : List Value} (h : Reads w P (.seq k xs) cs) : ∃ a cap, cs = [.slice a xs.length cap] ∧ ReadsS w P k a 0 xs := by cases h; exact ⟨_, _, rfl, by assumption⟩
theorem ReadsR.nil_inv {cs : List Value} (h : ReadsR w P [] cs) : cs = [] := by cases h; rfl
theorem ReadsR.cons_inv {d : D} {ds : List D} {cs : List Value} (h : ReadsR w P (d :: ds) cs) : ∃ c r, cs = c ++ r ∧ Reads w P d c ∧ ReadsR w P ds r := by cases h; exact ⟨_, _, rfl, by assumption, by assumption⟩
theorem ReadsR.one_mk {d : D} {cs : List Value} (h : Reads w P d cs) : ReadsR w P [d] cs := by have := ReadsR.cons h .nil; rwa [List.append_nil] at this
/-- One element. -/
theorem ReadsS.at {k : Nat} {a : Option Addr} : ∀ {i : Nat} {ds : List D}, ReadsS w P k a i ds → ∀ (j : Nat) (d : D), ds[j]? = some d →
    ∃ g o cs, a = some ⟨g, o, none⟩ ∧ P g ∧ g < w.heap.size ∧ cs.length = k ∧ (∀ (q : Nat) v, cs[q]? = some v → w.cell? ⟨g, o + (i + j) * k + q, none⟩ = some v) ∧ Reads w P d cs
  | _, _, .nil, j, d, h => by simp at h
  | i, _ :: _, .cons e hP hg hl hc h t, 0, d, hd => by
    simp at hd; subst hd
    exact ⟨_, _, _, e, hP, hg, hl, hc, h⟩
  | i, _ :: ds, .cons e hP hg hl hc h t, j + 1, d, hd => by
    have := ReadsS.at t j d (by simpa using hd)
    rw [show i + 1 + j = i + (j + 1) by omega] at this
    exact this
theorem ReadsS.nil_of {k i : Nat} {a : Option Addr} : ReadsS w P k a i [] := .nil
end

/-- Data one behind the other, k cells each. -/
inductive RowsD (w : World) (P : Nat → Prop) (k : Nat) : List D → List Value → Prop
  | nil : RowsD w P k [] []
  | cons {d : D} {ds : List D} {cs cs' : List Value} : Reads w P d cs → cs.length = k → RowsD w P k ds cs' → RowsD w P k (d :: ds) (cs ++ cs')
section
variable {w w' : World} {P Q : Nat → Prop} {k : Nat}
theorem RowsD.to (hs : Stands w P w' Q) : ∀ {ds : List D} {cs : List Value}, RowsD w P k ds cs → RowsD w' Q k ds cs
  | _, _, .nil => .nil
  | _, _, .cons h hl t => .cons (h.to hs) hl (t.to hs)
theorem RowsD.len : ∀ {ds : List D} {cs : List Value}, RowsD w P k ds cs → cs.length = ds.length * k
  | _, _, .nil => by simp
  | _, _, .cons h hl t => by rw [List.length_append, t.len, hl, List.length_cons, Nat.succ_mul]; omega
theorem RowsD.snoc : ∀ {ds : List D} {cs : List Value}, RowsD w P k ds cs → ∀ {d : D} {c : List Value}, Reads w P d c → c.length = k → RowsD w P k (ds ++ [d]) (cs ++ c)
  | _, _, .nil, d, c, h, hl => by
    have := RowsD.cons h hl .nil
    rwa [List.append_nil] at this
  | _, _, .cons h0 hl0 t, d, c, h, hl => by
    rw [List.cons_append, List.append_assoc]
    exact .cons h0 hl0 (t.snoc h hl)
theorem RowsD.seqAt {g : Nat} (hP : P g) (hg : g < w.heap.size) : ∀ {ds : List D} {cs : List Value}, RowsD w P k ds cs → ∀ (i : Nat), (∀ (j : Nat) v, cs[j]? = some v → w.cell? ⟨g, i * k + j, none⟩ = some v) → ReadsS w P k (some ⟨g, 0, none⟩) i ds
  | _, _, .nil, i, hc => .nil
  | _, _, .cons (cs := c) (cs' := c') h hl t, i, hc => by
    refine .cons rfl hP hg hl (fun j v hv => ?_) h (t.seqAt hP hg (i + 1) (fun j v hv => ?_))
    · rw [Nat.zero_add]
      have hj := (List.getElem?_eq_some_iff.1 hv).1
      exact hc j v (by rw [List.getElem?_append_left hj]; exact hv)
    · have := hc (k + j) v (by rw [List.getElem?_append_right (by omega), show k + j - c.length = j by omega]; exact hv)
      rw [show (i + 1) * k + j = i * k + (k + j) by rw [Nat.succ_mul]; omega]
      exact this
end

theorem addr_add0 (g k : Nat) : (⟨g, 0, none⟩ : Addr).add k = ⟨g, k, none⟩ := by
  by_cases h : k = 0
  · subst h; simp [Addr.add]
  · simp [Addr.add, h]
theorem block_lt {w : World} {k : Nat} {o : Obj} (h : w.heap[k]? = some o) : k < w.heap.size := by
  rcases Nat.lt_or_ge k w.heap.size with h' | h'
  · exact h'
  · simp [Array.getElem?_eq_none h'] at h

theorem heap_at_new (w : World) (o : Obj) : (w.alloc o).heap[w.heap.size]? = some o := by
  show (w.heap.push _)[w.heap.size]? = _
  simp
theorem cell_at_new (w : World) (cs : Array Value) (T : TypeId) (fz : Nat × Nat) (k : Nat) (v : Value) (h : cs[k]? = some v) : (w.alloc (.cells cs T fz)).cell? ⟨w.heap.size, k, none⟩ = some v := by
  unfold World.cell?
  rw [heap_at_new]
  exact h
theorem frozen_at_new (w : World) (cs : Array Value) (T : TypeId) (k : Nat) : (w.alloc (.cells cs T (0, 0))).frozen? ⟨w.heap.size, k, none⟩ = false := by
  unfold World.frozen?
  rw [heap_at_new]
  simp

/-- A row that grows: it holds this; its own block is none of P's. -/
structure Grows (w : World) (P : Nat → Prop) (base : Nat) (T : TypeId) (k : Nat) (v : Value) (xs : List D) : Prop where
  row : ∃ cs, w.ownsRow base T k v xs.length cs ∧ RowsD w P k xs cs
  apart : ∀ g, v.ownBlock = some g → ¬ P g
section
variable {w w' : World} {P Q : Nat → Prop} {base k : Nat} {T : TypeId} {v v' : Value} {xs : List D}
theorem Grows.nil (w : World) (P : Nat → Prop) (base : Nat) (T : TypeId) (k : Nat) : Grows w P base T k (.slice none 0 0) [] :=
  ⟨⟨[], World.ownsRow_nil _ _ _ _, .nil⟩, fun g hg => by simp [Value.ownBlock] at hg⟩
theorem row_to {cs : List Value} {n : Nat} (h : w.ownsRow base T k v n cs) (hb : ∀ g, v.ownBlock = some g → w'.heap[g]? = w.heap[g]?) : w'.ownsRow base T k v n cs := by
  refine ⟨h.1, ?_⟩
  rcases h.2 with h2 | ⟨g, cap, cur, hv, hg, hc, h3⟩
  · exact .inl h2
  · refine .inr ⟨g, cap, cur, hv, hg, ?_, h3⟩
    rw [hb g (by rw [hv]; rfl)]
    exact hc
theorem Grows.to (h : Grows w P base T k v xs) (hs : Stands w P w' Q) (hb : ∀ g, v.ownBlock = some g → ¬ Q g ∧ w'.heap[g]? = w.heap[g]?) : Grows w' Q base T k v xs := by
  obtain ⟨⟨cs, h1, h2⟩, h3⟩ := h
  exact ⟨⟨cs, row_to h1 (fun g hg => (hb g hg).2), h2.to hs⟩, fun g hg => (hb g hg).1⟩
theorem Grows.form (h : Grows w P base T k v xs) : ∃ a c, v = .slice a xs.length c := by
  obtain ⟨⟨cs, h1, h2⟩, h3⟩ := h
  rcases h1.2 with ⟨h4, h5⟩ | ⟨g, cap, cur, hv, hg, hc, h6⟩
  · exact ⟨none, 0, by rw [h5]; exact h4⟩
  · exact ⟨_, _, hv⟩
theorem Grows.lt (h : Grows w P base T k v xs) : ∀ g, v.ownBlock = some g → base ≤ g ∧ g < w.heap.size := by
  obtain ⟨⟨cs, h1, h2⟩, h3⟩ := h
  exact h1.lt
/-- The row, told as data. -/
theorem Grows.reads (h : Grows w P base T k v xs) : Reads w (fun g => P g ∨ v.ownBlock = some g) (.seq k xs) [v] := by
  obtain ⟨⟨cs, h1, h2⟩, h3⟩ := h
  have hc := fun g hg => World.ownsRow.cells (g := g) h1 hg
  rcases h1.2 with ⟨h4, h5⟩ | ⟨g, cap, cur, hv, hg, hcur, h6⟩
  · subst h4
    have : xs = [] := List.eq_nil_of_length_eq_zero h5
    subst this
    exact .seq .nil
  · subst hv
    refine .seq ((h2.to (Q := fun x => P x ∨ (Value.slice (some ⟨g, 0, none⟩) xs.length cap).ownBlock = some x) (Stands.sub w (fun x _ hx => .inl hx))).seqAt (g := g) (.inr rfl) (block_lt hcur) 0 (fun j v hj => ?_))
    have := hc g rfl j v hj
    rw [addr_add0] at this
    rw [Nat.zero_mul, Nat.zero_add]
    exact this
/-- One more. -/
theorem Grows.more {d : D} {c : List Value} (h : Grows w P base T k v xs) (hd : Reads w P d c) (hk : c.length = k) {w1 : World} (hs : Stands w P w1 P)
    (hrow : ∀ cs, RowsD w P k xs cs → w1.ownsRow base T k v' (xs.length + 1) (cs ++ c)) (hap : ∀ g, v'.ownBlock = some g → ¬ P g) : Grows w1 P base T k v' (xs ++ [d]) := by
  obtain ⟨⟨cs, h1, h2⟩, h3⟩ := h
  refine ⟨⟨cs ++ c, ?_, (h2.snoc hd hk).to hs⟩, hap⟩
  rw [List.length_append]
  exact hrow cs h2
end
end Go.Proofs.YtabcaljnpahgpaaDoor
namespace Go.Proofs.YtabcaljnpahgpaaDoor
set_option linter.unusedSimpArgs false
set_option linter.unusedVariables false
open Go Go.RowKit
section
variable {P : Program} {ops : Array Oper} {Q : Exit → Act → World → Prop} {md : Region.Mode} {S : World → Prop} {n : Nat}

/-- Each operation from n on waits for each one below n. -/
def phaseB (md : Region.Mode) (ops : Array Oper) (n : Nat) : Bool :=
  (List.range ops.size).all fun t => decide (t < n) || (List.range n).all fun i => Region.waitsFor md ops t i
theorem phase_not_ready {listed : Array Bool} (hp : phaseB md ops n = true) {i t : Nat} (hi : i < n) (hun : listed.getD i true = false) (ht : t ∈ Region.ready md ops listed) : t < n := by
  rcases Nat.lt_or_ge t n with h | h
  · exact h
  · obtain ⟨_, ot, hot, hall⟩ := mem_ready.1 ht
    have htlt : t < ops.size := (Array.getElem?_eq_some_iff.1 hot).1
    have h1 := List.all_eq_true.1 hp t (List.mem_range.2 htlt)
    simp only [Bool.or_eq_true, decide_eq_true_eq] at h1
    rcases h1 with h1 | h1
    · exact h1
    · have h2 := List.all_eq_true.1 h1 i (List.mem_range.2 hi)
      obtain ⟨o', ho', e, he, hb, hon⟩ := Region.waitsFor_spec h2
      have : o' = ot := Option.some.inj (ho'.symm.trans hot)
      subst this
      have h3 := hall e he hb
      rw [hon, getD_both hun] at h3
      cases h3

/-- Whatever order is picked from here on, and S holds behind every operation below n. -/
def wpAnyB (P : Program) (md : Region.Mode) (ops : Array Oper) (Q : Exit → Act → World → Prop) (S : World → Prop) (n : Nat) : Nat → Array Bool → Act → World → Prop
  | 0, listed, a, w => Region.ready md ops listed = [] ∧ Q .normal a w
  | fuel + 1, listed, a, w =>
    (Region.ready md ops listed = [] → Q .normal a w) ∧
    ∀ i ∈ Region.ready md ops listed, wpOp P ops Q i (fun a' w' => (i < n → S w') ∧ wpAnyB P md ops Q S n fuel (listed.setIfInBounds i true) a' w') a w
theorem wpAny_of_B : ∀ (fuel : Nat) (listed : Array Bool) (a : Act) (w : World), wpAnyB P md ops Q S n fuel listed a w → wpAny P md ops Q fuel listed a w
  | 0, _, _, _, h => h
  | fuel + 1, _, _, _, h => ⟨h.1, fun i hi => wpOp_mono (fun a' w' h' => wpAny_of_B fuel _ a' w' h'.2) (h.2 i hi)⟩
theorem wpAnyB_first {i : Nat} {oi : Oper} {v : Value} (hp : phaseB md ops n = true) (hin : i < n) (hi : ops[i]? = some oi) (hsel : ∀ (j : Nat) (o : Oper) cs b, ops[j]? = some o → o.op ≠ .select cs b)
    (hQ : ∀ c a w, Q (.panic c) (a.put oi.dst v) w → Q (.panic c) a w) :
    ∀ (fuel : Nat) (listed : Array Bool) (a : Act) (w : World),
      (∀ j oj, ops[j]? = some oj → j ≠ i → listed.getD j true = false → (∀ e ∈ oj.after, Region.binds md e = true → e.on ≠ i) → oi.apart ops oj = true) →
      i ∈ Region.ready md ops listed → YieldsIf P ops S oi v a → S w →
      wpAnyB P md ops Q S n fuel (listed.setIfInBounds i true) (a.put oi.dst v) w → wpAnyB P md ops Q S n (fuel + 1) listed a w := by
  intro fuel
  induction fuel with
  | zero =>
    intro listed a w _ hr hy hS H
    refine ⟨fun h => (by rw [h] at hr; cases hr), fun j hj => ?_⟩
    by_cases hji : j = i
    · subst hji; exact hy.wpOp hi hS ⟨fun _ => hS, H⟩
    · have := ready_mono hj hji
      rw [H.1] at this
      cases this
  | succ fuel ih =>
    intro listed a w hfree hr hy hS H
    refine ⟨fun h => (by rw [h] at hr; cases hr), fun j hj => ?_⟩
    by_cases hji : j = i
    · subst hji; exact hy.wpOp hi hS ⟨fun _ => hS, H⟩
    · have hjn : j < n := phase_not_ready hp hin (mem_ready.1 hr).1 hj
      have h1 := H.2 j (ready_mono hj hji)
      obtain ⟨hjun, oj, hoj, hall⟩ := mem_ready.1 hj
      have hnot : ∀ e ∈ oj.after, Region.binds md e = true → e.on ≠ i := fun e he hb heq => by
        have h1 := hall e he hb
        have h0 := (mem_ready.1 hr).1
        rw [heq] at h1
        rcases Nat.lt_or_ge i listed.size with h' | h'
        · simp [h'] at h0 h1; rw [h0] at h1; cases h1
        · simp [Array.getElem?_eq_none h'] at h1
      have h2 := wpOp_putIf hoj (hfree j oj hoj hji hjun hnot) (fun cs b => hsel i oi cs b hi) (fun cs b => hsel j oj cs b hoj) hQ hy h1
      have hfree' : ∀ k ok, ops[k]? = some ok → k ≠ i → (listed.setIfInBounds j true).getD k true = false →
          (∀ e ∈ ok.after, Region.binds md e = true → e.on ≠ i) → oi.apart ops ok = true := fun k ok hk hki hun hno => by
        refine hfree k ok hk hki ?_ hno
        by_cases hjk : j = k
        · subst hjk; exact hjun
        · rw [getD_set_ne true hjk] at hun; exact hun
      refine wpOp_mono (fun a' w' h3 => ⟨h3.2.1, ih (listed.setIfInBounds j true) a' w' hfree' (ready_mono hr (Ne.symm hji)) h3.1 (h3.2.1 hjn) ?_⟩) h2
      rw [Array.setIfInBounds_comm _ _ hji]
      exact h3.2.2
/-- Take number i first. -/
theorem wpAnyB_take {i : Nat} {oi : Oper} {v : Value} {fuel : Nat} {listed : Array Bool} {a : Act} {w : World} (hp : phaseB md ops n = true) (hin : i < n) (hi : ops[i]? = some oi)
    (hs : Region.noSelect ops = true) (hf : Region.free md ops listed i = true) (hr : (Region.ready md ops listed).contains i = true)
    (hQ : ∀ c a w, Q (.panic c) (a.put oi.dst v) w → Q (.panic c) a w) (hy : YieldsIf P ops S oi v a) (hS : S w)
    (h : wpAnyB P md ops Q S n fuel (listed.setIfInBounds i true) (a.put oi.dst v) w) : wpAnyB P md ops Q S n (fuel + 1) listed a w :=
  wpAnyB_first hp hin hi (Region.noSelect_spec hs) hQ fuel listed a w (Region.free_spec hi hf) (by simpa using hr) hy hS h
/-- Likewise of one that yields its value in whatever world. -/
theorem wpAnyB_firstAny {i : Nat} {oi : Oper} {v : Value} (hi : ops[i]? = some oi) (hsel : ∀ (j : Nat) (o : Oper) cs b, ops[j]? = some o → o.op ≠ .select cs b)
    (hQ : ∀ c a w, Q (.panic c) (a.put oi.dst v) w → Q (.panic c) a w) :
    ∀ (fuel : Nat) (listed : Array Bool) (a : Act) (w : World),
      (∀ j oj, ops[j]? = some oj → j ≠ i → listed.getD j true = false → (∀ e ∈ oj.after, Region.binds md e = true → e.on ≠ i) → oi.apart ops oj = true) →
      i ∈ Region.ready md ops listed → YieldsIf P ops (fun _ => True) oi v a → (i < n → S w) → n ≤ i →
      wpAnyB P md ops Q S n fuel (listed.setIfInBounds i true) (a.put oi.dst v) w → wpAnyB P md ops Q S n (fuel + 1) listed a w := by
  intro fuel
  induction fuel with
  | zero =>
    intro listed a w _ hr hy hS hni H
    refine ⟨fun h => (by rw [h] at hr; cases hr), fun j hj => ?_⟩
    by_cases hji : j = i
    · subst hji; exact hy.wpOp hi trivial ⟨hS, H⟩
    · have := ready_mono hj hji
      rw [H.1] at this
      cases this
  | succ fuel ih =>
    intro listed a w hfree hr hy hS hni H
    refine ⟨fun h => (by rw [h] at hr; cases hr), fun j hj => ?_⟩
    by_cases hji : j = i
    · subst hji; exact hy.wpOp hi trivial ⟨hS, H⟩
    · have h1 := H.2 j (ready_mono hj hji)
      obtain ⟨hjun, oj, hoj, hall⟩ := mem_ready.1 hj
      have hnot : ∀ e ∈ oj.after, Region.binds md e = true → e.on ≠ i := fun e he hb heq => by
        have h1 := hall e he hb
        have h0 := (mem_ready.1 hr).1
        rw [heq] at h1
        rcases Nat.lt_or_ge i listed.size with h' | h'
        · simp [h'] at h0 h1; rw [h0] at h1; cases h1
        · simp [Array.getElem?_eq_none h'] at h1
      have h2 := wpOp_putIf hoj (hfree j oj hoj hji hjun hnot) (fun cs b => hsel i oi cs b hi) (fun cs b => hsel j oj cs b hoj) hQ hy h1
      have hfree' : ∀ k ok, ops[k]? = some ok → k ≠ i → (listed.setIfInBounds j true).getD k true = false →
          (∀ e ∈ ok.after, Region.binds md e = true → e.on ≠ i) → oi.apart ops ok = true := fun k ok hk hki hun hno => by
        refine hfree k ok hk hki ?_ hno
        by_cases hjk : j = k
        · subst hjk; exact hjun
        · rw [getD_set_ne true hjk] at hun; exact hun
      refine wpOp_mono (fun a' w' h3 => ⟨h3.2.1, ih (listed.setIfInBounds j true) a' w' hfree' (ready_mono hr (Ne.symm hji)) h3.1 (fun h => absurd h (by omega)) hni ?_⟩) h2
      rw [Array.setIfInBounds_comm _ _ hji]
      exact h3.2.2
theorem wpAnyB_takeAny {i : Nat} {oi : Oper} {v : Value} {fuel : Nat} {listed : Array Bool} {a : Act} {w : World} (hni : n ≤ i) (hi : ops[i]? = some oi)
    (hs : Region.noSelect ops = true) (hf : Region.free md ops listed i = true) (hr : (Region.ready md ops listed).contains i = true)
    (hQ : ∀ c a w, Q (.panic c) (a.put oi.dst v) w → Q (.panic c) a w) (hy : YieldsIf P ops (fun _ => True) oi v a)
    (h : wpAnyB P md ops Q S n fuel (listed.setIfInBounds i true) (a.put oi.dst v) w) : wpAnyB P md ops Q S n (fuel + 1) listed a w :=
  wpAnyB_firstAny hi (Region.noSelect_spec hs) hQ fuel listed a w (Region.free_spec hi hf) (by simpa using hr) hy (fun h => absurd h (by omega)) hni h
/-- One that may come up alone. -/
theorem wpAnyB_one {i : Nat} {fuel : Nat} {listed : Array Bool} {a : Act} {w : World} (hr : Region.ready md ops listed = [i])
    (h : wpOp P ops Q i (fun a' w' => (i < n → S w') ∧ wpAnyB P md ops Q S n fuel (listed.setIfInBounds i true) a' w') a w) : wpAnyB P md ops Q S n (fuel + 1) listed a w :=
  ⟨fun h0 => (by rw [hr] at h0; cases h0), fun j hj => by
    rw [hr] at hj
    obtain rfl : j = i := (by simpa using hj)
    exact h⟩
/-- One of two. -/
theorem wpAnyB_two {i k : Nat} {fuel : Nat} {listed : Array Bool} {a : Act} {w : World} (hr : Region.ready md ops listed = [i, k])
    (h : wpOp P ops Q i (fun a' w' => (i < n → S w') ∧ wpAnyB P md ops Q S n fuel (listed.setIfInBounds i true) a' w') a w)
    (h' : wpOp P ops Q k (fun a' w' => (k < n → S w') ∧ wpAnyB P md ops Q S n fuel (listed.setIfInBounds k true) a' w') a w) : wpAnyB P md ops Q S n (fuel + 1) listed a w :=
  ⟨fun h0 => (by rw [hr] at h0; cases h0), fun j hj => by
    rw [hr] at hj
    have : j = i ∨ j = k := by simpa using hj
    rcases this with rfl | rfl
    · exact h
    · exact h'⟩
theorem wpAnyB_done {listed : Array Bool} {a : Act} {w : World} (hr : Region.ready md ops listed = []) (h : Q .normal a w) :
    ∀ fuel, wpAnyB P md ops Q S n fuel listed a w
  | 0 => ⟨hr, h⟩
  | _ + 1 => ⟨fun _ => h, by rw [hr]; simp⟩
/-- The beginning. -/
theorem wp_region_phase (S : World → Prop) (n : Nat) {id : Nat} {a : Act} {w : World} (hm : P.follows .mixedOrders = true)
    (h : wpAnyB P .any ops Q S n ops.size (Array.replicate ops.size false) a { w with drawn := w.drawn + 1 }) : (Code.region id ops true).wp P Q a w :=
  wp_region_any hm (wpAny_of_B _ _ _ _ h)
/-- A step, as a list of one operation; what follows is kept shut. -/
theorem wpOp_intro {l : List Oper} {i : Nat} {K : Act → World → Prop} {a : Act} {w : World} (hn : i < l.length)
    (h : ∀ K' : Act → World → Prop, Hid (∀ a w, K a w → K' a w) → wpList P l.toArray (Exit.then K' Q) ((l.drop i).take 1) a w) : wpOp P l.toArray Q i K a w := by
  have hstep := h K (Lib.hid fun _ _ h => h)
  have hget : l.toArray[i]? = some l[i] := by simp [hn]
  have hdrop : (l.drop i).take 1 = [l[i]] := by rw [List.drop_eq_getElem_cons hn, List.take_succ_cons, List.take_zero]
  rw [hdrop] at hstep
  unfold wpOp
  simp only [hget]
  unfold wpList at hstep
  split
  · rename_i hwant
    rw [if_pos hwant] at hstep
    refine hstep.imp (fun hs => ?_) (fun hs => ⟨hs.1, ?_⟩)
    · have e1 := Oper.wp_mono (Q := Exit.then K Q) (K' := K) (fun a w h => h) hs
      unfold Oper.wp at *
      generalize (execOp a.eval l[i]).run P w = r at *
      cases r with
      | ok nx w2 =>
        cases nx with
        | enter f args =>
          exact Calls.mono e1 fun e w3 h3 => by cases e <;> first | exact h3 | (obtain ⟨a4, w4, h4⟩ := h3; exact ⟨a4, w4, h4⟩)
        | _ => exact e1
      | halt x w2 => cases x <;> exact e1
    · obtain ⟨a4, w4, h4⟩ := hs.2
      exact ⟨a4, w4, h4⟩
  · rename_i hwant
    rw [if_neg hwant] at hstep
    exact hstep
end
end Go.Proofs.YtabcaljnpahgpaaDoor
namespace Go.Proofs.YtabcaljnpahgpaaDoor
set_option linter.unusedSimpArgs false
set_option linter.unusedVariables false
open Go Go.RowKit

@[go_sem high] theorem field_tok0 (x y z : Value) (w : World) : (Instr.field 68 (.agg #[x, y, z]) 0).run Tryd.prog w = .ok x w := by kernel_rfl
@[go_sem high] theorem field_tok1 (x y z : Value) (w : World) : (Instr.field 68 (.agg #[x, y, z]) 1).run Tryd.prog w = .ok y w := by kernel_rfl
@[go_sem high] theorem field_tok2 (x y z : Value) (w : World) : (Instr.field 68 (.agg #[x, y, z]) 2).run Tryd.prog w = .ok z w := by kernel_rfl
theorem drewN_add (w : World) (n m : Nat) : (w.drewN n).drewN m = w.drewN (n + m) := by simp [World.drewN, Nat.add_assoc]
/-- A token stored into a new block, draws between. -/
theorem tok_stored (w : World) (T : TypeId) (x y z k t a : Value) (n m : Nat) :
    ((((((w.alloc (.cells #[x, y, z] T)).drewN n).setCell ⟨w.heap.size, 0, none⟩ k).setCell ⟨w.heap.size, 1, none⟩ t).setCell ⟨w.heap.size, 2, none⟩ a).drewN m) = (w.alloc (.cells #[k, t, a] T)).drewN (n + m) := by
  have h0 : ∀ (v : World) (p : Addr) (u : Value), (v.drewN n).setCell p u = (v.setCell p u).drewN n := fun _ _ _ => rfl
  rw [h0, h0, h0, drewN_add, World.setCell_alloc_at _ _ _ _ _ rfl, World.setCell_alloc_at _ _ _ _ _ rfl, World.setCell_alloc_at _ _ _ _ _ rfl]
  rfl

/-- Tokens that a reader may hold. -/
structure TsOk (ts : List Lx.Tok) : Prop where
  len : ts.length ≤ 1501
  last : ∀ t, ts[ts.length - 1]? = some t → t.kind = 0
  kind : ∀ t ∈ ts, t.kind ≤ 5
  size : ∀ t ∈ ts, t.text.length ≤ 1000000000
  at_ : ∀ t ∈ ts, t.at_ ≤ 4096
/-- A reader in memory, in block b; its tokens in block g. -/
structure RdAt (w : World) (b g : Nat) (s : Rd.St) : Prop where
  ex : ∃ (T : TypeId) (cap : Nat) (ts : List Lx.Tok) (i : Nat), w.heap[b]? = some (.cells #[.slice (some ⟨g, 0, none⟩) ts.length cap, .int .i64 i, .int .i64 s.deep, .int .i64 s.at_, .int .i64 s.err] T (0, 0)) ∧
    TokRow w g ts ∧ s.rest = ts.drop i ∧ i < ts.length ∧ TsOk ts
  ne : g ≠ b
section
variable {w w' : World} {b g : Nat} {s : Rd.St}
theorem RdAt.lt (h : RdAt w b g s) : b < w.heap.size ∧ g < w.heap.size := by
  obtain ⟨⟨T, cap, ts, i, h1, h2, h3, h4, h5⟩, _⟩ := h
  exact ⟨block_lt h1, h2.lt⟩
theorem TokRow.heap {w w' : World} {g : Nat} {ts : List Lx.Tok} (h : TokRow w g ts) (hs : w.heap.size ≤ w'.heap.size) (he : w'.heap[g]? = w.heap[g]?) : TokRow w' g ts := by
  have e : ∀ k, w'.cell? ⟨g, k, none⟩ = w.cell? ⟨g, k, none⟩ := fun k => World.cell?_of_block he
  exact ⟨Nat.lt_of_lt_of_le h.lt hs, fun i t x => (e _).trans (h.kind i t x), fun i t x => (e _).trans (h.text i t x), fun i t x => (e _).trans (h.at_ i t x)⟩
theorem RdAt.to (h : RdAt w b g s) (hs : w.heap.size ≤ w'.heap.size) (hb : w'.heap[b]? = w.heap[b]?) (hg : w'.heap[g]? = w.heap[g]?) : RdAt w' b g s := by
  obtain ⟨⟨T, cap, ts, i, h1, h2, h3, h4, h5⟩, h6⟩ := h
  exact ⟨⟨T, cap, ts, i, by rw [hb]; exact h1, h2.heap hs hg, h3, h4, h5⟩, h6⟩
theorem RdAt.but {X : Nat → Prop} (h : RdAt w b g s) (hb : But X w w') (hX : ∀ k, X k → k ≠ b ∧ k ≠ g) : RdAt w' b g s :=
  h.to hb.size (hb.block b h.lt.1 (fun x => (hX _ x).1 rfl)) (hb.block g h.lt.2 (fun x => (hX _ x).2 rfl))
theorem RdAt.below (h : RdAt w b g s) (hb : Below w.heap.size w w') : RdAt w' b g s := h.to hb.size (hb.block b h.lt.1) (hb.block g h.lt.2)
theorem RdAt.drewN (h : RdAt w b g s) (n : Nat) : RdAt (w.drewN n) b g s := h.to (Nat.le_refl _) rfl rfl
theorem rest_head {ts l : List Lx.Tok} {i : Nat} (h : l = ts.drop i) (hi : i < ts.length) : ∃ t r, l = t :: r ∧ ts[i]? = some t ∧ r = ts.drop (i + 1) :=
  ⟨ts[i], ts.drop (i + 1), by rw [h, List.drop_eq_getElem_cons hi], List.getElem?_eq_getElem hi, rfl⟩
/-- The token at hand, as the walk reads it. -/
theorem RdAt.open_ (h : RdAt w b g s) : ∃ (cap n i : Nat), w.cell? ⟨b, 0, none⟩ = some (.slice (some ⟨g, 0, none⟩) n cap) ∧ w.cell? ⟨b, 1, none⟩ = some (.int .i64 i) ∧ i < n ∧ n ≤ 1501 ∧
    w.cell? ⟨g, i * 3, none⟩ = some (.int .i64 (Rd.peek s).kind) ∧ w.cell? ⟨g, i * 3 + 1, none⟩ = some (.string ⟨(Rd.peek s).text.toArray⟩) ∧ w.cell? ⟨g, i * 3 + 2, none⟩ = some (.int .i64 (Rd.peek s).at_) := by
  obtain ⟨⟨T, cap, ts, i, h1, h2, h3, h4, h5⟩, h6⟩ := h
  obtain ⟨t, r, e1, e2, e3⟩ := rest_head h3 h4
  have ep : Rd.peek s = t := by unfold Rd.peek; rw [e1]; rfl
  refine ⟨cap, ts.length, i, by simp [World.cell?, h1], by simp [World.cell?, h1], h4, h5.len, ?_, ?_, ?_⟩
  · rw [ep, Nat.mul_comm]; exact h2.kind i t e2
  · rw [ep, Nat.mul_comm]; exact h2.text i t e2
  · rw [ep, Nat.mul_comm]; exact h2.at_ i t e2
theorem RdAt.c2 (h : RdAt w b g s) : w.cell? ⟨b, 2, none⟩ = some (.int .i64 s.deep) := by
  obtain ⟨⟨T, cap, ts, i, h1, _⟩, _⟩ := h
  simp [World.cell?, h1]
theorem RdAt.c3 (h : RdAt w b g s) : w.cell? ⟨b, 3, none⟩ = some (.int .i64 s.at_) := by
  obtain ⟨⟨T, cap, ts, i, h1, _⟩, _⟩ := h
  simp [World.cell?, h1]
theorem RdAt.c4 (h : RdAt w b g s) : w.cell? ⟨b, 4, none⟩ = some (.int .i64 s.err) := by
  obtain ⟨⟨T, cap, ts, i, h1, _⟩, _⟩ := h
  simp [World.cell?, h1]
theorem RdAt.fz (h : RdAt w b g s) (k : Nat) : w.frozen? ⟨b, k, none⟩ = false := by
  obtain ⟨⟨T, cap, ts, i, h1, _⟩, _⟩ := h
  simp [World.frozen?, h1]
theorem RdAt.peek_ok (h : RdAt w b g s) : (Rd.peek s).kind ≤ 5 ∧ (Rd.peek s).text.length ≤ 1000000000 ∧ (Rd.peek s).at_ ≤ 4096 := by
  obtain ⟨⟨T, cap, ts, i, h1, h2, h3, h4, h5⟩, h6⟩ := h
  obtain ⟨t, r, e1, e2, e3⟩ := rest_head h3 h4
  have ep : Rd.peek s = t := by unfold Rd.peek; rw [e1]; rfl
  have hm := List.mem_of_getElem? e2
  rw [ep]
  exact ⟨h5.kind t hm, h5.size t hm, h5.at_ t hm⟩
theorem heap_set1 {w : World} {b : Nat} {cs : Array Value} {T : TypeId} {fz : Nat × Nat} {k : Nat} {v : Value} (h : w.heap[b]? = some (.cells cs T fz)) : (w.setCell ⟨b, k, none⟩ v).heap[b]? = some (.cells (cs.setIfInBounds k v) T fz) := by
  simp [World.setCell, Array.getElem?_modify, h]
theorem heap_set_ne {w : World} {b k c : Nat} {v : Value} (h : c ≠ b) : (w.setCell ⟨b, k, none⟩ v).heap[c]? = w.heap[c]? := Below.heap_setCell _ _ _ _ (fun e => h e)
theorem size_set {w : World} {p : Addr} {v : Value} : (w.setCell p v).heap.size = w.heap.size := by simp [World.setCell]
theorem RdAt.set_ne (h : RdAt w b g s) {c : Nat} (hb : b ≠ c) (hg : g ≠ c) (k : Nat) (v : Value) : RdAt (w.setCell ⟨c, k, none⟩ v) b g s :=
  h.to (by rw [size_set]; exact Nat.le_refl _) (heap_set_ne hb) (heap_set_ne hg)
theorem RdAt.failed (h : RdAt w b g s) (hs : s.err = 0) (e : Nat) : RdAt ((w.setCell ⟨b, 4, none⟩ (.int .i64 e)).setCell ⟨b, 3, none⟩ (.int .i64 (Rd.peek s).at_)) b g (Rd.fail e s) := by
  obtain ⟨⟨T, cap, ts, i, h1, h2, h3, h4, h5⟩, h6⟩ := h
  unfold Rd.fail
  rw [if_pos hs]
  have h7 := heap_set1 (k := 3) (v := .int .i64 (Rd.peek s).at_) (heap_set1 (k := 4) (v := .int .i64 e) h1)
  exact ⟨⟨T, cap, ts, i, by rw [h7]; rfl, h2.heap (by rw [size_set, size_set]; exact Nat.le_refl _) (by rw [heap_set_ne h6, heap_set_ne h6]), h3, h4, h5⟩, h6⟩
theorem RdAt.nexted (h : RdAt w b g s) (hs : s.err = 0) (hk : (Rd.peek s).kind ≠ 0) {i : Nat} (hi : w.cell? ⟨b, 1, none⟩ = some (.int .i64 i)) : RdAt (w.setCell ⟨b, 1, none⟩ (.int .i64 (i + 1))) b g (Rd.next s) := by
  obtain ⟨⟨T, cap, ts, j, h1, h2, h3, h4, h5⟩, h6⟩ := h
  have hij : (i : Int) = j := by
    simp [World.cell?, h1] at hi
    exact hi.symm
  obtain ⟨t, r, e1, e2, e3⟩ := rest_head h3 h4
  have ep : Rd.peek s = t := by unfold Rd.peek; rw [e1]; rfl
  unfold Rd.next
  rw [if_pos ⟨hs, hk⟩]
  have hlt : j + 1 < ts.length := by
    rcases Nat.lt_or_ge (j + 1) ts.length with h | h
    · exact h
    · have := h5.last t (by rw [show ts.length - 1 = j by omega]; exact e2)
      rw [ep] at hk
      exact absurd this hk
  have h7 := heap_set1 (k := 1) (v := .int .i64 (i + 1)) h1
  exact ⟨⟨T, cap, ts, j + 1, by rw [h7, hij]; rfl, h2.heap (by rw [size_set]; exact Nat.le_refl _) (by rw [heap_set_ne h6]), by show s.rest.drop 1 = _; rw [e1, e3]; rfl, hlt, h5⟩, h6⟩
end

set_option maxRecDepth 100000 in
theorem rpeek_any (b g : Nat) (s : Rd.St) (w : World) (h : RdAt w b g s) :
    Calls Tryd.prog 13 #[.pointer (some ⟨b, 0, none⟩)] w fun e w' => e = .returned (.agg #[.int .i64 (Rd.peek s).kind, .string ⟨(Rd.peek s).text.toArray⟩, .int .i64 (Rd.peek s).at_]) ∧ Below w.heap.size w w' := by
  obtain ⟨cap, n, i, k0, k1, hi, hn, t0, t1, t2⟩ := h.open_
  have hlt := h.lt
  have hi0 : (0 : Int) ≤ (i : Int) := Int.natCast_nonneg _
  have hi1 : (i : Int) < (n : Int) := by omega
  have H := Lib.hid h
  clear h
  go_enter Tryd.func13, Tryd.ntmps13
  go_wp2_with fail
  refine wp_region_cuts [10] (by kernel_rfl) (by kernel_rfl) ?_; simp only [wpMix, List.take_succ_cons, List.take_zero, List.drop_succ_cons, List.drop_zero, Nat.sub_zero, Nat.reduceSub, Nat.reduceAdd]
  repeat (go_big_quiet_step (fail))
  refine wpQuiet_nil ?_; rintro _ ⟨nq, rfl⟩
  go_wp2
  repeat (go_big_quiet_step (fail))
  refine wpQuiet_nil ?_
  rintro _ ⟨nr, rfl⟩
  rw [tok_stored]
  go_wp2
  refine bodyPost_ret (v := .agg #[.int .i64 (Rd.peek s).kind, .string ⟨(Rd.peek s).text.toArray⟩, .int .i64 (Rd.peek s).at_]) (by simp [results, Tryd.results13, go_sem]) rfl ⟨rfl, ?_⟩
  (repeat' (first | (with_reducible assumption) | (with_reducible exact Below.refl _ _) | (with_reducible refine Below.drewN ?_ _) | (with_reducible refine Below.drew ?_) | (with_reducible refine Below.alloc ?_ ?_ _))) <;> (simp; try omega)

set_option maxRecDepth 100000 in
theorem rfail_any (b g e : Nat) (s : Rd.St) (w : World) (h : RdAt w b g s) :
    Calls Tryd.prog 45 #[.pointer (some ⟨b, 0, none⟩), .int .i64 e] w fun r w' => r = .returned (.tuple #[]) ∧ RdAt w' b g (Rd.fail e s) ∧ Fr b w w' := by
  have c4 := h.c4
  have H := Lib.hid h
  clear h
  go_enter Tryd.func45, Tryd.ntmps45
  by_cases hs : s.err = 0
  · have e4 := eqT (n := s.err) (k := 0) (by omega)
    go_wp2_with fail
    refine (rpeek_any b g s w H.out).mono ?_
    rintro r w1 ⟨rfl, hb1⟩
    have h1 := H.out.below hb1
    have d4 := h1.c4
    have d3 := h1.c3
    have f4 := h1.fz 4
    have f3 := h1.fz 3
    have H1 := Lib.hid h1
    have HB := Lib.hid hb1
    clear h1 hb1 c4
    go_wp2
    go_end0
    exact ⟨rfl, H1.out.failed hs e, Fr.set (Fr.set (But.of_below HB.out) _ _) _ _⟩
  · have e4 := eqF (n := s.err) (k := 0) (by omega)
    go_wp2_with fail
    go_end0
    refine ⟨rfl, ?_, But.refl _ _⟩
    unfold Rd.fail
    rw [if_neg hs]
    exact H.out

set_option maxRecDepth 100000 in
theorem rwrong_any (b g : Nat) (s : Rd.St) (w : World) (h : RdAt w b g s) :
    Calls Tryd.prog 22 #[.pointer (some ⟨b, 0, none⟩)] w fun r w' => r = .returned (.tuple #[]) ∧ RdAt w' b g (Rd.wrong s) ∧ Fr b w w' := by
  have H := Lib.hid h
  clear h
  go_enter Tryd.func22, Tryd.ntmps22
  go_wp2_with fail
  refine (rfail_any b g 41 s w H.out).mono ?_
  rintro r w1 ⟨rfl, h1, hf1⟩
  go_wp2_with fail
  go_end0
  exact ⟨rfl, h1, hf1⟩

/-- A token's block, new. -/
structure TkB (w : World) (c : Nat) (t : Lx.Tok) : Prop where
  c0 : w.cell? ⟨c, 0, none⟩ = some (.int .i64 t.kind)
  c1 : w.cell? ⟨c, 1, none⟩ = some (.string ⟨t.text.toArray⟩)
  c2 : w.cell? ⟨c, 2, none⟩ = some (.int .i64 t.at_)
theorem tkb_new (w : World) (t : Lx.Tok) (T : TypeId) : TkB (w.alloc (.cells #[.int .i64 t.kind, .string ⟨t.text.toArray⟩, .int .i64 t.at_] T)) w.heap.size t := by
  exact ⟨cell_at_new _ _ _ _ _ _ rfl, cell_at_new _ _ _ _ _ _ rfl, cell_at_new _ _ _ _ _ _ rfl⟩
structure TkZ (w : World) (c : Nat) : Prop where
  c0 : w.cell? ⟨c, 0, none⟩ = some (.int .i64 0)
  c1 : w.cell? ⟨c, 1, none⟩ = some (.string ⟨#[]⟩)
  c2 : w.cell? ⟨c, 2, none⟩ = some (.int .i64 0)
  f0 : w.frozen? ⟨c, 0, none⟩ = false
  f1 : w.frozen? ⟨c, 1, none⟩ = false
  f2 : w.frozen? ⟨c, 2, none⟩ = false
theorem tkb_zero (w : World) (T : TypeId) : TkZ (w.alloc (.cells #[.int .i64 0, .string ⟨#[]⟩, .int .i64 0] T)) w.heap.size := by
  exact ⟨cell_at_new _ _ _ _ _ _ rfl, cell_at_new _ _ _ _ _ _ rfl, cell_at_new _ _ _ _ _ _ rfl, frozen_at_new _ _ _ _, frozen_at_new _ _ _ _, frozen_at_new _ _ _ _⟩
theorem TkZ.below {w w' : World} {c : Nat} (h : TkZ w c) (hc : c < w.heap.size) (hb : Below w.heap.size w w') : TkZ w' c := by
  have e := hb.block c hc
  have e1 : ∀ k, w'.cell? ⟨c, k, none⟩ = w.cell? ⟨c, k, none⟩ := fun k => World.cell?_of_block e
  have e2 : ∀ k, w'.frozen? ⟨c, k, none⟩ = w.frozen? ⟨c, k, none⟩ := fun k => World.frozen?_of_block e
  exact ⟨(e1 _).trans h.c0, (e1 _).trans h.c1, (e1 _).trans h.c2, (e2 _).trans h.f0, (e2 _).trans h.f1, (e2 _).trans h.f2⟩

set_option maxRecDepth 100000 in
theorem rnext_any (b g : Nat) (s : Rd.St) (w : World) (h : RdAt w b g s) :
    Calls Tryd.prog 26 #[.pointer (some ⟨b, 0, none⟩)] w fun r w' => r = .returned (.agg #[.int .i64 (Rd.peek s).kind, .string ⟨(Rd.peek s).text.toArray⟩, .int .i64 (Rd.peek s).at_]) ∧ RdAt w' b g (Rd.next s) ∧ Fr b w w' := by
  have hlt := h.lt
  have H := Lib.hid h
  clear h
  go_enter Tryd.func26, Tryd.ntmps26
  go_wp2_with fail
  have hba : Below w.heap.size w (w.alloc (.cells #[.int .i64 0, .string ⟨#[]⟩, .int .i64 0] 68)) := (Below.refl _ _).alloc (Nat.le_refl _) _
  have hz := tkb_zero w 68
  refine (rpeek_any b g s _ (H.out.below hba)).mono ?_
  rintro r w1 ⟨rfl, hb1⟩
  have hz1 := hz.below (by simp) hb1
  have hb2 := hba.trans (hb1.mono hba.size)
  obtain ⟨tk, htk⟩ : ∃ t, t = Rd.peek s := ⟨_, rfl⟩
  have HTK := Lib.hid htk
  rw [← htk]
  have hbW : Below w.heap.size w (w1.alloc (.cells #[.int .i64 tk.kind, .string ⟨tk.text.toArray⟩, .int .i64 tk.at_] 68)) := hb2.alloc hb2.size _
  have hT := tkb_new w1 tk 68
  have hzW : TkZ (w1.alloc (.cells #[.int .i64 tk.kind, .string ⟨tk.text.toArray⟩, .int .i64 tk.at_] 68)) w.heap.size := hz1.below (by have := hb1.size; simp at this; omega) ((Below.refl _ _).alloc (Nat.le_refl _) _)
  have hR := H.out.below hbW
  have c4 := hR.c4
  have f1 := hR.fz 1
  obtain ⟨_, _, i, _, c1, _⟩ := hR.open_
  obtain ⟨t0, t1, t2⟩ := hT
  obtain ⟨z0, z1, z2, y0, y1, y2⟩ := hzW
  have n1 : ¬ b = w.heap.size := by omega
  have n2 : ¬ w.heap.size = b := by omega
  have n3 : ¬ b = w1.heap.size := by have := hb2.size; omega
  have n4 : ¬ w1.heap.size = b := by have := hb2.size; omega
  have n5 : ¬ w.heap.size = w1.heap.size := by have := hb1.size; simp at this; omega
  have n6 : ¬ w1.heap.size = w.heap.size := fun e => n5 e.symm
  have HW1 := Lib.hid hbW
  have HR := Lib.hid hR
  clear hbW hb1 hb2 htk hR hz hz1 hba
  by_cases hnx : s.err = 0 ∧ tk.kind ≠ 0
  · obtain ⟨he, hk⟩ := hnx
    have e4 := eqT (n := s.err) (k := 0) (by omega)
    have e5 := neT (n := tk.kind) (k := 0) (by omega)
    have HK : Hid (s.err = 0 ∧ (Rd.peek s).kind ≠ 0) := Lib.hid ⟨he, by rw [← HTK.out]; exact hk⟩
    clear he hk
    go_wp2_with fail
    refine bodyPost_ret (v := .agg #[.int .i64 tk.kind, .string ⟨tk.text.toArray⟩, .int .i64 tk.at_]) (by simp [results, Tryd.results26, go_sem, z0, z1, z2, n1, n2]) rfl ⟨by rw [HTK.out], ?_, ?_⟩
    · exact (((HR.out.nexted HK.out.1 HK.out.2 c1).set_ne n1 (by omega) _ _).set_ne n1 (by omega) _ _).set_ne n1 (by omega) _ _
    · exact But.setCell (But.setCell (But.setCell (Fr.set (But.of_below HW1.out) _ _) (.inr (Nat.le_refl _)) _) (.inr (Nat.le_refl _)) _) (.inr (Nat.le_refl _)) _
  · have HN : Hid (Rd.next s = s) := by
      unfold Rd.next
      rw [if_neg (by rw [← HTK.out]; exact hnx)]
      exact Lib.hid rfl
    have hcase : (((s.err : Int) == 0) = false) ∨ (((s.err : Int) == 0) = true ∧ ((tk.kind : Int) != 0) = false) := by
      by_cases he : s.err = 0
      · refine .inr ⟨eqT (by omega), neF ?_⟩
        by_cases hk : tk.kind = 0
        · omega
        · exact absurd ⟨he, hk⟩ hnx
      · exact .inl (eqF (by omega))
    clear hnx
    rcases hcase with e4 | ⟨e4, e5⟩
    all_goals
      go_wp2_with fail
      refine bodyPost_ret (v := .agg #[.int .i64 tk.kind, .string ⟨tk.text.toArray⟩, .int .i64 tk.at_]) (by simp [results, Tryd.results26, go_sem, z0, z1, z2, n1, n2]) rfl ⟨by rw [HTK.out], ?_, ?_⟩
      · rw [HN.out]
        exact ((HR.out.set_ne n1 (by omega) _ _).set_ne n1 (by omega) _ _).set_ne n1 (by omega) _ _
      · exact But.setCell (But.setCell (But.setCell (But.of_below HW1.out) (.inr (Nat.le_refl _)) _) (.inr (Nat.le_refl _)) _) (.inr (Nat.le_refl _)) _
end Go.Proofs.YtabcaljnpahgpaaDoor
namespace Go.Proofs.YtabcaljnpahgpaaDoor
set_option linter.unusedSimpArgs false
set_option linter.unusedVariables false
open Go Go.RowKit

/-- A slice of texts. -/
def Txts (w : World) (v : Value) (ls : List (List UInt8)) : Prop :=
  ∃ a cap, v = .slice a ls.length cap ∧ ∀ (i : Nat) s, ls[i]? = some s → ∃ b off, a = some ⟨b, off, none⟩ ∧ b < w.heap.size ∧ w.cell? ⟨b, off + i, none⟩ = some (.string ⟨s.toArray⟩)
theorem Txts.form {w : World} {v : Value} {ls : List (List UInt8)} (h : Txts w v ls) : ∃ a cap, v = .slice a ls.length cap := by
  obtain ⟨a, cap, h1, h2⟩ := h
  exact ⟨a, cap, h1⟩
theorem Txts.at {w : World} {a : Option Addr} {n cap : Nat} {ls : List (List UInt8)} (h : Txts w (.slice a n cap) ls) {i : Nat} {s : List UInt8} (hi : ls[i]? = some s) :
    ∃ b off, a = some ⟨b, off, none⟩ ∧ b < w.heap.size ∧ w.cell? ⟨b, off + i, none⟩ = some (.string ⟨s.toArray⟩) := by
  obtain ⟨a', cap', h1, h2⟩ := h
  obtain ⟨b, off, e, h3, h4⟩ := h2 i s hi
  simp only [Value.slice.injEq] at h1
  exact ⟨b, off, by rw [h1.1, e], h3, h4⟩
theorem Txts.below {w w' : World} {v : Value} {ls : List (List UInt8)} (h : Txts w v ls) (hb : Below w.heap.size w w') : Txts w' v ls := by
  obtain ⟨a, cap, h1, h2⟩ := h
  refine ⟨a, cap, h1, fun i s hi => ?_⟩
  obtain ⟨b, off, e, h3, h4⟩ := h2 i s hi
  exact ⟨b, off, e, Nat.lt_of_lt_of_le h3 hb.size, by rw [hb.cell (p := ⟨b, off + i, none⟩) h3]; exact h4⟩
theorem Txts.nil (w : World) : Txts w (.slice none 0 0) [] := ⟨none, 0, rfl, fun i s h => by simp at h⟩
theorem txts_lit (w : World) (ls : List (List UInt8)) (cs : Array Value) (T : TypeId) (hc : cs = (ls.map fun s => Value.string ⟨s.toArray⟩).toArray) : Txts (w.alloc (.cells cs T)) (.slice (some ⟨w.heap.size, 0, none⟩) ls.length ls.length) ls := by
  subst hc
  refine ⟨_, _, rfl, fun i s hi => ⟨w.heap.size, 0, rfl, by simp, ?_⟩⟩
  rw [Nat.zero_add]
  exact cell_at_new _ _ _ _ _ _ (by simp [hi])
theorem str_beq (a b : List UInt8) : ((⟨a.toArray⟩ : ByteArray).toList == (⟨b.toArray⟩ : ByteArray).toList) = decide (a = b) := by
  rw [ByteArray.toList_eq, ByteArray.toList_eq]
  by_cases h : a = b
  · subst h; simp
  · rw [decide_eq_false h, beq_eq_false_iff_ne]
    exact h
theorem any_split {ls : List (List UInt8)} {p : List UInt8 → Bool} {j : Nat} {s : List UInt8} (h : ls[j]? = some s) : (ls.drop j).any p = (p s || (ls.drop (j + 1)).any p) := by
  obtain ⟨hj, rfl⟩ := List.getElem?_eq_some_iff.1 h
  rw [List.drop_eq_getElem_cons hj, List.any_cons]
set_option maxHeartbeats 1000000 in
set_option maxRecDepth 100000 in
theorem ris_any (b g : Nat) (s : Rd.St) (v : Value) (ls : List (List UInt8)) (w : World) (h : RdAt w b g s) (hV : Txts w v ls) (hl : ls.length ≤ 1000000) :
    Calls Tryd.prog 19 #[.pointer (some ⟨b, 0, none⟩), v] w fun r w' => r = .returned (.bool (ls.any (Rd.isS s))) ∧ Below w.heap.size w w' := by
  obtain ⟨va, vc, rfl⟩ := hV.form
  have H := Lib.hid h
  have HV := Lib.hid hV
  clear h hV
  go_enter Tryd.func19, Tryd.ntmps19
  go_wp2_with fail
  refine (rpeek_any b g s w H.out).mono ?_
  rintro r w1 ⟨rfl, hb1⟩
  obtain ⟨tk, htk⟩ : ∃ t, t = Rd.peek s := ⟨_, rfl⟩
  have HTK := Lib.hid htk
  rw [← htk]
  obtain ⟨W1, hW1⟩ : ∃ W, W = w1.alloc (.cells #[.int .i64 tk.kind, .string ⟨tk.text.toArray⟩, .int .i64 tk.at_] 68) := ⟨_, rfl⟩
  have hbW : Below w.heap.size w W1 := by rw [hW1]; exact hb1.alloc hb1.size _
  have hT := tkb_new w1 tk 68
  rw [← hW1] at hT
  have c4 := (H.out.below hbW).c4
  obtain ⟨t0, t1, t2⟩ := hT
  have HW1 := Lib.hid hbW
  have HE := Lib.hid hW1
  clear hbW hb1 htk hW1
  go_wp2_with fail
  rw [← HE.out]
  go_loopg [12] ls.length (fun k s12 wr => ∃ j : Nat, j ≤ ls.length ∧ k = ls.length - j ∧ s12 = .int .i64 (j : Nat) ∧ (ls.drop j).any (Rd.isS s) = ls.any (Rd.isS s) ∧ wr = W1)
  case atStart => exact ⟨0, Nat.zero_le _, rfl, rfl, rfl, rfl⟩
  case round =>
    obtain ⟨j, hj, hk, rfl, hall, rfl⟩ := hrel
    have HK := Lib.hid hk
    have HALL := Lib.hid hall
    clear hk hall
    have hj0 : (0 : Int) ≤ (j : Int) := Int.natCast_nonneg _
    by_cases hjn : j < ls.length
    · have hjn1 : (j : Int) < (ls.length : Int) := by omega
      obtain ⟨c, hc⟩ : ∃ c, ls[j]? = some c := ⟨_, List.getElem?_eq_getElem hjn⟩
      obtain ⟨cb, co, rfl, _, hcell⟩ := (HV.out.below HW1.out).at hc
      have HSP := Lib.hid (any_split (p := Rd.isS s) hc)
      clear hc
      by_cases he : s.err = 0
      · have e4 := eqT (n := s.err) (k := 0) (by omega)
        by_cases hkd : tk.kind = 5
        · have e5 := eqT (n := tk.kind) (k := 5) (by omega)
          by_cases htx : tk.text = c
          · have hte2 : (tk.text == c) = true := by rw [htx]; simp
            have HR : Hid (true = ls.any (Rd.isS s)) := by
              rw [← HALL.out, HSP.out]
              unfold Rd.isS
              rw [← HTK.out, he, hkd, htx]
              exact Lib.hid (by simp)
            clear htx he hkd
            go_wp2
            go_ret
            exact ⟨congrArg (fun b => Ending.returned (.bool b)) HR.out, HW1.out⟩
          · have hte2 : (tk.text == c) = false := by rw [beq_eq_false_iff_ne]; exact htx
            have HF : Hid (Rd.isS s c = false) := by
              unfold Rd.isS
              rw [← HTK.out, decide_eq_false htx, Bool.and_false]
              exact Lib.hid rfl
            clear htx he hkd
            go_wp2
            go_roundg (ls.length - (j + 1))
            case measure => rw [HK.out]; omega
            case rel => exact ⟨j + 1, hjn, rfl, by simp, by rw [← HALL.out, HSP.out, HF.out, Bool.false_or], rfl⟩
        · have e5 := eqF (n := tk.kind) (k := 5) (by omega)
          have HF : Hid (Rd.isS s c = false) := by
            unfold Rd.isS
            rw [← HTK.out, decide_eq_false hkd, Bool.and_false, Bool.false_and]
            exact Lib.hid rfl
          clear he hkd
          go_wp2
          go_roundg (ls.length - (j + 1))
          case measure => rw [HK.out]; omega
          case rel => exact ⟨j + 1, hjn, rfl, by simp, by rw [← HALL.out, HSP.out, HF.out, Bool.false_or], rfl⟩
      · have e4 := eqF (n := s.err) (k := 0) (by omega)
        have HF : Hid (Rd.isS s c = false) := by
          unfold Rd.isS
          rw [decide_eq_false he, Bool.false_and, Bool.false_and]
          exact Lib.hid rfl
        clear he
        go_wp2
        go_roundg (ls.length - (j + 1))
        case measure => rw [HK.out]; omega
        case rel => exact ⟨j + 1, hjn, rfl, by simp, by rw [← HALL.out, HSP.out, HF.out, Bool.false_or], rfl⟩
    · have hjn1 : (ls.length : Int) ≤ (j : Int) := by omega
      have HR : Hid (false = ls.any (Rd.isS s)) := by
        rw [← HALL.out, List.drop_of_length_le (by omega)]
        exact Lib.hid rfl
      go_wp2
      go_ret
      exact ⟨congrArg (fun b => Ending.returned (.bool b)) HR.out, HW1.out⟩
theorem ris1_any (b g : Nat) (s : Rd.St) (c : List UInt8) (T : TypeId) (w : World) (h : RdAt w b g s) :
    Calls Tryd.prog 19 #[.pointer (some ⟨b, 0, none⟩), .slice (some ⟨w.heap.size, 0, none⟩) 1 1] (w.alloc (.cells #[.string ⟨c.toArray⟩] T)) fun r w' => r = .returned (.bool (Rd.isS s c)) ∧ Below w.heap.size w w' := by
  have hb : Below w.heap.size w (w.alloc (.cells #[.string ⟨c.toArray⟩] T)) := (Below.refl _ _).alloc (Nat.le_refl _) _
  refine (ris_any b g s _ [c] _ (h.below hb) (txts_lit w [c] _ T rfl) (by simp)).mono ?_
  rintro r w' ⟨rfl, hb2⟩
  exact ⟨by simp, hb.trans (hb2.mono hb.size)⟩

set_option maxHeartbeats 1000000 in
set_option maxRecDepth 100000 in
theorem rword_any (b g : Nat) (s : Rd.St) (v : Value) (ls : List (List UInt8)) (w : World) (h : RdAt w b g s) (hV : Txts w v ls) (hl : ls.length ≤ 1000000) :
    Calls Tryd.prog 17 #[.pointer (some ⟨b, 0, none⟩), v] w fun r w' => r = .returned (.bool (Rd.isW s ls)) ∧ Below w.heap.size w w' := by
  obtain ⟨va, vc, rfl⟩ := hV.form
  have H := Lib.hid h
  have HV := Lib.hid hV
  clear h hV
  go_enter Tryd.func17, Tryd.ntmps17
  go_wp2_with fail
  refine (rpeek_any b g s w H.out).mono ?_
  rintro r w1 ⟨rfl, hb1⟩
  obtain ⟨tk, htk⟩ : ∃ t, t = Rd.peek s := ⟨_, rfl⟩
  have HTK := Lib.hid htk
  rw [← htk]
  obtain ⟨W1, hW1⟩ : ∃ W, W = w1.alloc (.cells #[.int .i64 tk.kind, .string ⟨tk.text.toArray⟩, .int .i64 tk.at_] 68) := ⟨_, rfl⟩
  have hbW : Below w.heap.size w W1 := by rw [hW1]; exact hb1.alloc hb1.size _
  have hT := tkb_new w1 tk 68
  rw [← hW1] at hT
  have c4a := (H.out.below hbW).c4
  have c4 := c4a
  rw [hW1] at c4
  obtain ⟨t0, t1, t2⟩ := hT
  have HW1 := Lib.hid hbW
  have HE := Lib.hid hW1
  clear hbW hb1 htk hW1
  by_cases he : s.err = 0
  · have e4 := eqT (n := s.err) (k := 0) (by omega)
    have e4' := neF (n := s.err) (k := 0) (by omega)
    by_cases hkd : tk.kind = 1
    · have e5 := neF (n := tk.kind) (k := 1) (by omega)
      have HN : Hid (∀ ws, Rd.isW s ws = (ws.any (fun w => decide (tk.text = w)) || ws.isEmpty)) := Lib.hid fun ws => by
        unfold Rd.isW Rd.isN
        rw [← HTK.out, decide_eq_true he, decide_eq_true hkd]
        rfl
      clear he hkd
      go_wp2_with fail
      rw [← HE.out]
      go_loopg [22] ls.length (fun k s22 wr => ∃ j : Nat, j ≤ ls.length ∧ k = ls.length - j ∧ s22 = .int .i64 (j : Nat) ∧ (ls.drop j).any (fun w => decide (tk.text = w)) = ls.any (fun w => decide (tk.text = w)) ∧ wr = W1)
      case atStart => exact ⟨0, Nat.zero_le _, rfl, rfl, rfl, rfl⟩
      case round =>
        obtain ⟨j, hj, hk, rfl, hall, rfl⟩ := hrel
        have HK := Lib.hid hk
        have HALL := Lib.hid hall
        clear hk hall
        have hj0 : (0 : Int) ≤ (j : Int) := Int.natCast_nonneg _
        by_cases hjn : j < ls.length
        · have hjn1 : (j : Int) < (ls.length : Int) := by omega
          obtain ⟨c, hc⟩ : ∃ c, ls[j]? = some c := ⟨_, List.getElem?_eq_getElem hjn⟩
          obtain ⟨cb, co, rfl, _, hcell⟩ := (HV.out.below HW1.out).at hc
          have HSP := Lib.hid (any_split (p := fun w => decide (tk.text = w)) hc)
          clear hc
          by_cases htx : tk.text = c
          · have hte2 : (tk.text == c) = true := by rw [htx]; simp
            have HR : Hid (true = Rd.isW s ls) := by
              rw [HN.out, ← HALL.out, HSP.out, decide_eq_true htx]
              exact Lib.hid rfl
            clear htx
            go_wp2
            go_ret
            exact ⟨congrArg (fun b => Ending.returned (.bool b)) HR.out, HW1.out⟩
          · have hte2 : (tk.text == c) = false := by rw [beq_eq_false_iff_ne]; exact htx
            have HF := Lib.hid (decide_eq_false htx)
            clear htx
            go_wp2
            go_roundg (ls.length - (j + 1))
            case measure => rw [HK.out]; omega
            case rel => exact ⟨j + 1, hjn, rfl, by simp, by rw [← HALL.out, HSP.out]; show _ = (decide (tk.text = c) || _); rw [HF.out, Bool.false_or], rfl⟩
        · have hjn1 : (ls.length : Int) ≤ (j : Int) := by omega
          have HANY : Hid (ls.any (fun w => decide (tk.text = w)) = false) := by
            rw [← HALL.out, List.drop_of_length_le (by omega)]
            exact Lib.hid rfl
          by_cases hz : ls = []
          · have HR : Hid (true = Rd.isW s ls) := by rw [HN.out, HANY.out, hz]; exact Lib.hid rfl
            have hz0 := eqT (n := ls.length) (k := 0) (by simp [hz])
            clear hz
            go_wp2
            go_ret
            exact ⟨congrArg (fun b => Ending.returned (.bool b)) HR.out, HW1.out⟩
          · have HR : Hid (false = Rd.isW s ls) := by
              rw [HN.out, HANY.out]
              cases hls : ls with
              | nil => exact absurd hls hz
              | cons => exact Lib.hid rfl
            have hz0 := eqF (n := ls.length) (k := 0) (by
              intro e
              exact hz (List.eq_nil_of_length_eq_zero (by omega)))
            clear hz
            go_wp2
            go_ret
            exact ⟨congrArg (fun b => Ending.returned (.bool b)) HR.out, HW1.out⟩
    · have e5 := neT (n := tk.kind) (k := 1) (by omega)
      have HR : Hid (false = Rd.isW s ls) := by
        unfold Rd.isW Rd.isN
        rw [← HTK.out, decide_eq_false hkd, Bool.and_false, Bool.false_and]
        exact Lib.hid rfl
      clear he hkd
      go_wp2_with fail
      rw [← HE.out]
      go_ret
      exact ⟨congrArg (fun b => Ending.returned (.bool b)) HR.out, HW1.out⟩
  · have e4 := eqF (n := s.err) (k := 0) (by omega)
    have e4' := neT (n := s.err) (k := 0) (by omega)
    have HR : Hid (false = Rd.isW s ls) := by
      unfold Rd.isW Rd.isN
      rw [decide_eq_false he, Bool.false_and, Bool.false_and]
      exact Lib.hid rfl
    clear he
    go_wp2_with fail
    rw [← HE.out]
    go_ret
    exact ⟨congrArg (fun b => Ending.returned (.bool b)) HR.out, HW1.out⟩
theorem rword0_any (b g : Nat) (s : Rd.St) (w : World) (h : RdAt w b g s) :
    Calls Tryd.prog 17 #[.pointer (some ⟨b, 0, none⟩), .slice none 0 0] w fun r w' => r = .returned (.bool (Rd.isN s)) ∧ Below w.heap.size w w' := by
  refine (rword_any b g s _ [] w h (Txts.nil w) (by simp)).mono ?_
  rintro r w' ⟨rfl, hb⟩
  exact ⟨by unfold Rd.isW; simp, hb⟩
theorem rword1_any (b g : Nat) (s : Rd.St) (c : List UInt8) (T : TypeId) (w : World) (h : RdAt w b g s) :
    Calls Tryd.prog 17 #[.pointer (some ⟨b, 0, none⟩), .slice (some ⟨w.heap.size, 0, none⟩) 1 1] (w.alloc (.cells #[.string ⟨c.toArray⟩] T)) fun r w' => r = .returned (.bool (Rd.isW s [c])) ∧ Below w.heap.size w w' := by
  have hb : Below w.heap.size w (w.alloc (.cells #[.string ⟨c.toArray⟩] T)) := (Below.refl _ _).alloc (Nat.le_refl _) _
  refine (rword_any b g s _ [c] _ (h.below hb) (txts_lit w [c] _ T rfl) (by simp)).mono ?_
  rintro r w' ⟨rfl, hb2⟩
  exact ⟨rfl, hb.trans (hb2.mono hb.size)⟩
theorem rword2_any (b g : Nat) (s : Rd.St) (c d : List UInt8) (T : TypeId) (w : World) (h : RdAt w b g s) :
    Calls Tryd.prog 17 #[.pointer (some ⟨b, 0, none⟩), .slice (some ⟨w.heap.size, 0, none⟩) 2 2] (w.alloc (.cells #[.string ⟨c.toArray⟩, .string ⟨d.toArray⟩] T)) fun r w' => r = .returned (.bool (Rd.isW s [c, d])) ∧ Below w.heap.size w w' := by
  have hb : Below w.heap.size w (w.alloc (.cells #[.string ⟨c.toArray⟩, .string ⟨d.toArray⟩] T)) := (Below.refl _ _).alloc (Nat.le_refl _) _
  refine (rword_any b g s _ [c, d] _ (h.below hb) (txts_lit w [c, d] _ T rfl) (by simp)).mono ?_
  rintro r w' ⟨rfl, hb2⟩
  exact ⟨rfl, hb.trans (hb2.mono hb.size)⟩
end Go.Proofs.YtabcaljnpahgpaaDoor
namespace Go.Proofs.YtabcaljnpahgpaaDoor
set_option linter.unusedSimpArgs false
set_option linter.unusedVariables false
open Go Go.RowKit

set_option maxRecDepth 100000 in
theorem rtake_any (b g : Nat) (s : Rd.St) (c : List UInt8) (w : World) (h : RdAt w b g s) :
    Calls Tryd.prog 33 #[.pointer (some ⟨b, 0, none⟩), .string ⟨c.toArray⟩] w fun r w' => r = .returned (.bool (Rd.isS s c)) ∧ RdAt w' b g (Rd.take c s) ∧ Fr b w w' := by
  have H := Lib.hid h
  clear h
  go_enter Tryd.func33, Tryd.ntmps33
  go_wp2_with fail
  refine (ris1_any b g s c _ w H.out).mono ?_
  rintro r w1 ⟨rfl, hb1⟩
  obtain ⟨B, hB⟩ : ∃ B, B = Rd.isS s c := ⟨_, rfl⟩
  have HB := Lib.hid hB
  have H1 := Lib.hid (H.out.below hb1)
  have HB1 := Lib.hid hb1
  rw [← hB]
  clear hB hb1
  cases B
  · go_wp2_with fail
    go_ret
    refine ⟨congrArg (fun b => Ending.returned (.bool b)) HB.out, ?_, But.of_below HB1.out⟩
    unfold Rd.take
    rw [if_neg (by rw [← HB.out]; simp)]
    exact H1.out
  · go_wp2_with fail
    refine (rnext_any b g s w1 H1.out).mono ?_
    rintro r w2 ⟨rfl, h2, f2⟩
    have H2 := Lib.hid h2
    have F2 := Lib.hid f2
    clear h2 f2
    go_wp2_with fail
    go_ret
    refine ⟨congrArg (fun b => Ending.returned (.bool b)) HB.out, ?_, (But.of_below HB1.out).trans F2.out⟩
    unfold Rd.take
    rw [if_pos HB.out.symm]
    exact H2.out

set_option maxRecDepth 100000 in
theorem rwant_any (b g : Nat) (s : Rd.St) (c : List UInt8) (w : World) (h : RdAt w b g s) :
    Calls Tryd.prog 44 #[.pointer (some ⟨b, 0, none⟩), .string ⟨c.toArray⟩] w fun r w' => r = .returned (.tuple #[]) ∧ RdAt w' b g (Rd.want c s) ∧ Fr b w w' := by
  have H := Lib.hid h
  clear h
  go_enter Tryd.func44, Tryd.ntmps44
  go_wp2_with fail
  refine (rtake_any b g s c w H.out).mono ?_
  rintro r w1 ⟨rfl, h1, f1⟩
  obtain ⟨B, hB⟩ : ∃ B, B = Rd.isS s c := ⟨_, rfl⟩
  have HB := Lib.hid hB
  have H1 := Lib.hid h1
  have F1 := Lib.hid f1
  rw [← hB]
  clear hB h1 f1
  cases B
  · have H2 : Hid (RdAt w1 b g s) := by
      have := H1.out
      unfold Rd.take at this
      rw [if_neg (by rw [← HB.out]; simp)] at this
      exact Lib.hid this
    go_wp2_with fail
    refine (rwrong_any b g s w1 H2.out).mono ?_
    rintro r w2 ⟨rfl, h2, f2⟩
    go_wp2_with fail
    go_end0
    refine ⟨rfl, ?_, F1.out.trans f2⟩
    unfold Rd.want
    rw [if_neg (by rw [← HB.out]; simp)]
    exact h2
  · go_wp2_with fail
    go_end0
    refine ⟨rfl, ?_, F1.out⟩
    have := H1.out
    unfold Rd.take at this
    unfold Rd.want
    rw [if_pos HB.out.symm] at this ⊢
    exact this

set_option maxRecDepth 100000 in
theorem rname_any (b g : Nat) (s : Rd.St) (w : World) (h : RdAt w b g s) :
    Calls Tryd.prog 28 #[.pointer (some ⟨b, 0, none⟩)] w fun r w' => r = .returned (.string ⟨(Rd.name s).2.toArray⟩) ∧ RdAt w' b g (Rd.name s).1 ∧ Fr b w w' := by
  have H := Lib.hid h
  clear h
  go_enter Tryd.func28, Tryd.ntmps28
  go_wp2_with fail
  refine (rword0_any b g s w H.out).mono ?_
  rintro r w1 ⟨rfl, hb1⟩
  obtain ⟨B, hB⟩ : ∃ B, B = Rd.isN s := ⟨_, rfl⟩
  have HB := Lib.hid hB
  have H1 := Lib.hid (H.out.below hb1)
  have HB1 := Lib.hid hb1
  rw [← hB]
  clear hB hb1
  cases B
  · go_wp2_with fail
    refine (rwrong_any b g s w1 H1.out).mono ?_
    rintro r w2 ⟨rfl, h2, f2⟩
    have H2 := Lib.hid h2
    have F2 := Lib.hid f2
    clear h2 f2
    have e : Rd.name s = (Rd.wrong s, []) := by unfold Rd.name; rw [if_neg (by rw [← HB.out]; simp)]
    have HE := Lib.hid e
    clear e
    go_wp2_with fail
    go_ret
    exact ⟨by rw [HE.out]; rfl, by rw [HE.out]; exact H2.out, (But.of_below HB1.out).trans F2.out⟩
  · go_wp2_with fail
    refine (rnext_any b g s w1 H1.out).mono ?_
    rintro r w2 ⟨rfl, h2, f2⟩
    have H2 := Lib.hid h2
    have F2 := Lib.hid f2
    clear h2 f2
    have e : Rd.name s = (Rd.next s, (Rd.peek s).text) := by unfold Rd.name; rw [if_pos HB.out.symm]
    have HE := Lib.hid e
    clear e
    go_wp2_with fail
    go_ret
    exact ⟨by rw [HE.out]; rfl, by rw [HE.out]; exact H2.out, (But.of_below HB1.out).trans F2.out⟩

theorem RdAt.deeped {w : World} {b g : Nat} {s : Rd.St} (h : RdAt w b g s) (d : Int) : RdAt (w.setCell ⟨b, 2, none⟩ (.int .i64 d)) b g { s with deep := d } := by
  obtain ⟨⟨T, cap, ts, i, h1, h2, h3, h4, h5⟩, h6⟩ := h
  have h7 := heap_set1 (k := 2) (v := .int .i64 d) h1
  exact ⟨⟨T, cap, ts, i, by rw [h7]; rfl, h2.heap (by rw [size_set]; exact Nat.le_refl _) (by rw [heap_set_ne h6]), h3, h4, h5⟩, h6⟩

set_option maxRecDepth 100000 in
theorem rup_any (b g : Nat) (s : Rd.St) (c : List UInt8) (w : World) (h : RdAt w b g s) (hd : -1000000 ≤ s.deep ∧ s.deep ≤ 1000000) :
    Calls Tryd.prog 55 #[.pointer (some ⟨b, 0, none⟩), .string ⟨c.toArray⟩] w fun r w' => r = .returned (.tuple #[]) ∧ RdAt w' b g (Rd.up c s) ∧ Fr b w w' := by
  have H := Lib.hid h
  obtain ⟨d0, d1⟩ := hd
  clear h
  go_enter Tryd.func55, Tryd.ntmps55
  go_wp2_with fail
  refine (rwant_any b g s c w H.out).mono ?_
  rintro r w1 ⟨rfl, h1, f1⟩
  have c2 := h1.c2
  rw [Rd.want_deep] at c2
  have z2 := h1.fz 2
  have H1 := Lib.hid h1
  have F1 := Lib.hid f1
  clear h1 f1
  go_wp2
  go_end0
  refine ⟨rfl, ?_, F1.out.setCell (.inl rfl) _⟩
  have := H1.out.deeped (s.deep - 1)
  show RdAt _ b g { Rd.want c s with deep := (Rd.want c s).deep - 1 }
  rw [Rd.want_deep]
  exact this

set_option maxRecDepth 100000 in
theorem rdown_any (b g : Nat) (s : Rd.St) (c : List UInt8) (w : World) (h : RdAt w b g s) (hd : -1000000 ≤ s.deep ∧ s.deep ≤ 1000000) :
    Calls Tryd.prog 52 #[.pointer (some ⟨b, 0, none⟩), .string ⟨c.toArray⟩] w fun r w' => r = .returned (.tuple #[]) ∧ RdAt w' b g (Rd.down c s) ∧ Fr b w w' := by
  have H := Lib.hid h
  obtain ⟨d0, d1⟩ := hd
  clear h
  go_enter Tryd.func52, Tryd.ntmps52
  go_wp2_with fail
  refine (ris1_any b g s c _ w H.out).mono ?_
  rintro r w1 ⟨rfl, hb1⟩
  obtain ⟨B, hB⟩ : ∃ B, B = Rd.isS s c := ⟨_, rfl⟩
  have HB := Lib.hid hB
  have H1 := Lib.hid (H.out.below hb1)
  have c2 := (H.out.below hb1).c2
  have HB1 := Lib.hid hb1
  rw [← hB]
  clear hB hb1
  by_cases hx : B = true ∧ s.deep = 16
  · obtain ⟨rfl, h16⟩ := hx
    have e16 : (s.deep == 16) = true := by rw [h16]; rfl
    have HD : Hid (Rd.down c s = { Rd.want c (Rd.fail 42 s) with deep := (Rd.want c (Rd.fail 42 s)).deep + 1 }) := by
      unfold Rd.down
      rw [if_pos ⟨HB.out.symm, h16⟩]
      exact Lib.hid rfl
    clear h16
    go_wp2_with fail
    refine (rfail_any b g 42 s w1 H1.out).mono ?_
    rintro r w2 ⟨rfl, h2, f2⟩
    have H2 := Lib.hid h2
    have F2 := Lib.hid f2
    clear h2 f2 c2
    go_wp2_with fail
    refine (rwant_any b g (Rd.fail 42 s) c w2 H2.out).mono ?_
    rintro r w3 ⟨rfl, h3, f3⟩
    have c2 := h3.c2
    rw [Rd.want_deep, Rd.fail_deep] at c2
    have z2 := h3.fz 2
    have H3 := Lib.hid h3
    have F3 := Lib.hid f3
    clear h3 f3
    go_wp2
    go_end0
    refine ⟨rfl, ?_, (((But.of_below HB1.out).trans F2.out).trans F3.out).setCell (.inl rfl) _⟩
    rw [HD.out, Rd.want_deep, Rd.fail_deep]
    exact H3.out.deeped (s.deep + 1)
  · have HD : Hid (Rd.down c s = { Rd.want c s with deep := (Rd.want c s).deep + 1 }) := by
      unfold Rd.down
      rw [if_neg (fun h => hx ⟨by rw [HB.out]; exact h.1, h.2⟩)]
      exact Lib.hid rfl
    have hcase : B = false ∨ (B = true ∧ (s.deep == 16) = false) := by
      cases B
      · exact .inl rfl
      · refine .inr ⟨rfl, ?_⟩
        rw [beq_eq_false_iff_ne]
        exact fun h => hx ⟨rfl, h⟩
    clear hx
    rcases hcase with rfl | ⟨rfl, e16⟩
    all_goals
      go_wp2_with fail
      refine (rwant_any b g s c w1 H1.out).mono ?_
      rintro r w3 ⟨rfl, h3, f3⟩
      clear c2
      have c2 := h3.c2
      rw [Rd.want_deep] at c2
      have z2 := h3.fz 2
      have H3 := Lib.hid h3
      have F3 := Lib.hid f3
      clear h3 f3
      go_wp2
      go_end0
      refine ⟨rfl, ?_, ((But.of_below HB1.out).trans F3.out).setCell (.inl rfl) _⟩
      rw [HD.out, Rd.want_deep]
      exact H3.out.deeped (s.deep + 1)
namespace Rd
section
variable {α : Type} (c : List UInt8) (f : St → St × α)
/-- A step that goes on, or ends in an error. -/
def Goes : Prop := ∀ s, s.err = 0 → (f s).1.err ≠ 0 ∨ (f s).1.rest.length < s.rest.length
end
end Rd

set_option maxHeartbeats 1000000 in
set_option maxRecDepth 100000 in
/-- The reader's 'Some', whatever is done. -/
theorem some_any {α : Type} (c : List UInt8) (f : Rd.St → Rd.St × α) (I : Rd.St → List α → World → Prop) (b g : Nat) (k : FuncId) (cap : Array Value) (hk : ∀ w, Sem.run Tryd.prog (callFunc k cap) w = .ok (.enter k cap) w)
    (hR : ∀ s out w, I s out w → RdAt w b g s) (hB : ∀ s out w w', I s out w → Below w.heap.size w w' → I s out w')
    (hdo : ∀ s out w, I s out w → s.err = 0 → Calls Tryd.prog k cap w fun r w' => r = .returned (.tuple #[]) ∧ I (f s).1 (out ++ [(f s).2]) w')
    (hG : ∀ s out w, I s out w → s.err = 0 → Rd.isS s c = false → (f s).1.err ≠ 0 ∨ (f s).1.rest.length < s.rest.length)
    (n : Nat) (s0 : Rd.St) (out0 : List α) (w : World) (h0 : I s0 out0 w) (hn : s0.err ≠ 0 ∨ s0.rest.length < n) :
    Calls Tryd.prog 41 #[.pointer (some ⟨b, 0, none⟩), .string ⟨c.toArray⟩, .bool false, .func (.func k) #[] cap] w fun r w' => r = .returned (.tuple #[]) ∧ I (Rd.loop c f n s0 out0).1 (Rd.loop c f n s0 out0).2 w' := by
  have H0 := Lib.hid h0
  have HRR := Lib.hid hR
  have HBB := Lib.hid hB
  have HDO := Lib.hid hdo
  have HG := Lib.hid hG
  obtain ⟨L, hL⟩ : ∃ L, L = Rd.loop c f n s0 out0 := ⟨_, rfl⟩
  have HL := Lib.hid hL
  rw [← hL]
  clear h0 hR hB hdo hG hL
  go_enter Tryd.func41, Tryd.ntmps41
  go_wp2_with fail
  go_loopg [] (n + 1) (fun q wr => ∃ (m : Nat) (s : Rd.St) (out : List α), q = m + 1 ∧ I s out wr ∧ (s.err ≠ 0 ∨ s.rest.length < m) ∧ Rd.loop c f m s out = L)
  case atStart => exact ⟨n, _, _, rfl, H0.out, hn, HL.out.symm⟩
  case round =>
    obtain ⟨m, s, out, rfl, hI, hm, hloop⟩ := hrel
    have HI := Lib.hid hI
    have HLP := Lib.hid hloop
    have HM := Lib.hid hm
    have c4 := (HRR.out _ _ _ hI).c4
    clear hI hloop hm
    by_cases he : s.err = 0
    · have e4 := eqT (n := s.err) (k := 0) (by omega)
      have HHE := Lib.hid he
      clear he
      go_wp2_with fail
      refine (ris1_any b g s c _ wr (HRR.out _ _ _ HI.out)).mono ?_
      rintro r w1 ⟨rfl, hb1⟩
      obtain ⟨B, hBe⟩ : ∃ B, B = Rd.isS s c := ⟨_, rfl⟩
      have HBE := Lib.hid hBe
      have H1 := Lib.hid (HBB.out _ _ _ _ HI.out hb1)
      rw [← hBe]
      clear hBe hb1
      cases B
      · obtain ⟨m', rfl⟩ : ∃ m', m = m' + 1 := by
          rcases HM.out with h | h
          · exact absurd HHE.out h
          · exact ⟨m - 1, by omega⟩
        have HST : Hid (Rd.loop c f m' (f s).1 (out ++ [(f s).2]) = L) := by
          rw [← HLP.out, Rd.loop, if_pos ⟨HHE.out, HBE.out.symm⟩]
          exact Lib.hid rfl
        go_wp2_with fail
        refine (HDO.out s out w1 H1.out HHE.out).mono ?_
        rintro r w2 ⟨rfl, h2⟩
        have H2 := Lib.hid h2
        clear h2
        have HST2 : Hid ((f s).1.err ≠ 0 ∨ (f s).1.rest.length < m') := by
          rcases HG.out s out w1 H1.out HHE.out HBE.out.symm with h | h
          · exact Lib.hid (.inl h)
          · rcases HM.out with h2 | h2
            · exact absurd HHE.out h2
            · exact Lib.hid (.inr (by omega))
        go_wp2_with fail
        go_roundg (m' + 1)
        case measure => omega
        case rel => exact ⟨m', (f s).1, out ++ [(f s).2], rfl, H2.out, HST2.out, HST.out⟩
      · have HEND : Hid (L = (s, out)) := by
          rw [← HLP.out]
          cases m with
          | zero => exact Lib.hid rfl
          | succ m => rw [Rd.loop, if_neg (fun h => by have := h.2; rw [← HBE.out] at this; cases this)]; exact Lib.hid rfl
        go_wp2_with fail
        go_end0
        exact ⟨rfl, by rw [HEND.out]; exact H1.out⟩
    · have e4 := eqF (n := s.err) (k := 0) (by omega)
      have HEND : Hid (L = (s, out)) := by
        rw [← HLP.out]
        cases m with
        | zero => exact Lib.hid rfl
        | succ m => rw [Rd.loop, if_neg (fun h => he h.1)]; exact Lib.hid rfl
      clear he
      go_wp2_with fail
      go_end0
      exact ⟨rfl, by rw [HEND.out]; exact HI.out⟩
set_option maxHeartbeats 1000000 in
set_option maxRecDepth 100000 in
/-- Likewise, once at least. -/
theorem some1_any {α : Type} (c : List UInt8) (f : Rd.St → Rd.St × α) (I : Rd.St → List α → World → Prop) (b g : Nat) (k : FuncId) (cap : Array Value) (hk : ∀ w, Sem.run Tryd.prog (callFunc k cap) w = .ok (.enter k cap) w)
    (hR : ∀ s out w, I s out w → RdAt w b g s) (hB : ∀ s out w w', I s out w → Below w.heap.size w w' → I s out w')
    (hdo : ∀ s out w, I s out w → s.err = 0 → Calls Tryd.prog k cap w fun r w' => r = .returned (.tuple #[]) ∧ I (f s).1 (out ++ [(f s).2]) w')
    (hG : ∀ s out w, I s out w → s.err = 0 → Rd.isS s c = false → (f s).1.err ≠ 0 ∨ (f s).1.rest.length < s.rest.length)
    (n : Nat) (s0 : Rd.St) (w : World) (hfirst : Calls Tryd.prog k cap w fun r w' => r = .returned (.tuple #[]) ∧ I (f s0).1 [(f s0).2] w') (hn : (f s0).1.err ≠ 0 ∨ (f s0).1.rest.length < n) :
    Calls Tryd.prog 41 #[.pointer (some ⟨b, 0, none⟩), .string ⟨c.toArray⟩, .bool true, .func (.func k) #[] cap] w fun r w' => r = .returned (.tuple #[]) ∧ I (Rd.loop1 c f n s0).1 (Rd.loop1 c f n s0).2 w' := by
  have HF0 := Lib.hid hfirst
  have HRR := Lib.hid hR
  have HBB := Lib.hid hB
  have HDO := Lib.hid hdo
  have HG := Lib.hid hG
  obtain ⟨L, hL⟩ : ∃ L, L = Rd.loop1 c f n s0 := ⟨_, rfl⟩
  have HL : Hid (L = Rd.loop c f n (f s0).1 [(f s0).2]) := Lib.hid hL
  rw [← hL]
  clear hfirst hR hB hdo hG hL
  go_enter Tryd.func41, Tryd.ntmps41
  go_wp2_with fail
  refine HF0.out.mono ?_
  rintro r w0 ⟨rfl, h0⟩
  have H0 := Lib.hid h0
  clear h0
  go_wp2_with fail
  go_loopg [] (n + 1) (fun q wr => ∃ (m : Nat) (s : Rd.St) (out : List α), q = m + 1 ∧ I s out wr ∧ (s.err ≠ 0 ∨ s.rest.length < m) ∧ Rd.loop c f m s out = L)
  case atStart => exact ⟨n, _, _, rfl, H0.out, hn, HL.out.symm⟩
  case round =>
    obtain ⟨m, s, out, rfl, hI, hm, hloop⟩ := hrel
    have HI := Lib.hid hI
    have HLP := Lib.hid hloop
    have HM := Lib.hid hm
    have c4 := (HRR.out _ _ _ hI).c4
    clear hI hloop hm
    by_cases he : s.err = 0
    · have e4 := eqT (n := s.err) (k := 0) (by omega)
      have HHE := Lib.hid he
      clear he
      go_wp2_with fail
      refine (ris1_any b g s c _ wr (HRR.out _ _ _ HI.out)).mono ?_
      rintro r w1 ⟨rfl, hb1⟩
      obtain ⟨B, hBe⟩ : ∃ B, B = Rd.isS s c := ⟨_, rfl⟩
      have HBE := Lib.hid hBe
      have H1 := Lib.hid (HBB.out _ _ _ _ HI.out hb1)
      rw [← hBe]
      clear hBe hb1
      cases B
      · obtain ⟨m', rfl⟩ : ∃ m', m = m' + 1 := by
          rcases HM.out with h | h
          · exact absurd HHE.out h
          · exact ⟨m - 1, by omega⟩
        have HST : Hid (Rd.loop c f m' (f s).1 (out ++ [(f s).2]) = L) := by
          rw [← HLP.out, Rd.loop, if_pos ⟨HHE.out, HBE.out.symm⟩]
          exact Lib.hid rfl
        go_wp2_with fail
        refine (HDO.out s out w1 H1.out HHE.out).mono ?_
        rintro r w2 ⟨rfl, h2⟩
        have H2 := Lib.hid h2
        clear h2
        have HST2 : Hid ((f s).1.err ≠ 0 ∨ (f s).1.rest.length < m') := by
          rcases HG.out s out w1 H1.out HHE.out HBE.out.symm with h | h
          · exact Lib.hid (.inl h)
          · rcases HM.out with h2 | h2
            · exact absurd HHE.out h2
            · exact Lib.hid (.inr (by omega))
        go_wp2_with fail
        go_roundg (m' + 1)
        case measure => omega
        case rel => exact ⟨m', (f s).1, out ++ [(f s).2], rfl, H2.out, HST2.out, HST.out⟩
      · have HEND : Hid (L = (s, out)) := by
          rw [← HLP.out]
          cases m with
          | zero => exact Lib.hid rfl
          | succ m => rw [Rd.loop, if_neg (fun h => by have := h.2; rw [← HBE.out] at this; cases this)]; exact Lib.hid rfl
        go_wp2_with fail
        go_end0
        exact ⟨rfl, by rw [HEND.out]; exact H1.out⟩
    · have e4 := eqF (n := s.err) (k := 0) (by omega)
      have HEND : Hid (L = (s, out)) := by
        rw [← HLP.out]
        cases m with
        | zero => exact Lib.hid rfl
        | succ m => rw [Rd.loop, if_neg (fun h => he h.1)]; exact Lib.hid rfl
      clear he
      go_wp2_with fail
      go_end0
      exact ⟨rfl, by rw [HEND.out]; exact HI.out⟩
end Go.Proofs.YtabcaljnpahgpaaDoor
