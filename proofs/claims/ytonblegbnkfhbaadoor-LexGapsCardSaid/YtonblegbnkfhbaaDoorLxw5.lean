/-
  The lexer's 'hex', walked.
-/
import Derived.Test.YtonblegbnkfhbaaDoorLxw1
import Derived.Test.YtonblegbnkfhbaaDoorLxg
import Derived.Outline
namespace Go.Proofs.YtonblegbnkfhbaaDoor
set_option linter.unusedSimpArgs false
set_option linter.unusedVariables false
open Go Go.RowKit

def hexDigits : List UInt8 := [48, 49, 50, 51, 52, 53, 54, 55, 56, 57, 97, 98, 99, 100, 101, 102]
def hexGo (c : UInt8) : Option Nat :=
  if Lib.indexByte hexDigits (c ||| 32) < 0 ∨ c.toNat < 48 ∨ (57 < c.toNat ∧ c.toNat < 65) then none else some (Lib.indexByte hexDigits (c ||| 32)).toNat
theorem hexGo_fin : ∀ n : Fin 256, hexGo (UInt8.ofNat n.val) = Lx.hexv (UInt8.ofNat n.val) ∧ Lib.indexByte hexDigits (UInt8.ofNat n.val ||| 32) < 16 ∧ -1 ≤ Lib.indexByte hexDigits (UInt8.ofNat n.val ||| 32) := by decide +kernel
theorem hexGo_eq (c : UInt8) : hexGo c = Lx.hexv c ∧ Lib.indexByte hexDigits (c ||| 32) < 16 ∧ -1 ≤ Lib.indexByte hexDigits (c ||| 32) := by
  have := hexGo_fin ⟨c.toNat, UInt8.toNat_lt c⟩
  simpa using this

theorem hexIdx (c : UInt8) (w : World) :
    Calls Tryd.prog 24 #[.string ⟨#[48, 49, 50, 51, 52, 53, 54, 55, 56, 57, 97, 98, 99, 100, 101, 102]⟩, .int .u8 ((c.toNat ||| 32 : Nat) : Int)] w fun e w' => e = .returned (.int .i64 (Lib.indexByte hexDigits (c ||| 32))) ∧ w' = w := by
  refine (Tryd.strings_IndexByte _ _ _).mono ?_
  rintro e w' ⟨rfl, rfl⟩
  refine ⟨?_, rfl⟩
  have h1 : (((c.toNat ||| 32 : Nat) : Int)).toNat.toUInt8 = c ||| 32 := by
    rw [Int.toNat_natCast, show c.toNat ||| 32 = (c ||| 32).toNat from (UInt8.toNat_or c 32).symm]
    simp
  rw [h1]
  rfl

def hexAns (o : Option Nat) : Int := match o with | some v => v | none => -1
def HexPost (s : ByteArray) (w : World) (e : Ending) (w' : World) : Prop := e = .returned (.int .i32 (hexAns (Lx.hex s.data.toList))) ∧ w' = w

theorem hexs_none {s : ByteArray} {k r : Nat} (hk : k < 4) (hks : k < s.size) (h : Lx.hexv (bt s k) = none) : Lx.hexs (4 - k) r (sfx s k) = none := by
  rw [sfx_cons s k hks, show 4 - k = (3 - k) + 1 by omega, Lx.hexs, h]
theorem hexs_some {s : ByteArray} {k r v : Nat} (hk : k < 4) (hks : k < s.size) (h : Lx.hexv (bt s k) = some v) : Lx.hexs (4 - k) r (sfx s k) = Lx.hexs (4 - (k + 1)) (r * 16 + v) (sfx s (k + 1)) := by
  rw [sfx_cons s k hks, show 4 - k = (3 - k) + 1 by omega, Lx.hexs, h]
  rw [show 4 - (k + 1) = 3 - k by omega]
theorem hexs_short : ∀ (n r : Nat) (l : List UInt8), l.length < n → Lx.hexs n r l = none
  | 0, _, _, h => by omega
  | n + 1, r, [], _ => rfl
  | n + 1, r, c :: l, h => by
    unfold Lx.hexs
    split
    · rfl
    · exact hexs_short n _ l (by simpa using h)

set_option maxHeartbeats 4000000 in
set_option maxRecDepth 100000 in
theorem hex_any (s : ByteArray) (w : World) (hs : s.size ≤ 4096) : Calls Tryd.prog 44 #[.string s] w (HexPost s w) := by
  by_cases h4 : s.size < 4
  · have h4' : (s.size : Int) < 4 := by omega
    go_enter Tryd.func44, Tryd.ntmps44
    go_wp2
    go_ret
    have : Lx.hex s.data.toList = none := hexs_short 4 0 _ (by simpa using h4)
    exact ⟨by rw [this]; rfl, rfl⟩
  · have h4' : (4 : Int) ≤ s.size := by omega
    have hm0 : Lx.hexs (4 - 0) 0 (sfx s 0) = Lx.hex s.data.toList := by rw [sfx_all]; rfl
    have HM0 := Lib.hid hm0
    clear hm0
    go_enter Tryd.func44, Tryd.ntmps44
    go_wp2
    go_loop [3, 9] (fun s3 s9 => ∃ (k r : Nat), k ≤ 4 ∧ r < 16 ^ k ∧ s3 = .int .i32 r ∧ s9 = .int .i64 k ∧ Lx.hexs (4 - k) r (sfx s k) = Lx.hex s.data.toList) (fun _ s9 => (4 - intOf s9).toNat)
    case atStart => exact ⟨0, 0, by omega, by decide, rfl, rfl, HM0.out⟩
    case round =>
      obtain ⟨k, r, hk, hr, rfl, rfl, hm⟩ := hrel
      have HM := Lib.hid hm
      have HR := Lib.hid hr
      clear hm hr
      by_cases hk4 : k < 4
      · have hks : (k : Int) < s.size := by omega
        have hr16 : r < 4096 := by
          have h1 := HR.out
          have h2 : 16 ^ k ≤ 16 ^ 3 := Nat.pow_le_pow_right (by omega) (by omega)
          omega
        obtain ⟨g1, g2, g3⟩ := hexGo_eq (bt s k)
        have h32 := or32 (bt s k)
        have hI := hexIdx (bt s k)
        unfold hexGo at g1
        generalize Lib.indexByte hexDigits (bt s k ||| 32) = kk at g1 g2 g3 hI
        have HG := Lib.hid g1
        have HI := Lib.hid hI
        clear g1 hI
        have hcase : (decide (kk < 0) = true ∧ Lx.hexv (bt s k) = none) ∨ (decide (kk < 0) = false ∧ decide (((bt s k).toNat : Int) < 48) = true ∧ Lx.hexv (bt s k) = none) ∨
            (decide (kk < 0) = false ∧ decide (((bt s k).toNat : Int) < 48) = false ∧ decide (57 < ((bt s k).toNat : Int)) = true ∧ decide (((bt s k).toNat : Int) < 65) = true ∧ Lx.hexv (bt s k) = none) ∨
            (decide (kk < 0) = false ∧ decide (((bt s k).toNat : Int) < 48) = false ∧ decide (57 < ((bt s k).toNat : Int)) = true ∧ decide (((bt s k).toNat : Int) < 65) = false ∧ Lx.hexv (bt s k) = some kk.toNat ∧ 0 ≤ kk) ∨
            (decide (kk < 0) = false ∧ decide (((bt s k).toNat : Int) < 48) = false ∧ decide (57 < ((bt s k).toNat : Int)) = false ∧ Lx.hexv (bt s k) = some kk.toNat ∧ 0 ≤ kk) := by
          have hg := HG.out
          by_cases a1 : kk < 0
          · exact .inl ⟨by simpa using a1, by rw [← hg, if_pos (.inl a1)]⟩
          · by_cases a2 : (bt s k).toNat < 48
            · exact .inr (.inl ⟨by simpa using a1, by simp; omega, by rw [← hg, if_pos (.inr (.inl a2))]⟩)
            · by_cases a3 : 57 < (bt s k).toNat
              · by_cases a4 : (bt s k).toNat < 65
                · exact .inr (.inr (.inl ⟨by simpa using a1, by simp; omega, by simp; omega, by simp; omega, by rw [← hg, if_pos (.inr (.inr ⟨a3, a4⟩))]⟩))
                · exact .inr (.inr (.inr (.inl ⟨by simpa using a1, by simp; omega, by simp; omega, by simp; omega, by rw [← hg, if_neg (by omega)], by omega⟩)))
              · exact .inr (.inr (.inr (.inr ⟨by simpa using a1, by simp; omega, by simp; omega, by rw [← hg, if_neg (by omega)], by omega⟩)))
        rcases hcase with ⟨e1, e5⟩ | ⟨e1, e2, e5⟩ | ⟨e1, e2, e3, e4, e5⟩ | ⟨e1, e2, e3, e4, e5, e6⟩ | ⟨e1, e2, e3, e5, e6⟩
        all_goals
          have E5 := Lib.hid e5
          clear e5
          go_wp2_with (go_at_call 24; refine (HI.out _).mono ?_; rintro e w' ⟨rfl, hw'⟩; subst hw')
        · go_ret
          exact ⟨by rw [← HM.out, hexs_none hk4 (by omega) E5.out]; rfl, rfl⟩
        · go_ret
          exact ⟨by rw [← HM.out, hexs_none hk4 (by omega) E5.out]; rfl, rfl⟩
        · go_ret
          exact ⟨by rw [← HM.out, hexs_none hk4 (by omega) E5.out]; rfl, rfl⟩
        all_goals
          obtain ⟨v, rfl⟩ := Int.eq_ofNat_of_zero_le e6
          have hor : bits BinOp.or IntKind.i32 ((r : Int) * 16) (v : Int) = ((r * 16 + v : Nat) : Int) := by
            rw [bits_join .i32 31 (by decide) wraps_i32 4 _ _ (by omega) (by omega) (by omega) (by omega) (by omega) (by omega)]
            omega
          refine ⟨⟨k + 1, r * 16 + v, by omega, ?_, by rw [hor], by go_num, ?_⟩, by simp [intOf]; omega⟩
          · have h1 := HR.out
            rw [Nat.pow_succ]
            omega
          · rw [← HM.out]
            have := hexs_some (r := r) hk4 (by omega) E5.out
            rw [Int.toNat_natCast] at this
            exact this.symm
      · have hk4' : (4 : Int) ≤ k := by omega
        have hke : k = 4 := by omega
        go_wp2
        go_ret
        refine ⟨?_, rfl⟩
        rw [← HM.out, hke]
        rfl
end Go.Proofs.YtonblegbnkfhbaaDoor
