/-
  The document's 'Rune'.
-/
import Derived.Test.YtonblegbnkfhbaaDoorL7ref
namespace Go.Proofs.YtonblegbnkfhbaaDoor
set_option linter.unusedSimpArgs false
set_option linter.unusedVariables false
open Go Go.RowKit

/-- Whether a byte at a place goes on a rune. -/
def goesAt (s : ByteArray) (a : Nat) : Bool := decide (a < s.size) && Lx.cont (bt s a)
theorem rune_bt (s : ByteArray) (a : Nat) (h : a < s.size) : Lx.rune (sfx s a) =
    if (bt s a).toNat < 128 then ((bt s a).toNat, 1)
    else if 192 ≤ (bt s a).toNat ∧ (bt s a).toNat < 224 ∧ goesAt s (a + 1) then
      (if 128 ≤ ((bt s a).toNat - 192) * 64 + ((bt s (a + 1)).toNat - 128) then (((bt s a).toNat - 192) * 64 + ((bt s (a + 1)).toNat - 128), 2) else (0, 0))
    else if 224 ≤ (bt s a).toNat ∧ (bt s a).toNat < 240 ∧ goesAt s (a + 1) ∧ goesAt s (a + 2) then
      (if 2048 ≤ ((bt s a).toNat - 224) * 4096 + ((bt s (a + 1)).toNat - 128) * 64 + ((bt s (a + 2)).toNat - 128) ∧ (((bt s a).toNat - 224) * 4096 + ((bt s (a + 1)).toNat - 128) * 64 + ((bt s (a + 2)).toNat - 128) < 55296 ∨ 57343 < ((bt s a).toNat - 224) * 4096 + ((bt s (a + 1)).toNat - 128) * 64 + ((bt s (a + 2)).toNat - 128))
        then (((bt s a).toNat - 224) * 4096 + ((bt s (a + 1)).toNat - 128) * 64 + ((bt s (a + 2)).toNat - 128), 3) else (0, 0))
    else if 240 ≤ (bt s a).toNat ∧ (bt s a).toNat < 248 ∧ goesAt s (a + 1) ∧ goesAt s (a + 2) ∧ goesAt s (a + 3) then
      (if 65536 ≤ ((bt s a).toNat - 240) * 262144 + ((bt s (a + 1)).toNat - 128) * 4096 + ((bt s (a + 2)).toNat - 128) * 64 + ((bt s (a + 3)).toNat - 128) ∧ ((bt s a).toNat - 240) * 262144 + ((bt s (a + 1)).toNat - 128) * 4096 + ((bt s (a + 2)).toNat - 128) * 64 + ((bt s (a + 3)).toNat - 128) ≤ 1114111
        then (((bt s a).toNat - 240) * 262144 + ((bt s (a + 1)).toNat - 128) * 4096 + ((bt s (a + 2)).toNat - 128) * 64 + ((bt s (a + 3)).toNat - 128), 4) else (0, 0))
    else (0, 0) := by
  rw [sfx_cons s a h]
  unfold Lx.rune
  by_cases h1 : a + 1 < s.size
  · rw [sfx_cons s (a + 1) h1]
    by_cases h2 : a + 2 < s.size
    · rw [sfx_cons s (a + 1 + 1) h2]
      by_cases h3 : a + 3 < s.size
      · rw [sfx_cons s (a + 1 + 1 + 1) h3]
        simp only [goesAt, h1, h2, h3, decide_true, Bool.true_and]
      · rw [sfx_end s (a + 1 + 1 + 1) (by omega)]
        simp [goesAt, h1, h2, h3]
    · rw [sfx_end s (a + 1 + 1) (by omega)]
      have h3 : ¬ a + 3 < s.size := by omega
      simp [goesAt, h1, h2, h3]
  · rw [sfx_end s (a + 1) (by omega)]
    have h2 : ¬ a + 2 < s.size := by omega
    have h3 : ¬ a + 3 < s.size := by omega
    simp [goesAt, h1, h2, h3]
end Go.Proofs.YtonblegbnkfhbaaDoor
