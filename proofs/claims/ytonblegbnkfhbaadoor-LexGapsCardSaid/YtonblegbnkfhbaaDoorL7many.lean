/-
  'LexMany': so many signs, so many blanks.
-/
import Derived.Test.YtonblegbnkfhbaaDoorLxtk
import Derived.Laws.IdiomStrings
namespace Go.Proofs.YtonblegbnkfhbaaDoor
set_option linter.unusedSimpArgs false
set_option linter.unusedVariables false
open Go Go.RowKit

theorem gap_bang (f : Bool) (t : List UInt8) : Lx.gap f (33 :: t) = (33 :: t, true) := by
  rw [Lx.gap]; simp (decide := true) [Lx.isBlank, Lx.bom]
theorem gap_blanks : ∀ (n : Nat) (f : Bool), Lx.gap f (List.replicate n 32) = ([], true)
  | 0, f => by rw [List.replicate_zero, Lx.gap]
  | n + 1, f => by rw [List.replicate_succ, Lx.gap, if_pos (by decide)]; exact gap_blanks n false
theorem token_bang (t : List UInt8) : Lx.token (33 :: t) = some (5, [33], t) := by
  simp (decide := true) [Lx.token, Lx.hd, Lx.isLetter, Lx.isDigit, Lx.quotes3, Lx.dots3, Lx.signs]

theorem many_go (B : Nat) : ∀ (m n size : Nat) (out : List Lx.Tok), m < n → size = out.length + m + B → out.length ≤ 1500 →
    (1500 < out.length + m → Lx.lexGo size n (List.replicate m 33 ++ List.replicate B 32) out = .err 1500 8) ∧
    (out.length + m ≤ 1500 → ∃ ts, Lx.lexGo size n (List.replicate m 33 ++ List.replicate B 32) out = .ok ts ∧ ts.length = out.length + m + 1)
  | 0, n + 1, size, out, _, hs, ho => by
    refine ⟨fun h => by omega, fun _ => ?_⟩
    rw [List.replicate_zero, List.nil_append, Lx.lexGo, gap_blanks, if_neg (by simp)]
    exact ⟨_, if_pos rfl, by simp⟩
  | m + 1, n + 1, size, out, hm, hs, ho => by
    have e : List.replicate (m + 1) (33 : UInt8) ++ List.replicate B 32 = 33 :: (List.replicate m 33 ++ List.replicate B 32) := by rw [List.replicate_succ, List.cons_append]
    have hl : (33 :: (List.replicate m (33 : UInt8) ++ List.replicate B 32)).length = m + 1 + B := by simp; omega
    rw [e, Lx.lexGo, gap_bang, if_neg (by simp), if_neg (by simp), token_bang]
    simp only [hl]
    have hat : size - (m + 1 + B) = out.length := by omega
    rw [hat]
    by_cases h15 : out.length = 1500
    · rw [if_pos h15, h15]
      exact ⟨fun _ => rfl, fun h => by omega⟩
    · rw [if_neg h15]
      have := many_go B m n size (out ++ [⟨5, [33], out.length⟩]) (by omega) (by simp; omega) (by simp; omega)
      rw [List.length_append] at this
      simp only [List.length_singleton] at this
      rw [show out.length + (m + 1) = out.length + 1 + m by omega]
      exact this

theorem many_lex (m B : Nat) :
    (4096 < m + B → Lx.lex (List.replicate m 33 ++ List.replicate B 32) = .err 0 5) ∧
    (m + B ≤ 4096 → 1500 < m → Lx.lex (List.replicate m 33 ++ List.replicate B 32) = .err 1500 8) ∧
    (m + B ≤ 4096 → m ≤ 1500 → ∃ ts, Lx.lex (List.replicate m 33 ++ List.replicate B 32) = .ok ts ∧ ts.length = m + 1) := by
  have hl : (List.replicate m (33 : UInt8) ++ List.replicate B 32).length = m + B := by simp
  have := many_go B m (m + B + 1) (m + B) [] (by omega) (by simp) (by simp)
  simp only [List.length_nil, Nat.zero_add] at this
  unfold Lx.lex
  rw [hl]
  refine ⟨fun h => by rw [if_pos h], fun h h2 => ?_, fun h h2 => ?_⟩
  · rw [if_neg (by omega)]; exact this.1 h2
  · rw [if_neg (by omega)]; exact this.2 h2
end Go.Proofs.YtonblegbnkfhbaaDoor
