/-
  Where the tokens stand in the text.
-/
import Derived.Test.YtonblegbnkfhbaaDoorLxlm
import Derived.Test.YtonblegbnkfhbaaDoorBase
import Derived.Test.YtonblegbnkfhbaaDoorLxr
namespace Go.Proofs.YtonblegbnkfhbaaDoor
set_option linter.unusedSimpArgs false
set_option linter.unusedVariables false
open Go Go.RowKit

/-- Behind a token, as far as its text tells. -/
def endOf (t : Lx.Tok) : Nat := if t.kind = 4 then t.at_ + 1 else t.at_ + t.text.length
/-- A token that stands in the text at its place, not before p. -/
structure TokOk (s : ByteArray) (p : Nat) (t : Lx.Tok) : Prop where
  k1 : 1 ≤ t.kind
  k5 : t.kind ≤ 5
  lo : p ≤ t.at_
  hi : t.at_ < s.size
  quote : t.kind = 4 → bt s t.at_ = 34
  pos : t.kind ≠ 4 → 0 < t.text.length
  fits : t.kind ≠ 4 → t.at_ + t.text.length ≤ s.size
  same : t.kind ≠ 4 → t.text = (sfx s t.at_).take t.text.length
/-- One behind the other, from p on, no further than q. -/
def Chain (s : ByteArray) : Nat → List Lx.Tok → Nat → Prop
  | p, [], q => p ≤ q
  | p, t :: ts, q => TokOk s p t ∧ Chain s (endOf t) ts q
theorem Chain.mono {s : ByteArray} : ∀ {ts : List Lx.Tok} {p q q' : Nat}, Chain s p ts q → q ≤ q' → Chain s p ts q'
  | [], _, _, _, h, hq => Nat.le_trans h hq
  | _ :: ts, _, _, _, h, hq => ⟨h.1, Chain.mono h.2 hq⟩
theorem TokOk.mono {s : ByteArray} {p p' : Nat} {t : Lx.Tok} (h : TokOk s p t) (hp : p' ≤ p) : TokOk s p' t := { h with lo := Nat.le_trans hp h.lo }
theorem Chain.snoc {s : ByteArray} : ∀ {ts : List Lx.Tok} {p q q' : Nat} {t : Lx.Tok}, Chain s p ts q → TokOk s q t → endOf t ≤ q' → Chain s p (ts ++ [t]) q'
  | [], _, _, _, _, h, ht, hq => ⟨ht.mono h, hq⟩
  | _ :: ts, _, _, _, _, h, ht, hq => ⟨h.1, Chain.snoc h.2 ht hq⟩

theorem number_kind {l : List UInt8} {r : Nat × List UInt8} (h : Lx.number l = some r) : r.1 = 2 ∨ r.1 = 3 := by
  have h1 : ∀ (x y : Nat × List UInt8), Lx.numEnd x = some y → y = x := by
    intro x y h
    unfold Lx.numEnd at h
    split at h
    · cases h
    · exact (Option.some.inj h).symm
  have h2 : ∀ (x y : Nat × List UInt8), Lx.numExp x = some y → y.1 = x.1 ∨ y.1 = 3 := by
    intro x y h
    unfold Lx.numExp at h
    split at h
    · dsimp only at h
      repeat' split at h
      all_goals first | exact .inr (by rw [h1 _ _ h]) | cases h
    · exact .inl (by rw [h1 _ _ h])
  have h3 : ∀ (x : List UInt8) (y : Nat × List UInt8), Lx.numFrac x = some y → y.1 = 2 ∨ y.1 = 3 := by
    intro x y h
    unfold Lx.numFrac at h
    split at h
    · split at h
      · cases h
      · rcases h2 _ _ h with e | e
        · exact .inr e
        · exact .inr e
    · rcases h2 _ _ h with e | e
      · exact .inl e
      · exact .inr e
  unfold Lx.number at h
  dsimp only at h
  repeat' split at h
  all_goals first | exact h3 _ _ h | cases h

theorem token_shape {l : List UInt8} {k : Nat} {T r : List UInt8} (h : Lx.token l = some (k, T, r)) (hl : 0 < l.length) :
    (k = 4 ∧ Lx.hd l = 34) ∨ (k ≠ 4 ∧ T = l.take (l.length - r.length)) := by
  unfold Lx.token at h
  split at h
  · simp only [Option.some.injEq, Prod.mk.injEq] at h
    obtain ⟨rfl, rfl, rfl⟩ := h
    exact .inr ⟨by decide, rfl⟩
  split at h
  · obtain ⟨p, hp, he⟩ := Option.map_eq_some_iff.1 h
    simp only [Prod.mk.injEq] at he
    obtain ⟨rfl, rfl, rfl⟩ := he
    refine .inr ⟨?_, rfl⟩
    rcases number_kind hp with e | e <;> rw [e] <;> decide
  split at h
  · rename_i hq
    obtain ⟨p, hp, he⟩ := Option.map_eq_some_iff.1 h
    simp only [Prod.mk.injEq] at he
    refine .inl ⟨he.1.symm, ?_⟩
    cases l with
    | nil => simp at hl
    | cons c t =>
      unfold Lx.quotes3 at hq
      have := of_decide_eq_true hq
      simp at this
      exact this.1
  split at h
  · rename_i hq
    obtain ⟨p, hp, he⟩ := Option.map_eq_some_iff.1 h
    simp only [Prod.mk.injEq] at he
    exact .inl ⟨he.1.symm, UInt8.toNat_inj.1 hq⟩
  split at h
  · rename_i hq
    simp only [Option.some.injEq, Prod.mk.injEq] at h
    obtain ⟨rfl, rfl, rfl⟩ := h
    refine .inr ⟨by decide, ?_⟩
    have h3 : 3 ≤ l.length := by
      unfold Lx.dots3 at hq
      have h1 := congrArg List.length (of_decide_eq_true hq)
      rw [List.length_take] at h1
      simp at h1; omega
    rw [List.length_drop]
    congr 1
    omega
  split at h
  · simp only [Option.some.injEq, Prod.mk.injEq] at h
    obtain ⟨rfl, rfl, rfl⟩ := h
    refine .inr ⟨by decide, ?_⟩
    rw [List.length_drop]
    congr 1
    omega
  · cases h

/-- What the lexer's token is, in the chain. -/
theorem tokOk_of {s : ByteArray} {b c k : Nat} {T : List UInt8} (h : Lx.token (sfx s b) = some (k, T, sfx s c)) (hbc : b < c) (hc : c ≤ s.size) (k1 : 1 ≤ k) (k5 : k ≤ 5) :
    TokOk s b ⟨k, T, b⟩ ∧ endOf ⟨k, T, b⟩ ≤ c := by
  have hl : 0 < (sfx s b).length := by rw [sfx_len]; omega
  have hlen : (sfx s b).length - (sfx s c).length = c - b := by rw [sfx_len, sfx_len]; omega
  rcases token_shape h hl with ⟨rfl, hq⟩ | ⟨hk, hT⟩
  · refine ⟨⟨k1, k5, Nat.le_refl _, by show b < s.size; omega, fun _ => ?_, fun h => absurd rfl h, fun h => absurd rfl h, fun h => absurd rfl h⟩, ?_⟩
    · rw [sfx_cons s b (by omega)] at hq
      exact hq
    · unfold endOf
      rw [if_pos rfl]
      exact hbc
  · rw [hlen] at hT
    have hTl : T.length = c - b := by rw [hT, List.length_take, sfx_len]; omega
    refine ⟨⟨k1, k5, Nat.le_refl _, by show b < s.size; omega, fun h => absurd h hk, fun _ => ?_, fun _ => ?_, fun _ => ?_⟩, ?_⟩
    · show 0 < T.length; omega
    · show b + T.length ≤ s.size; omega
    · show T = (sfx s b).take T.length; rw [hTl]; exact hT
    · unfold endOf
      rw [if_neg hk]
      show b + T.length ≤ c
      omega

/-- What the tokens of a text are. -/
structure Std (s : ByteArray) (all : List Lx.Tok) : Prop where
  len : all.length ≤ 1501
  chain : ∃ ts, all = ts ++ [⟨0, [], s.size⟩] ∧ Chain s 0 ts s.size
end Go.Proofs.YtonblegbnkfhbaaDoor
