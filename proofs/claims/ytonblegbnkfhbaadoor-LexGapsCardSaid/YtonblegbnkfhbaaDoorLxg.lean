/-
  Steps of the plain lexer, one case each.
-/
import Derived.Test.YtonblegbnkfhbaaDoorLxm
import Derived.Lib.Strings
import Derived.Lib.Bytealg
namespace Go.Proofs.YtonblegbnkfhbaaDoor
set_option linter.unusedSimpArgs false
set_option linter.unusedVariables false
namespace Lx

theorem gap_nil (f : Bool) : gap f [] = ([], true) := by rw [gap]
theorem gap_blank {f : Bool} {c : UInt8} {t : List UInt8} (h : isBlank c = true) : gap f (c :: t) = gap false t := by rw [gap, if_pos h]
theorem gap_bom {c : UInt8} {t : List UInt8} (h : isBlank c = false) (hb : bom (c :: t) = true) : gap true (c :: t) = gap false ((c :: t).drop 3) := by
  rw [gap, if_neg (by simp [h]), if_pos ⟨rfl, hb⟩]
theorem gap_rem {f : Bool} {c : UInt8} {t : List UInt8} (hc : c.toNat = 35) : gap f (c :: t) = if (remark t).2 then gap false (remark t).1 else ((remark t).1, false) := by
  have h : isBlank c = false := by simp [isBlank, hc]
  have hb : bom (c :: t) = false := by
    have : c ≠ 239 := by intro e; subst e; simp at hc
    simp [bom, this]
  rw [gap, if_neg (by simp [h]), if_neg (by simp [hb]), if_pos hc]
theorem gap_stop {f : Bool} {c : UInt8} {t : List UInt8} (h : isBlank c = false) (hb : ¬ (f = true ∧ bom (c :: t) = true)) (hc : c.toNat ≠ 35) : gap f (c :: t) = (c :: t, true) := by
  rw [gap, if_neg (by simp [h]), if_neg hb, if_neg hc]

theorem rune_ascii {c : UInt8} {t : List UInt8} (h : c.toNat < 128) : rune (c :: t) = (c.toNat, 1) := by unfold rune; exact if_pos h
theorem remark_hash {c : UInt8} {t : List UInt8} (h : c.toNat = 35) : remark (c :: t) = remark t := by
  have hr := rune_ascii (t := t) (show c.toNat < 128 by omega)
  rw [remark, if_neg (by omega), if_neg (by rw [hr]; simp [h]), hr]
  rfl
theorem remark_nil : remark [] = ([], true) := by rw [remark]
theorem remark_end {c : UInt8} {t : List UInt8} (h : c.toNat = 10 ∨ c.toNat = 13) : remark (c :: t) = (c :: t, true) := by rw [remark, if_pos h]
theorem remark_bad {c : UInt8} {t : List UInt8} (h : ¬ (c.toNat = 10 ∨ c.toNat = 13)) (hr : (rune (c :: t)).2 = 0 ∨ ((rune (c :: t)).1 < 32 ∧ (rune (c :: t)).1 ≠ 9)) : remark (c :: t) = (c :: t, false) := by
  rw [remark, if_neg h, if_pos hr]
theorem remark_go {c : UInt8} {t : List UInt8} (h : ¬ (c.toNat = 10 ∨ c.toNat = 13)) (hr : ¬ ((rune (c :: t)).2 = 0 ∨ ((rune (c :: t)).1 < 32 ∧ (rune (c :: t)).1 ≠ 9))) : remark (c :: t) = remark ((c :: t).drop (rune (c :: t)).2) := by
  rw [remark, if_neg h, if_neg hr]
/-- The test 'n == 0 || r < 32 && r != 9', in the walk's own words. -/
theorem ctl_cases (r n : Nat) :
    ((((n : Int) == 0) = true) ∧ (n = 0 ∨ (r < 32 ∧ r ≠ 9))) ∨
    ((((n : Int) == 0) = false) ∧ decide ((r : Int) < 32) = true ∧ ((r : Int) != 9) = true ∧ (n = 0 ∨ (r < 32 ∧ r ≠ 9))) ∨
    ((((n : Int) == 0) = false) ∧ decide ((r : Int) < 32) = true ∧ ((r : Int) != 9) = false ∧ ¬ (n = 0 ∨ (r < 32 ∧ r ≠ 9))) ∨
    ((((n : Int) == 0) = false) ∧ decide ((r : Int) < 32) = false ∧ ¬ (n = 0 ∨ (r < 32 ∧ r ≠ 9))) := by
  by_cases h0 : n = 0
  · exact .inl ⟨by simp [h0], .inl h0⟩
  · have e0 : ((n : Int) == 0) = false := by simp [h0]
    by_cases h1 : r < 32
    · have e1 : decide ((r : Int) < 32) = true := by simp; omega
      by_cases h2 : r = 9
      · exact .inr (.inr (.inl ⟨e0, e1, by simp [h2], by omega⟩))
      · exact .inr (.inl ⟨e0, e1, by simp; omega, by omega⟩)
    · exact .inr (.inr (.inr ⟨e0, by simp; omega, by omega⟩))

theorem number_at (l l1 : List UInt8) (h : l1 = if (hd l).toNat = 45 then l.drop 1 else l) :
    number l = if (digits l1).length = l1.length ∨ ((hd l1).toNat = 48 ∧ 1 < l1.length - (digits l1).length) then none else numFrac (digits l1) := by subst h; rfl

theorem bom_prefix (l : List UInt8) : bom l = Lib.hasPrefix l [239, 187, 191] := by
  match l with
  | [] => rfl
  | [a] => simp [bom, Lib.hasPrefix, List.isPrefixOf]
  | [a, b] => simp [bom, Lib.hasPrefix, List.isPrefixOf]
  | a :: b :: c :: t =>
    have e : Lib.hasPrefix (a :: b :: c :: t) [239, 187, 191] = ((239 == a) && ((187 == b) && ((191 == c) && true))) := rfl
    have e2 : bom (a :: b :: c :: t) = decide ([a, b, c] = [239, 187, 191]) := rfl
    rw [e, e2]
    by_cases h1 : a = 239
    · by_cases h2 : b = 187
      · by_cases h3 : c = 191
        · subst h1 h2 h3; decide
        · simp [h1, h2, h3, Ne.symm h3]
      · simp [h1, h2, Ne.symm h2]
    · simp [h1, Ne.symm h1]
def ctl (l : List UInt8) : Prop := (rune l).2 = 0 ∨ ((rune l).1 < 32 ∧ (rune l).1 ≠ 9)
theorem text_nil (out : List UInt8) : text out [] = none := by rw [text]
theorem text_bad {out : List UInt8} {c : UInt8} {t : List UInt8} (h : ctl (c :: t)) : text out (c :: t) = none := by unfold ctl at h; rw [text, if_pos h]
theorem text_quote {out : List UInt8} {c : UInt8} {t : List UInt8} (h : ¬ ctl (c :: t)) (hq : (rune (c :: t)).1 = 34) : text out (c :: t) = some (out, t) := by unfold ctl at h; rw [text, if_neg h, if_pos hq]
theorem text_plain {out : List UInt8} {c : UInt8} {t : List UInt8} (h : ¬ ctl (c :: t)) (hq : (rune (c :: t)).1 ≠ 34) (hb : (rune (c :: t)).1 ≠ 92) :
    text out (c :: t) = text (out ++ (c :: t).take (rune (c :: t)).2) ((c :: t).drop (rune (c :: t)).2) := by unfold ctl at h; rw [text, if_neg h, if_neg hq, if_pos hb]
theorem text_esc {out : List UInt8} {c : UInt8} {t : List UInt8} {e : UInt8} (h : ¬ ctl (c :: t)) (hb : (rune (c :: t)).1 = 92) (he : esc (hd t) = some e) :
    text out (c :: t) = text (out ++ [e]) (t.drop 1) := by unfold ctl at h; rw [text, if_neg h, if_neg (by omega), if_neg (by simp [hb]), he]
theorem text_noesc {out : List UInt8} {c : UInt8} {t : List UInt8} (h : ¬ ctl (c :: t)) (hb : (rune (c :: t)).1 = 92) (he : esc (hd t) = none) (hu : (hd t).toNat ≠ 117) :
    text out (c :: t) = none := by unfold ctl at h; rw [text, if_neg h, if_neg (by omega), if_neg (by simp [hb]), he]; simp [hu]
theorem text_nohex {out : List UInt8} {c : UInt8} {t : List UInt8} (h : ¬ ctl (c :: t)) (hb : (rune (c :: t)).1 = 92) (he : esc (hd t) = none) (hu : (hd t).toNat = 117) (hx : hex (t.drop 1) = none) :
    text out (c :: t) = none := by unfold ctl at h; rw [text, if_neg h, if_neg (by omega), if_neg (by simp [hb]), he]; simp only [if_pos hu, hx]
theorem text_sur {out : List UInt8} {c : UInt8} {t : List UInt8} {v : Nat} (h : ¬ ctl (c :: t)) (hb : (rune (c :: t)).1 = 92) (he : esc (hd t) = none) (hu : (hd t).toNat = 117) (hx : hex (t.drop 1) = some v) (hs : 55296 ≤ v ∧ v < 57344) :
    text out (c :: t) = none := by unfold ctl at h; rw [text, if_neg h, if_neg (by omega), if_neg (by simp [hb]), he]; simp only [if_pos hu, hx, if_pos hs]
theorem text_uni {out : List UInt8} {c : UInt8} {t : List UInt8} {v : Nat} (h : ¬ ctl (c :: t)) (hb : (rune (c :: t)).1 = 92) (he : esc (hd t) = none) (hu : (hd t).toNat = 117) (hx : hex (t.drop 1) = some v) (hs : ¬ (55296 ≤ v ∧ v < 57344)) :
    text out (c :: t) = text (out ++ enc v) (t.drop 5) := by
  unfold ctl at h
  rw [text, if_neg h, if_neg (by omega), if_neg (by simp [hb]), he]
  simp only [hx, if_pos hu, if_neg hs]
theorem hexs_lt : ∀ (k r : Nat) (l : List UInt8) (v : Nat), hexs k r l = some v → v < (r + 1) * 16 ^ k
  | 0, r, _, v, h => by simp [hexs] at h; omega
  | k + 1, r, [], v, h => by simp [hexs] at h
  | k + 1, r, c :: l, v, h => by
    unfold hexs at h
    cases hv : hexv c with
    | none => simp [hv] at h
    | some x =>
      simp only [hv] at h
      have h1 := hexs_lt k _ l v h
      have hx : x < 16 := by
        unfold hexv at hv
        repeat' split at hv
        all_goals simp at hv
        all_goals omega
      have h2 : (r * 16 + x + 1) * 16 ^ k ≤ ((r + 1) * 16) * 16 ^ k := Nat.mul_le_mul_right _ (by omega)
      rw [Nat.pow_succ, Nat.mul_comm (16 ^ k) 16, ← Nat.mul_assoc]
      omega
theorem hex_lt {l : List UInt8} {v : Nat} (h : hex l = some v) : v < 65536 := by
  have := hexs_lt 4 0 l v h
  simpa using this
theorem hexs_len : ∀ (k r : Nat) (l : List UInt8) (v : Nat), hexs k r l = some v → k ≤ l.length
  | 0, _, _, _, _ => by omega
  | k + 1, r, [], v, h => by simp [hexs] at h
  | k + 1, r, c :: l, v, h => by
    unfold hexs at h
    cases hv : hexv c with
    | none => simp [hv] at h
    | some x =>
      simp only [hv] at h
      have := hexs_len k _ l v h
      simpa using this
theorem enc_len (r : Nat) : (enc r).length ≤ 4 := by unfold enc; repeat' split
                                                     all_goals simp
theorem block_nil (out : List UInt8) : block out [] = none := by rw [block]
theorem block_end {out : List UInt8} {c : UInt8} {t : List UInt8} (h : quotes3 (c :: t) = true) : block out (c :: t) = some (out, (c :: t).drop 3) := by rw [block, if_pos h]
theorem block_esc {out : List UInt8} {c : UInt8} {t : List UInt8} (h : quotes3 (c :: t) = false) (h2 : c.toNat = 92 ∧ quotes3 t = true) : block out (c :: t) = block (out ++ [34, 34, 34]) (t.drop 3) := by
  rw [block, if_neg (by simp [h]), if_pos h2]
def ctlB (l : List UInt8) : Prop := (rune l).2 = 0 ∨ ((rune l).1 < 32 ∧ (rune l).1 ≠ 9 ∧ (rune l).1 ≠ 10 ∧ (rune l).1 ≠ 13)
theorem block_bad {out : List UInt8} {c : UInt8} {t : List UInt8} (h : quotes3 (c :: t) = false) (h2 : ¬ (c.toNat = 92 ∧ quotes3 t = true)) (hr : ctlB (c :: t)) : block out (c :: t) = none := by
  unfold ctlB at hr
  rw [block, if_neg (by simp [h]), if_neg h2, if_pos hr]
theorem block_go {out : List UInt8} {c : UInt8} {t : List UInt8} (h : quotes3 (c :: t) = false) (h2 : ¬ (c.toNat = 92 ∧ quotes3 t = true)) (hr : ¬ ctlB (c :: t)) :
    block out (c :: t) = block (out ++ (c :: t).take (rune (c :: t)).2) ((c :: t).drop (rune (c :: t)).2) := by
  unfold ctlB at hr
  rw [block, if_neg (by simp [h]), if_neg h2, if_neg hr]

def escs : List UInt8 := [34, 92, 47, 98, 102, 110, 114, 116, 117]
def escTo : List UInt8 := [34, 92, 47, 8, 12, 10, 13, 9]
def escOk (c : UInt8) : Bool :=
  let k := Lib.indexByte escs c
  if k < 0 then decide (k = -1) && decide (esc c = none) && decide (c.toNat ≠ 117)
  else if k < 8 then decide (esc c = some (escTo.getD k.toNat 0)) && decide (c.toNat ≠ 0)
  else decide (k = 8) && decide (esc c = none) && decide (c.toNat = 117)
theorem esc_fin : ∀ n : Fin 256, escOk (UInt8.ofNat n.val) = true := by decide +kernel
theorem esc_cases (c : UInt8) : (Lib.indexByte escs c < 0 ∧ esc c = none ∧ c.toNat ≠ 117) ∨
    (0 ≤ Lib.indexByte escs c ∧ Lib.indexByte escs c < 8 ∧ esc c = some (escTo.getD (Lib.indexByte escs c).toNat 0) ∧ c.toNat ≠ 0) ∨
    (Lib.indexByte escs c = 8 ∧ esc c = none ∧ c.toNat = 117) := by
  have h := esc_fin ⟨c.toNat, UInt8.toNat_lt c⟩
  simp only [UInt8.ofNat_toNat] at h
  unfold escOk at h
  simp only [] at h
  by_cases h1 : Lib.indexByte escs c < 0
  · rw [if_pos h1] at h
    simp only [Bool.and_eq_true, decide_eq_true_eq] at h
    exact .inl ⟨h1, h.1.2, h.2⟩
  · rw [if_neg h1] at h
    by_cases h2 : Lib.indexByte escs c < 8
    · rw [if_pos h2] at h
      simp only [Bool.and_eq_true, decide_eq_true_eq] at h
      exact .inr (.inl ⟨by omega, h2, h.1, h.2⟩)
    · rw [if_neg h2] at h
      simp only [Bool.and_eq_true, decide_eq_true_eq] at h
      exact .inr (.inr ⟨h.1.1, h.1.2, h.2⟩)
end Lx
end Go.Proofs.YtonblegbnkfhbaaDoor
