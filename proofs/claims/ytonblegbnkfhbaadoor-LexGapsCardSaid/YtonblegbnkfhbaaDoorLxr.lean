/-
  Go's decoder of a rune against the plain one.
-/
import Derived.Test.YtonblegbnkfhbaaDoorLxm
import Derived.Shelf.Unicode.DecodeSlow
import Derived.Lib.RuneBytes
namespace Go.Proofs.YtonblegbnkfhbaaDoor
set_option linter.unusedSimpArgs false
set_option linter.unusedVariables false
namespace Lx

theorem get_lit (l : List UInt8) (k : Nat) : (ByteArray.mk l.toArray).get! k = l.getD k 0 := by
  unfold ByteArray.get!
  simp [List.getD_eq_getElem?_getD]
  rfl

def clip (p : Nat × Nat) : Nat × Nat := if p.1 = 65533 ∧ p.2 < 2 then (0, 0) else p

theorem cont_iff (c : UInt8) : (c.toNat / 64 = 2) ↔ cont c = true := by
  have := UInt8.toNat_lt c
  simp [cont]; omega

theorem decode_lit (l : List UInt8) : Utf8.decode ⟨l.toArray⟩ 0 =
    if (l.getD 0 0).toNat < 128 then ((l.getD 0 0).toNat, 1) else
    if (l.getD 0 0).toNat / 32 = 6 ∧ 1 < l.length ∧ (l.getD 1 0).toNat / 64 = 2 then
      (if 128 ≤ (l.getD 0 0).toNat % 32 * 64 + (l.getD 1 0).toNat % 64 then ((l.getD 0 0).toNat % 32 * 64 + (l.getD 1 0).toNat % 64, 2) else (65533, 1))
    else if (l.getD 0 0).toNat / 16 = 14 ∧ (1 < l.length ∧ (l.getD 1 0).toNat / 64 = 2) ∧ 2 < l.length ∧ (l.getD 2 0).toNat / 64 = 2 then
      (if 2048 ≤ (l.getD 0 0).toNat % 16 * 4096 + (l.getD 1 0).toNat % 64 * 64 + (l.getD 2 0).toNat % 64 ∧ Utf8.valid ((l.getD 0 0).toNat % 16 * 4096 + (l.getD 1 0).toNat % 64 * 64 + (l.getD 2 0).toNat % 64 : Nat) = true then
        ((l.getD 0 0).toNat % 16 * 4096 + (l.getD 1 0).toNat % 64 * 64 + (l.getD 2 0).toNat % 64, 3) else (65533, 1))
    else if (l.getD 0 0).toNat / 8 = 30 ∧ ((1 < l.length ∧ (l.getD 1 0).toNat / 64 = 2) ∧ 2 < l.length ∧ (l.getD 2 0).toNat / 64 = 2) ∧ 3 < l.length ∧ (l.getD 3 0).toNat / 64 = 2 then
      (if 65536 ≤ (l.getD 0 0).toNat % 8 * 262144 + (l.getD 1 0).toNat % 64 * 4096 + (l.getD 2 0).toNat % 64 * 64 + (l.getD 3 0).toNat % 64 ∧ Utf8.valid ((l.getD 0 0).toNat % 8 * 262144 + (l.getD 1 0).toNat % 64 * 4096 + (l.getD 2 0).toNat % 64 * 64 + (l.getD 3 0).toNat % 64 : Nat) = true then
        ((l.getD 0 0).toNat % 8 * 262144 + (l.getD 1 0).toNat % 64 * 4096 + (l.getD 2 0).toNat % 64 * 64 + (l.getD 3 0).toNat % 64, 4) else (65533, 1))
    else (65533, 1) := by
  have hsz : (ByteArray.mk l.toArray).size = l.length := rfl
  unfold Utf8.decode
  simp only [get_lit, hsz, Nat.zero_add, Utf8.runeError, Bool.and_eq_true, beq_iff_eq, decide_eq_true_eq, and_assoc, ge_iff_le]

theorem valid_iff (n : Nat) : (Utf8.valid (n : Int) = true) ↔ (n < 55296 ∨ 57343 < n) ∧ n ≤ 1114111 := by
  simp [Utf8.valid]; omega

theorem ite2 {α : Type} {P P' Q Q' : Prop} [Decidable P] [Decidable P'] [Decidable Q] [Decidable Q'] {a a' b r r' : α}
    (h1 : P ↔ P') (h2 : P → (Q ↔ Q')) (h3 : P → a = a') (h4 : r = r') : (if P then (if Q then a else b) else r) = (if P' then (if Q' then a' else b) else r') := by
  by_cases hp : P
  · rw [if_pos hp, if_pos (h1.1 hp), h3 hp]
    by_cases hq : Q
    · rw [if_pos hq, if_pos ((h2 hp).1 hq)]
    · rw [if_neg hq, if_neg (fun h => hq ((h2 hp).2 h))]
  · rw [if_neg hp, if_neg (fun h => hp (h1.2 h)), h4]

theorem decode_plain (l : List UInt8) (b0 b1 b2 b3 : Nat) (h0 : (l.getD 0 0).toNat = b0) (h1 : (l.getD 1 0).toNat = b1) (h2 : (l.getD 2 0).toNat = b2) (h3 : (l.getD 3 0).toNat = b3) : Utf8.decode ⟨l.toArray⟩ 0 =
    if b0 < 128 then (b0, 1) else
    if 192 ≤ b0 ∧ b0 < 224 ∧ 1 < l.length ∧ 128 ≤ b1 ∧ b1 < 192 then
      (if 128 ≤ (b0 - 192) * 64 + (b1 - 128) then ((b0 - 192) * 64 + (b1 - 128), 2) else (65533, 1))
    else if 224 ≤ b0 ∧ b0 < 240 ∧ 2 < l.length ∧ 128 ≤ b1 ∧ b1 < 192 ∧ 128 ≤ b2 ∧ b2 < 192 then
      (if 2048 ≤ (b0 - 224) * 4096 + (b1 - 128) * 64 + (b2 - 128) ∧ ((b0 - 224) * 4096 + (b1 - 128) * 64 + (b2 - 128) < 55296 ∨ 57343 < (b0 - 224) * 4096 + (b1 - 128) * 64 + (b2 - 128)) then
        ((b0 - 224) * 4096 + (b1 - 128) * 64 + (b2 - 128), 3) else (65533, 1))
    else if 240 ≤ b0 ∧ b0 < 248 ∧ 3 < l.length ∧ 128 ≤ b1 ∧ b1 < 192 ∧ 128 ≤ b2 ∧ b2 < 192 ∧ 128 ≤ b3 ∧ b3 < 192 then
      (if 65536 ≤ (b0 - 240) * 262144 + (b1 - 128) * 4096 + (b2 - 128) * 64 + (b3 - 128) ∧ (b0 - 240) * 262144 + (b1 - 128) * 4096 + (b2 - 128) * 64 + (b3 - 128) ≤ 1114111 then
        ((b0 - 240) * 262144 + (b1 - 128) * 4096 + (b2 - 128) * 64 + (b3 - 128), 4) else (65533, 1))
    else (65533, 1) := by
  have k0 := UInt8.toNat_lt (l.getD 0 0); have k1 := UInt8.toNat_lt (l.getD 1 0); have k2 := UInt8.toNat_lt (l.getD 2 0); have k3 := UInt8.toNat_lt (l.getD 3 0)
  rw [decode_lit, h0, h1, h2, h3]
  rw [h0] at k0; rw [h1] at k1; rw [h2] at k2; rw [h3] at k3
  simp only [valid_iff]
  by_cases c0 : b0 < 128
  · rw [if_pos c0, if_pos c0]
  · rw [if_neg c0, if_neg c0]
    refine ite2 (by omega) (by omega) (fun h => by rw [show b0 % 32 * 64 + b1 % 64 = (b0 - 192) * 64 + (b1 - 128) by omega]) ?_
    refine ite2 (by omega) (by omega) (fun h => by rw [show b0 % 16 * 4096 + b1 % 64 * 64 + b2 % 64 = (b0 - 224) * 4096 + (b1 - 128) * 64 + (b2 - 128) by omega]) ?_
    refine ite2 (by omega) (by omega) (fun h => by rw [show b0 % 8 * 262144 + b1 % 64 * 4096 + b2 % 64 * 64 + b3 % 64 = (b0 - 240) * 262144 + (b1 - 128) * 4096 + (b2 - 128) * 64 + (b3 - 128) by omega]) rfl

theorem clip_ite {P : Prop} [Decidable P] (a b : Nat × Nat) : clip (if P then a else b) = if P then clip a else clip b := by split <;> rfl
theorem clip_bad : clip (65533, 1) = (0, 0) := rfl
theorem clip_two (r n : Nat) (h : 2 ≤ n) : clip (r, n) = (r, n) := by unfold clip; rw [if_neg (by simp; omega)]
theorem clip_one (r : Nat) (h : r < 128) : clip (r, 1) = (r, 1) := by unfold clip; rw [if_neg (by simp; omega)]

theorem rune_decode (l : List UInt8) : clip (Lib.decodeGo ⟨l.toArray⟩) = rune l := by
  unfold Lib.decodeGo
  have hsz : (ByteArray.mk l.toArray).size = l.length := rfl
  rw [decode_plain l _ _ _ _ rfl rfl rfl rfl, hsz]
  match l with
  | [] => rfl
  | c :: t =>
    rw [if_neg (by simp)]
    simp only [clip_ite, clip_bad, clip_two _ 2 (by omega), clip_two _ 3 (by omega), clip_two _ 4 (by omega), List.getD_cons_zero, List.getD_cons_succ, List.length_cons, rune, cont, Bool.and_eq_true, decide_eq_true_eq]
    by_cases h : c.toNat < 128
    · simp only [if_pos h, clip_one _ h]
    · simp only [if_neg h]
      match t with
      | [] => simp
      | d :: t =>
        simp only [List.getD_cons_zero, List.getD_cons_succ, List.length_cons]
        by_cases h2 : 192 ≤ c.toNat ∧ c.toNat < 224 ∧ 128 ≤ d.toNat ∧ d.toNat < 192
        · rw [if_pos (by omega), if_pos h2]
        · rw [if_neg (by omega), if_neg h2]
          match t with
          | [] => simp
          | e :: t =>
            simp only [List.getD_cons_zero, List.getD_cons_succ, List.length_cons]
            by_cases h3 : 224 ≤ c.toNat ∧ c.toNat < 240 ∧ (128 ≤ d.toNat ∧ d.toNat < 192) ∧ 128 ≤ e.toNat ∧ e.toNat < 192
            · rw [if_pos (by omega), if_pos h3]
            · rw [if_neg (by omega), if_neg h3]
              match t with
              | [] => simp
              | f :: t =>
                simp only [List.getD_cons_zero, List.length_cons]
                by_cases h4 : 240 ≤ c.toNat ∧ c.toNat < 248 ∧ (128 ≤ d.toNat ∧ d.toNat < 192) ∧ (128 ≤ e.toNat ∧ e.toNat < 192) ∧ 128 ≤ f.toNat ∧ f.toNat < 192
                · rw [if_pos (by omega), if_pos h4]
                · rw [if_neg (by omega), if_neg h4]
theorem enc_lib (r : Nat) (h : r < 55296 ∨ (57343 < r ∧ r ≤ 1114111)) : Lib.encodeRune (r : Int) = enc r := by
  unfold Lib.encodeRune enc
  by_cases h1 : r < 128
  · rw [Lib.encodeRuneZ_one (by omega) (by omega), if_pos h1]
    simp
  · by_cases h2 : r < 2048
    · rw [Lib.encodeRuneZ_two (by omega) (by omega), if_neg h1, if_pos h2]
      simp only [List.map_cons, List.map_nil]
      rw [show ((192 : Int) + (r : Int) / 64).toNat = 192 + r / 64 by omega, show ((128 : Int) + (r : Int) % 64).toNat = 128 + r % 64 by omega]
    · by_cases h3 : r < 65536
      · rw [Lib.encodeRuneZ_three (by omega), if_neg h1, if_neg h2, if_pos h3]
        simp only [List.map_cons, List.map_nil]
        rw [show ((224 : Int) + (r : Int) / 4096).toNat = 224 + r / 4096 by omega, show ((128 : Int) + (r : Int) / 64 % 64).toNat = 128 + r / 64 % 64 by omega, show ((128 : Int) + (r : Int) % 64).toNat = 128 + r % 64 by omega]
      · rw [Lib.encodeRuneZ_four (by omega) (by omega), if_neg h1, if_neg h2, if_neg h3]
        simp only [List.map_cons, List.map_nil]
        rw [show ((240 : Int) + (r : Int) / 262144).toNat = 240 + r / 262144 by omega, show ((128 : Int) + (r : Int) / 4096 % 64).toNat = 128 + r / 4096 % 64 by omega, show ((128 : Int) + (r : Int) / 64 % 64).toNat = 128 + r / 64 % 64 by omega, show ((128 : Int) + (r : Int) % 64).toNat = 128 + r % 64 by omega]

theorem u8_eq {n : Nat} {c : UInt8} (h : n = c.toNat) : n.toUInt8 = c := by subst h; simp

/-- A rune that is there: its range, its bytes. -/
theorem rune_enc (l : List UInt8) (h : (rune l).2 ≠ 0) : ((rune l).1 < 55296 ∨ (57343 < (rune l).1 ∧ (rune l).1 ≤ 1114111)) ∧ enc (rune l).1 = l.take (rune l).2 := by
  match l with
  | [] => simp [rune] at h
  | c :: t =>
    have hc := UInt8.toNat_lt c
    unfold rune at h ⊢
    simp only [] at h ⊢
    by_cases h1 : c.toNat < 128
    · simp only [if_pos h1] at h ⊢
      refine ⟨by omega, ?_⟩
      unfold enc
      rw [if_pos h1]
      simp
    · simp only [if_neg h1] at h ⊢
      match t with
      | [] => simp at h
      | d :: t =>
        have hd := UInt8.toNat_lt d
        simp only [] at h ⊢
        by_cases h2 : 192 ≤ c.toNat ∧ c.toNat < 224 ∧ cont d = true
        · simp only [if_pos h2] at h ⊢
          have h2' := h2.2.2
          simp only [cont, Bool.and_eq_true, decide_eq_true_eq] at h2'
          by_cases h3 : 128 ≤ (c.toNat - 192) * 64 + (d.toNat - 128)
          · simp only [if_pos h3] at h ⊢
            refine ⟨by omega, ?_⟩
            unfold enc
            rw [if_neg (by omega), if_pos (by omega)]
            simp only [List.take_succ_cons, List.take_zero, List.cons.injEq, and_true]
            exact ⟨u8_eq (by omega), u8_eq (by omega)⟩
          · simp [if_neg h3] at h
        · simp only [if_neg h2] at h ⊢
          match t with
          | [] => simp at h
          | e :: t =>
            have he := UInt8.toNat_lt e
            simp only [] at h ⊢
            by_cases h3 : 224 ≤ c.toNat ∧ c.toNat < 240 ∧ cont d = true ∧ cont e = true
            · simp only [if_pos h3] at h ⊢
              have h3' := h3.2.2
              simp only [cont, Bool.and_eq_true, decide_eq_true_eq] at h3'
              by_cases h4 : 2048 ≤ (c.toNat - 224) * 4096 + (d.toNat - 128) * 64 + (e.toNat - 128) ∧ ((c.toNat - 224) * 4096 + (d.toNat - 128) * 64 + (e.toNat - 128) < 55296 ∨ 57343 < (c.toNat - 224) * 4096 + (d.toNat - 128) * 64 + (e.toNat - 128))
              · simp only [if_pos h4] at h ⊢
                refine ⟨by omega, ?_⟩
                unfold enc
                rw [if_neg (by omega), if_neg (by omega), if_pos (by omega)]
                simp only [List.take_succ_cons, List.take_zero, List.cons.injEq, and_true]
                exact ⟨u8_eq (by omega), u8_eq (by omega), u8_eq (by omega)⟩
              · simp [if_neg h4] at h
            · simp only [if_neg h3] at h ⊢
              match t with
              | [] => simp at h
              | f :: t =>
                have hf := UInt8.toNat_lt f
                simp only [] at h ⊢
                by_cases h4 : 240 ≤ c.toNat ∧ c.toNat < 248 ∧ cont d = true ∧ cont e = true ∧ cont f = true
                · simp only [if_pos h4] at h ⊢
                  have h4' := h4.2.2
                  simp only [cont, Bool.and_eq_true, decide_eq_true_eq] at h4'
                  by_cases h5 : 65536 ≤ (c.toNat - 240) * 262144 + (d.toNat - 128) * 4096 + (e.toNat - 128) * 64 + (f.toNat - 128) ∧ (c.toNat - 240) * 262144 + (d.toNat - 128) * 4096 + (e.toNat - 128) * 64 + (f.toNat - 128) ≤ 1114111
                  · simp only [if_pos h5] at h ⊢
                    refine ⟨by omega, ?_⟩
                    unfold enc
                    rw [if_neg (by omega), if_neg (by omega), if_neg (by omega)]
                    simp only [List.take_succ_cons, List.take_zero, List.cons.injEq, and_true]
                    exact ⟨u8_eq (by omega), u8_eq (by omega), u8_eq (by omega), u8_eq (by omega)⟩
                  · simp [if_neg h5] at h
                · simp [if_neg h4] at h
end Lx
end Go.Proofs.YtonblegbnkfhbaaDoor
