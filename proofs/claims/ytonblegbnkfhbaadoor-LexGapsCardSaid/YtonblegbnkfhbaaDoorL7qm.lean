/-
  Quoting as a plain function; the lexer's text undoes it.
-/
import Derived.Test.YtonblegbnkfhbaaDoorLxlm
import Derived.Test.YtonblegbnkfhbaaDoorLxg
namespace Go.Proofs.YtonblegbnkfhbaaDoor
set_option linter.unusedSimpArgs false
set_option linter.unusedVariables false

def Lx.validGo : Nat → List UInt8 → Bool
  | 0, _ => true
  | n + 1, l => if l = [] then true else if (Lx.rune l).2 = 0 then false else Lx.validGo n (l.drop (Lx.rune l).2)
def Lx.valid (l : List UInt8) : Bool := Lx.validGo l.length l

/-- A hexadecimal digit's byte. -/
def Lx.hexd (n : Nat) : UInt8 := if n < 10 then (48 + n).toUInt8 else (87 + n).toUInt8
/-- What an escape of one sign is for; 0: there is none. -/
def Lx.qs (c : UInt8) : UInt8 :=
  if c.toNat = 34 then 34 else if c.toNat = 92 then 92 else if c.toNat = 8 then 98 else if c.toNat = 9 then 116 else if c.toNat = 10 then 110
  else if c.toNat = 12 then 102 else if c.toNat = 13 then 114 else 0
/-- A byte, quoted. -/
def Lx.qb (c : UInt8) : List UInt8 :=
  if (Lx.qs c).toNat ≠ 0 then [92, Lx.qs c]
  else if c.toNat < 32 ∨ c.toNat = 127 then [92, 117, 48, 48, Lx.hexd (c.toNat / 16), Lx.hexd (c.toNat % 16)]
  else [c]
/-- A text, quoted. -/
def Lx.quote (l : List UInt8) : List UInt8 := 34 :: (l.flatMap Lx.qb ++ [34])

theorem qb_le (c : UInt8) : (Lx.qb c).length ≤ 6 := by unfold Lx.qb; split <;> (try split) <;> simp
theorem qb_flat_le (l : List UInt8) : (l.flatMap Lx.qb).length ≤ 6 * l.length := by
  induction l with
  | nil => simp
  | cons c l ih => rw [List.flatMap_cons, List.length_append]; have := qb_le c; rw [List.length_cons]; omega
theorem quote_len (l : List UInt8) : (Lx.quote l).length ≤ 6 * l.length + 2 := by
  have := qb_flat_le l
  unfold Lx.quote; rw [List.length_cons, List.length_append, List.length_singleton]; omega

theorem rune_low (c : UInt8) (t : List UInt8) (h : c.toNat < 128) : Lx.rune (c :: t) = (c.toNat, 1) := by unfold Lx.rune; simp [h]

theorem rune_app (l x : List UInt8) (h : (Lx.rune l).2 ≠ 0) : Lx.rune (l.take (Lx.rune l).2 ++ x) = Lx.rune l := by
  match l with
  | [] => exact absurd rfl h
  | c :: t =>
    by_cases h1 : c.toNat < 128
    · rw [rune_low c t h1]
      exact rune_low c x h1
    match t with
    | [] => exact absurd (by simp [Lx.rune, h1]) h
    | d :: t =>
      by_cases h2 : 192 ≤ c.toNat ∧ c.toNat < 224 ∧ Lx.cont d = true
      · by_cases q : 128 ≤ (c.toNat - 192) * 64 + (d.toNat - 128)
        · have e : ∀ y, Lx.rune (c :: d :: y) = ((c.toNat - 192) * 64 + (d.toNat - 128), 2) := fun y => by simp only [Lx.rune]; rw [if_neg h1, if_pos h2, if_pos q]
          rw [e t]
          exact e x
        · exact absurd (by simp only [Lx.rune]; rw [if_neg h1, if_pos h2, if_neg q]) h
      match t with
      | [] => exact absurd (by simp only [Lx.rune]; rw [if_neg h1, if_neg h2]) h
      | e :: t =>
        by_cases h3 : 224 ≤ c.toNat ∧ c.toNat < 240 ∧ Lx.cont d = true ∧ Lx.cont e = true
        · by_cases q : 2048 ≤ (c.toNat - 224) * 4096 + (d.toNat - 128) * 64 + (e.toNat - 128) ∧ ((c.toNat - 224) * 4096 + (d.toNat - 128) * 64 + (e.toNat - 128) < 55296 ∨ 57343 < (c.toNat - 224) * 4096 + (d.toNat - 128) * 64 + (e.toNat - 128))
          · have e3 : ∀ y, Lx.rune (c :: d :: e :: y) = ((c.toNat - 224) * 4096 + (d.toNat - 128) * 64 + (e.toNat - 128), 3) := fun y => by simp only [Lx.rune]; rw [if_neg h1, if_neg h2, if_pos h3, if_pos q]
            rw [e3 t]
            exact e3 x
          · exact absurd (by simp only [Lx.rune]; rw [if_neg h1, if_neg h2, if_pos h3, if_neg q]) h
        match t with
        | [] => exact absurd (by simp only [Lx.rune]; rw [if_neg h1, if_neg h2, if_neg h3]) h
        | f :: t =>
          by_cases h4 : 240 ≤ c.toNat ∧ c.toNat < 248 ∧ Lx.cont d = true ∧ Lx.cont e = true ∧ Lx.cont f = true
          · by_cases q : 65536 ≤ (c.toNat - 240) * 262144 + (d.toNat - 128) * 4096 + (e.toNat - 128) * 64 + (f.toNat - 128) ∧ (c.toNat - 240) * 262144 + (d.toNat - 128) * 4096 + (e.toNat - 128) * 64 + (f.toNat - 128) ≤ 1114111
            · have e4 : ∀ y, Lx.rune (c :: d :: e :: f :: y) = ((c.toNat - 240) * 262144 + (d.toNat - 128) * 4096 + (e.toNat - 128) * 64 + (f.toNat - 128), 4) := fun y => by simp only [Lx.rune]; rw [if_neg h1, if_neg h2, if_neg h3, if_pos h4, if_pos q]
              rw [e4 t]
              exact e4 x
            · exact absurd (by simp only [Lx.rune]; rw [if_neg h1, if_neg h2, if_neg h3, if_pos h4, if_neg q]) h
          · exact absurd (by simp only [Lx.rune]; rw [if_neg h1, if_neg h2, if_neg h3, if_neg h4]) h

/-- A rune of more bytes than one: they are high, and so is it. -/
theorem rune_high (c : UInt8) (t : List UInt8) (hc : ¬ c.toNat < 128) (h : (Lx.rune (c :: t)).2 ≠ 0) :
    128 ≤ (Lx.rune (c :: t)).1 ∧ ∀ x ∈ (c :: t).take (Lx.rune (c :: t)).2, 128 ≤ x.toNat := by
  have hcont : ∀ d : UInt8, Lx.cont d = true → 128 ≤ d.toNat := fun d hd => by simp [Lx.cont] at hd; omega
  unfold Lx.rune at h ⊢
  dsimp only at h ⊢
  rw [if_neg hc] at h ⊢
  match t with
  | [] => exact absurd rfl h
  | d :: t =>
    simp only [] at h ⊢
    by_cases h2 : 192 ≤ c.toNat ∧ c.toNat < 224 ∧ Lx.cont d = true
    · rw [if_pos h2] at h ⊢
      by_cases q : 128 ≤ (c.toNat - 192) * 64 + (d.toNat - 128)
      · rw [if_pos q]
        refine ⟨q, fun x hx => ?_⟩
        simp at hx
        rcases hx with rfl | rfl
        · omega
        · exact hcont _ h2.2.2
      · rw [if_neg q] at h; exact absurd rfl h
    rw [if_neg h2] at h ⊢
    match t with
    | [] => exact absurd rfl h
    | e :: t =>
      simp only [] at h ⊢
      by_cases h3 : 224 ≤ c.toNat ∧ c.toNat < 240 ∧ Lx.cont d = true ∧ Lx.cont e = true
      · rw [if_pos h3] at h ⊢
        by_cases q : 2048 ≤ (c.toNat - 224) * 4096 + (d.toNat - 128) * 64 + (e.toNat - 128) ∧ ((c.toNat - 224) * 4096 + (d.toNat - 128) * 64 + (e.toNat - 128) < 55296 ∨ 57343 < (c.toNat - 224) * 4096 + (d.toNat - 128) * 64 + (e.toNat - 128))
        · rw [if_pos q]
          refine ⟨by simp only []; omega, fun x hx => ?_⟩
          simp at hx
          rcases hx with rfl | rfl | rfl
          · omega
          · exact hcont _ h3.2.2.1
          · exact hcont _ h3.2.2.2
        · rw [if_neg q] at h; exact absurd rfl h
      rw [if_neg h3] at h ⊢
      match t with
      | [] => exact absurd rfl h
      | f :: t =>
        simp only [] at h ⊢
        by_cases h4 : 240 ≤ c.toNat ∧ c.toNat < 248 ∧ Lx.cont d = true ∧ Lx.cont e = true ∧ Lx.cont f = true
        · rw [if_pos h4] at h ⊢
          by_cases q : 65536 ≤ (c.toNat - 240) * 262144 + (d.toNat - 128) * 4096 + (e.toNat - 128) * 64 + (f.toNat - 128) ∧ (c.toNat - 240) * 262144 + (d.toNat - 128) * 4096 + (e.toNat - 128) * 64 + (f.toNat - 128) ≤ 1114111
          · rw [if_pos q]
            refine ⟨by simp only []; omega, fun x hx => ?_⟩
            simp at hx
            rcases hx with rfl | rfl | rfl | rfl
            · omega
            · exact hcont _ h4.2.2.1
            · exact hcont _ h4.2.2.2.1
            · exact hcont _ h4.2.2.2.2
          · rw [if_neg q] at h; exact absurd rfl h
        · rw [if_neg h4] at h; exact absurd rfl h

theorem qs_high (c : UInt8) (h : 128 ≤ c.toNat) : Lx.qs c = 0 := by
  unfold Lx.qs
  repeat rw [if_neg (by omega)]
theorem qb_high (c : UInt8) (h : 128 ≤ c.toNat) : Lx.qb c = [c] := by
  unfold Lx.qb
  rw [qs_high c h, if_neg (by decide), if_neg (by omega)]
theorem flat_high : ∀ l : List UInt8, (∀ x ∈ l, 128 ≤ x.toNat) → l.flatMap Lx.qb = l
  | [], _ => rfl
  | c :: l, h => by
    rw [List.flatMap_cons, qb_high c (h c (by simp)), flat_high l (fun x hx => h x (by simp [hx]))]; rfl

/-- Whether the three ways to quote a byte are undone. -/
def qbOk (c : UInt8) : Bool :=
  if (Lx.qs c).toNat ≠ 0 then decide (Lx.esc (Lx.qs c) = some c)
  else if c.toNat < 32 ∨ c.toNat = 127 then decide (Lx.hex [48, 48, Lx.hexd (c.toNat / 16), Lx.hexd (c.toNat % 16)] = some c.toNat ∧ Lx.enc c.toNat = [c])
  else true
set_option maxRecDepth 100000 in
theorem qbOk_all : ∀ n : Fin 256, qbOk (UInt8.ofNat n.val) = true := by decide +kernel
theorem qbOk_any (c : UInt8) : qbOk c = true := by
  have := qbOk_all ⟨c.toNat, UInt8.toNat_lt c⟩
  simpa using this
theorem hex_app (a b c d : UInt8) (x : List UInt8) : Lx.hex (a :: b :: c :: d :: x) = Lx.hex [a, b, c, d] := by
  simp [Lx.hex, Lx.hexs]

theorem ctl_92 {t : List UInt8} : ¬ Lx.ctl (92 :: t) := by
  unfold Lx.ctl
  rw [rune_low 92 _ (by decide)]
  decide

theorem text_qb (c : UInt8) (out x : List UInt8) (hc : c.toNat < 128) : Lx.text out (Lx.qb c ++ x) = Lx.text (out ++ [c]) x := by
  have hok := qbOk_any c
  unfold qbOk at hok
  unfold Lx.qb
  by_cases h1 : (Lx.qs c).toNat ≠ 0
  · rw [if_pos h1] at hok ⊢
    have he := of_decide_eq_true hok
    show Lx.text out (92 :: Lx.qs c :: x) = _
    exact Lx.text_esc ctl_92 (by rw [rune_low 92 _ (by decide)]; rfl) he
  rw [if_neg h1] at hok ⊢
  by_cases h2 : c.toNat < 32 ∨ c.toNat = 127
  · rw [if_pos h2] at hok ⊢
    obtain ⟨hh, hn⟩ := of_decide_eq_true hok
    show Lx.text out (92 :: 117 :: 48 :: 48 :: Lx.hexd (c.toNat / 16) :: Lx.hexd (c.toNat % 16) :: x) = _
    rw [Lx.text_uni (v := c.toNat) ctl_92 (by rw [rune_low 92 _ (by decide)]; rfl) (by show Lx.esc 117 = none; decide) (by rfl) (by show Lx.hex (48 :: 48 :: Lx.hexd (c.toNat / 16) :: Lx.hexd (c.toNat % 16) :: x) = _; rw [hex_app, hh]) (by omega), hn]
    rfl
  · rw [if_neg h2]
    have h34 : c.toNat ≠ 34 := fun e => h1 (by simp [Lx.qs, e])
    have h92 : c.toNat ≠ 92 := fun e => h1 (by simp [Lx.qs, e])
    show Lx.text out (c :: x) = _
    rw [Lx.text, rune_low c _ hc]
    rw [if_neg (by simp; omega), if_neg h34, if_pos h92]
    rfl

theorem text_quote : ∀ (n : Nat) (l out x : List UInt8), l.length ≤ n → Lx.validGo n l = true → Lx.text out (l.flatMap Lx.qb ++ 34 :: x) = some (out ++ l, x)
  | n, [], out, x, _, _ => by
    show Lx.text out (34 :: x) = _
    rw [Lx.text, rune_low 34 _ (by decide), if_neg (by decide), if_pos (by decide)]
    simp
  | 0, c :: t, _, _, h, _ => by simp at h
  | n + 1, c :: t, out, x, hn, h => by
    unfold Lx.validGo at h
    rw [if_neg (by simp)] at h
    by_cases h0 : (Lx.rune (c :: t)).2 = 0
    · rw [if_pos h0] at h; cases h
    rw [if_neg h0] at h
    by_cases hc : c.toNat < 128
    · rw [rune_low c t hc] at h
      rw [List.flatMap_cons, List.append_assoc, text_qb c out _ hc, text_quote n t (out ++ [c]) x (by simpa using hn) h]
      simp
    · obtain ⟨hr, hx⟩ := rune_high c t hc h0
      generalize hk : (Lx.rune (c :: t)).2 = k at *
      have happ := rune_app (c :: t) (((c :: t).drop k).flatMap Lx.qb ++ 34 :: x) (by rw [hk]; exact h0)
      rw [hk] at happ
      obtain ⟨k, rfl⟩ : ∃ j, k = j + 1 := ⟨k - 1, by omega⟩
      have hkl : k + 1 ≤ (c :: t).length := by rw [← hk]; exact Lx.rune_len _
      have hf : (c :: t).flatMap Lx.qb = (c :: t).take (k + 1) ++ ((c :: t).drop (k + 1)).flatMap Lx.qb := by
        conv => lhs; rw [← List.take_append_drop (k + 1) (c :: t)]
        rw [List.flatMap_append, flat_high _ hx]
      rw [hf, List.append_assoc]
      have hcons : ∀ y, (c :: t).take (k + 1) ++ y = c :: (t.take k ++ y) := fun y => by simp
      rw [hcons] at happ ⊢
      rw [Lx.text, happ]
      rw [if_neg (by rw [hk]; omega), if_neg (by omega), if_pos (by omega), hk, ← hcons]
      have hl2 : ((c :: t).take (k + 1)).length = k + 1 := by rw [List.length_take]; omega
      have ht : ∀ y, ((c :: t).take (k + 1) ++ y).take (k + 1) = (c :: t).take (k + 1) := fun y => by
        rw [List.take_append_of_le_length (by omega), List.take_of_length_le (by omega)]
      have hd : ∀ y, ((c :: t).take (k + 1) ++ y).drop (k + 1) = y := fun y => by
        rw [List.drop_append_of_le_length (by omega), List.drop_of_length_le (by omega), List.nil_append]
      rw [ht, hd, text_quote n _ _ x (by rw [List.length_drop]; simp at hn ⊢; omega) h, List.append_assoc, List.take_append_drop]

/-- What stands ahead of a quoted byte is no quote. -/
theorem qb_head (c : UInt8) : ∃ a r, Lx.qb c = a :: r ∧ a.toNat ≠ 34 := by
  unfold Lx.qb
  split
  · exact ⟨_, _, rfl, by decide⟩
  · rename_i h
    split
    · exact ⟨_, _, rfl, by decide⟩
    · refine ⟨_, _, rfl, fun e => h (by simp [Lx.qs, e])⟩

theorem token_quote (l x : List UInt8) (hv : Lx.valid l = true) (hx : (Lx.hd x).toNat ≠ 34) : Lx.token (Lx.quote l ++ x) = some (4, l, x) := by
  have h3 : Lx.quotes3 (34 :: (l.flatMap Lx.qb ++ 34 :: x)) = false := by
    cases l with
    | nil =>
      cases x with
      | nil => rfl
      | cons a x =>
        simp only [Lx.quotes3, List.flatMap_nil, List.nil_append, List.take_succ_cons, List.take_zero, decide_eq_false_iff_not]
        intro e
        simp at e
        exact hx (by rw [Lx.hd, List.headD_cons, e]; rfl)
    | cons c l =>
      obtain ⟨a, r, hq, ha⟩ := qb_head c
      rw [List.flatMap_cons, hq]
      unfold Lx.quotes3
      rw [decide_eq_false_iff_not]
      intro e
      simp at e
      exact ha (by rw [e.1]; rfl)
  have e : Lx.quote l ++ x = 34 :: (l.flatMap Lx.qb ++ 34 :: x) := by simp [Lx.quote]
  rw [e]
  unfold Lx.token
  rw [if_neg (by simp [Lx.hd, show Lx.isLetter 34 = false by decide]), if_neg (by simp [Lx.hd, show Lx.isDigit 34 = false by decide]), if_neg (by rw [h3]; simp), if_pos (by rfl)]
  rw [List.drop_one, List.tail_cons, text_quote l.length l [] x (Nat.le_refl _) hv]
  rfl

theorem quote_lex (l : List UInt8) (hv : Lx.valid l = true) (hl : l.length ≤ 600) :
    Lx.lex (32 :: (Lx.quote l ++ [35])) = .ok [⟨4, l, 1⟩, ⟨0, [], (Lx.quote l).length + 2⟩] := by
  have hq := quote_len l
  have hlen : (32 :: (Lx.quote l ++ [35])).length = (Lx.quote l).length + 2 := by simp
  have g1 : ∀ f, Lx.gap f (32 :: (Lx.quote l ++ [35])) = (Lx.quote l ++ [35], true) := fun f => by
    rw [Lx.gap, if_pos (by decide)]
    show Lx.gap false (34 :: _) = (34 :: _, true)
    rw [Lx.gap, if_neg (by decide), if_neg (by simp), if_neg (by decide)]
  have g2 : ∀ f, Lx.gap f [35] = ([], true) := fun f => by
    rw [Lx.gap, if_neg (by decide), if_neg (by simp [Lx.bom]), if_pos (by decide)]
    simp only [Lx.remark, if_true]
    rw [Lx.gap]
  unfold Lx.lex
  rw [if_neg (by omega), hlen, Lx.lexGo, g1, if_neg (by simp), if_neg (by simp), token_quote l [35] hv (by decide)]
  simp only [List.length_append, List.length_nil, List.length_singleton, List.nil_append]
  rw [if_neg (by omega), Lx.lexGo, g2, if_neg (by simp), if_pos (by rfl)]
  have e : (Lx.quote l).length + 2 - ((Lx.quote l).length + 1) = 1 := by omega
  rw [e]
  rfl
end Go.Proofs.YtonblegbnkfhbaaDoor
