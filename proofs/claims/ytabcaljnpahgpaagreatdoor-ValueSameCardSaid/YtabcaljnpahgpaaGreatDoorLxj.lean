/-
  The lexer on two texts with a line's end between: the tokens of the one, then of the other (no program in sight).
-/
import Derived.Test.YtabcaljnpahgpaaGreatDoorK4
namespace Go.Proofs.YtabcaljnpahgpaaGreatDoor
set_option linter.unusedSimpArgs false
set_option linter.unusedVariables false
namespace Lx

theorem hdx {β : Type} (p : UInt8 → β) (h : p 0 = p 10) (l t : List UInt8) : p (hd (l ++ 10 :: t)) = p (hd l) := by
  cases l with
  | nil => exact h.symm
  | cons c l => rfl
theorem n_hdx (n : Nat) (h0 : n ≠ 0) (h1 : n ≠ 10) (l t : List UInt8) : ((hd (l ++ 10 :: t)).toNat = n) = ((hd l).toNat = n) :=
  hdx (fun c => c.toNat = n) (by simp; constructor <;> omega) l t
theorem dw_x (p : UInt8 → Bool) (hp : p 10 = false) (t : List UInt8) : ∀ l, (l ++ 10 :: t).dropWhile p = l.dropWhile p ++ 10 :: t
  | [] => by rw [List.nil_append, List.dropWhile_cons, hp]; rfl
  | c :: l => by
    rw [List.cons_append, List.dropWhile_cons, List.dropWhile_cons]
    split
    · exact dw_x p hp t l
    · rfl
theorem digits_x (l t : List UInt8) : digits (l ++ 10 :: t) = digits l ++ 10 :: t := dw_x isDigit (by decide) t l
theorem numEnd_x {k k' : Nat} {l r : List UInt8} (t : List UInt8) (h : numEnd (k, l) = some (k', r)) : numEnd (k, l ++ 10 :: t) = some (k', r ++ 10 :: t) := by
  unfold numEnd at h ⊢
  simp only [] at h ⊢
  simp only [n_hdx 46 (by decide) (by decide), hdx isLetter (by decide), hdx isDigit (by decide)]
  split at h
  · cases h
  · rename_i hc
    rw [if_neg hc]
    simp only [Option.some.injEq, Prod.mk.injEq] at h
    rw [h.1, h.2]
theorem numExp_x {k k' : Nat} {l r : List UInt8} (t : List UInt8) (h : numExp (k, l) = some (k', r)) : numExp (k, l ++ 10 :: t) = some (k', r ++ 10 :: t) := by
  unfold numExp at h ⊢
  simp only [] at h ⊢
  simp only [hdx (fun c => (c ||| 32).toNat = 101) (by simp) l t]
  split at h
  · rename_i he
    rw [if_pos he]
    obtain ⟨c, l1, rfl⟩ : ∃ c l1, l = c :: l1 := by
      cases l with
      | nil => exact absurd he (by decide)
      | cons c l1 => exact ⟨c, l1, rfl⟩
    rw [List.cons_append]
    simp only [List.drop_one, List.tail_cons] at h ⊢
    simp only [n_hdx 43 (by decide) (by decide), n_hdx 45 (by decide) (by decide)]
    by_cases hs : (hd l1).toNat = 43 ∨ (hd l1).toNat = 45
    · rw [if_pos hs] at h ⊢
      obtain ⟨d, l2, rfl⟩ : ∃ d l2, l1 = d :: l2 := by
        cases l1 with
        | nil => exact absurd hs (by decide)
        | cons d l2 => exact ⟨d, l2, rfl⟩
      rw [List.cons_append]
      change (if (digits l2).length = l2.length then none else numEnd (3, digits l2)) = some (k', r) at h
      show (if (digits (l2 ++ 10 :: t)).length = (l2 ++ 10 :: t).length then none else numEnd (3, digits (l2 ++ 10 :: t))) = some (k', r ++ 10 :: t)
      simp only [digits_x]
      by_cases hc : (digits l2).length = l2.length
      · rw [if_pos hc] at h; cases h
      · rw [if_neg hc] at h
        rw [if_neg (by rw [List.length_append, List.length_append]; omega)]
        exact numEnd_x t h
    · rw [if_neg hs] at h ⊢
      rw [digits_x]
      split at h
      · cases h
      · rename_i hc
        rw [if_neg (by rw [List.length_append, List.length_append]; omega)]
        exact numEnd_x t h
  · rename_i he
    rw [if_neg he]
    exact numEnd_x t h
theorem numFrac_x {k' : Nat} {l r : List UInt8} (t : List UInt8) (h : numFrac l = some (k', r)) : numFrac (l ++ 10 :: t) = some (k', r ++ 10 :: t) := by
  unfold numFrac at h ⊢
  simp only [n_hdx 46 (by decide) (by decide)]
  split at h
  · rename_i he
    rw [if_pos he]
    obtain ⟨c, l1, rfl⟩ : ∃ c l1, l = c :: l1 := by
      cases l with
      | nil => exact absurd he (by decide)
      | cons c l1 => exact ⟨c, l1, rfl⟩
    rw [List.cons_append]
    simp only [List.drop_one, List.tail_cons] at h ⊢
    rw [digits_x]
    split at h
    · cases h
    · rename_i hc
      rw [if_neg (by rw [List.length_append, List.length_append]; omega)]
      exact numExp_x t h
  · rename_i he
    rw [if_neg he]
    exact numExp_x t h
theorem number_x {k' : Nat} {l r : List UInt8} (t : List UInt8) (h : number l = some (k', r)) : number (l ++ 10 :: t) = some (k', r ++ 10 :: t) := by
  have key : ∀ l1 : List UInt8, (if (digits l1).length = l1.length ∨ ((hd l1).toNat = 48 ∧ 1 < l1.length - (digits l1).length) then none else numFrac (digits l1)) = some (k', r) →
      (if (digits (l1 ++ 10 :: t)).length = (l1 ++ 10 :: t).length ∨ ((hd (l1 ++ 10 :: t)).toNat = 48 ∧ 1 < (l1 ++ 10 :: t).length - (digits (l1 ++ 10 :: t)).length) then none else numFrac (digits (l1 ++ 10 :: t))) = some (k', r ++ 10 :: t) := by
    intro l1 h
    rw [digits_x]
    simp only [n_hdx 48 (by decide) (by decide)]
    split at h
    · cases h
    · rename_i hc
      rw [if_neg (fun e => hc (by
        rw [List.length_append, List.length_append] at e
        rcases e with e | ⟨e1, e2⟩
        · exact .inl (by omega)
        · exact .inr ⟨e1, by omega⟩))]
      exact numFrac_x t h
  unfold number at h ⊢
  simp only [n_hdx 45 (by decide) (by decide)]
  by_cases hm : (hd l).toNat = 45
  · rw [if_pos hm] at h ⊢
    obtain ⟨c, l1, rfl⟩ : ∃ c l1, l = c :: l1 := by
      cases l with
      | nil => exact absurd hm (by decide)
      | cons c l1 => exact ⟨c, l1, rfl⟩
    exact key l1 h
  · rw [if_neg hm] at h ⊢
    exact key l h
theorem hexs_x : ∀ (k r : Nat) (l x : List UInt8) (v : Nat), hexs k r l = some v → hexs k r (l ++ x) = some v
  | 0, r, l, x, v, h => h
  | k + 1, r, [], x, v, h => by simp [hexs] at h
  | k + 1, r, c :: l, x, v, h => by
    rw [List.cons_append]
    unfold hexs at h ⊢
    cases hc : hexv c with
    | none => rw [hc] at h; cases h
    | some y => rw [hc] at h; exact hexs_x k _ l x v h
theorem drop_x {n : Nat} {l : List UInt8} (x : List UInt8) (h : n ≤ l.length) : (l ++ x).drop n = l.drop n ++ x := List.drop_append_of_le_length h
theorem take_x {n : Nat} {l : List UInt8} (x : List UInt8) (h : n ≤ l.length) : (l ++ x).take n = l.take n := List.take_append_of_le_length h
theorem ctl_x {l : List UInt8} (x : List UInt8) (h : ¬ ctl l) : ¬ ctl (l ++ x) := by
  unfold ctl at h ⊢
  rw [rune_app2 l x (fun e => h (.inl e))]
  exact h
theorem text_x (x : List UInt8) : ∀ (n : Nat) (l out m r : List UInt8), l.length ≤ n → text out l = some (m, r) → text out (l ++ x) = some (m, r ++ x)
  | _, [], out, m, r, _, h => by rw [text_nil] at h; cases h
  | 0, c :: t, _, _, _, h, _ => by simp at h
  | n + 1, c :: t, out, m, r, hn, h => by
    have hnt : t.length ≤ n := by simpa using hn
    by_cases h0 : ctl (c :: t)
    · rw [text_bad h0] at h; cases h
    have h0' := ctl_x x h0
    have hr : (rune (c :: t)).2 ≠ 0 := fun e => h0 (.inl e)
    have er := rune_app2 (c :: t) x hr
    rw [List.cons_append] at h0' er ⊢
    by_cases h1 : (rune (c :: t)).1 = 34
    · rw [text_quote h0 h1] at h
      rw [text_quote h0' (by rw [er]; exact h1)]
      simp at h
      rw [← h.1, ← h.2]
    by_cases h2 : (rune (c :: t)).1 = 92
    · have ht : t ≠ [] := fun e => by
        subst e
        rw [text_noesc h0 h2 (by decide) (by decide)] at h; cases h
      have hh : hd (t ++ x) = hd t := by
        cases t with
        | nil => exact absurd rfl ht
        | cons d t => rfl
      have htl : 1 ≤ t.length := List.length_pos_iff.2 ht
      cases he : esc (hd t) with
      | some e =>
        rw [text_esc h0 h2 he] at h
        rw [text_esc h0' (by rw [er]; exact h2) (by rw [hh]; exact he), drop_x x htl]
        exact text_x x n _ _ m r (by rw [List.length_drop]; omega) h
      | none =>
        by_cases hu : (hd t).toNat = 117
        · cases hx : hex (t.drop 1) with
          | none => rw [text_nohex h0 h2 he hu hx] at h; cases h
          | some v =>
            have h4 := hexs_len 4 0 (t.drop 1) v hx
            rw [List.length_drop] at h4
            by_cases hs : 55296 ≤ v ∧ v < 57344
            · rw [text_sur h0 h2 he hu hx hs] at h; cases h
            · rw [text_uni h0 h2 he hu hx hs] at h
              rw [text_uni (v := v) h0' (by rw [er]; exact h2) (by rw [hh]; exact he) (by rw [hh]; exact hu) (by rw [drop_x x htl]; exact hexs_x 4 0 _ x v hx) hs, drop_x x (by omega)]
              exact text_x x n _ _ m r (by rw [List.length_drop]; omega) h
        · rw [text_noesc h0 h2 he hu] at h; cases h
    · rw [text_plain h0 h1 h2] at h
      rw [text_plain h0' (by rw [er]; exact h1) (by rw [er]; exact h2), er]
      have hl := rune_len (c :: t)
      rw [show c :: (t ++ x) = (c :: t) ++ x from rfl, drop_x x hl, take_x x hl]
      exact text_x x n _ _ m r (by rw [List.length_drop, List.length_cons]; omega) h
theorem q3_x (l t : List UInt8) : quotes3 (l ++ 10 :: t) = quotes3 l := by
  unfold quotes3
  match l with
  | [] => simp
  | [a] => simp
  | [a, b] => simp
  | a :: b :: c :: l => rfl
theorem d3_x (l t : List UInt8) : dots3 (l ++ 10 :: t) = dots3 l := by
  unfold dots3
  match l with
  | [] => simp
  | [a] => simp
  | [a, b] => simp
  | a :: b :: c :: l => rfl
theorem b3_x (l t : List UInt8) : bom (l ++ 10 :: t) = bom l := by
  unfold bom
  match l with
  | [] => simp
  | [a] => simp
  | [a, b] => simp
  | a :: b :: c :: l => rfl
theorem take3_len {l y : List UInt8} (hy : y.length = 3) (h : l.take 3 = y) : 3 ≤ l.length := by
  have h1 := congrArg List.length h
  rw [List.length_take, hy] at h1
  omega
theorem q3_len {l : List UInt8} (h : quotes3 l = true) : 3 ≤ l.length := take3_len rfl (of_decide_eq_true h)
theorem ctlB_x {l : List UInt8} (x : List UInt8) (h : ¬ ctlB l) : ¬ ctlB (l ++ x) := by
  unfold ctlB at h ⊢
  rw [rune_app2 l x (fun e => h (.inl e))]
  exact h
theorem block_x (x : List UInt8) : ∀ (n : Nat) (l out m r : List UInt8), l.length ≤ n → block out l = some (m, r) → block out (l ++ 10 :: x) = some (m, r ++ 10 :: x)
  | _, [], out, m, r, _, h => by rw [block_nil] at h; cases h
  | 0, c :: t, _, _, _, h, _ => by simp at h
  | n + 1, c :: t, out, m, r, hn, h => by
    have hnt : t.length ≤ n := by simpa using hn
    have eq1 := q3_x (c :: t) x
    have eq2 := q3_x t x
    rw [List.cons_append] at eq1 ⊢
    cases hq : quotes3 (c :: t)
    · rw [hq] at eq1
      by_cases he : c.toNat = 92 ∧ quotes3 t = true
      · rw [block_esc hq he] at h
        rw [block_esc eq1 ⟨he.1, by rw [eq2]; exact he.2⟩, drop_x _ (q3_len he.2)]
        exact block_x x n _ _ m r (by rw [List.length_drop]; omega) h
      · have he' : ¬ (c.toNat = 92 ∧ quotes3 (t ++ 10 :: x) = true) := by rw [eq2]; exact he
        by_cases hc : ctlB (c :: t)
        · rw [block_bad hq he hc] at h; cases h
        · have hc' := ctlB_x (10 :: x) hc
          have hr : (rune (c :: t)).2 ≠ 0 := fun e => hc (.inl e)
          have er := rune_app2 (c :: t) (10 :: x) hr
          rw [List.cons_append] at hc' er
          rw [block_go hq he hc] at h
          rw [block_go eq1 he' hc', er]
          have hl := rune_len (c :: t)
          rw [show c :: (t ++ 10 :: x) = (c :: t) ++ 10 :: x from rfl, drop_x _ hl, take_x _ hl]
          exact block_x x n _ _ m r (by rw [List.length_drop, List.length_cons]; omega) h
    · rw [hq] at eq1
      rw [block_end hq] at h
      rw [block_end eq1]
      simp only [Option.some.injEq, Prod.mk.injEq] at h
      rw [show c :: (t ++ 10 :: x) = (c :: t) ++ 10 :: x from rfl, drop_x _ (q3_len hq), h.1, h.2]
/-- A token with a line's end behind all. -/
theorem token_x {k : Nat} {l T r : List UInt8} (t : List UInt8) (h : token l = some (k, T, r)) : token (l ++ 10 :: t) = some (k, T, r ++ 10 :: t) := by
  have tk : ∀ a b : List UInt8, (a ++ 10 :: t).take ((a ++ 10 :: t).length - (b ++ 10 :: t).length) = a.take (a.length - b.length) := fun a b => by
    rw [List.length_append, List.length_append, show a.length + (10 :: t).length - (b.length + (10 :: t).length) = a.length - b.length by omega, take_x _ (by omega)]
  unfold token at h ⊢
  simp only [hdx isLetter (by decide), n_hdx 45 (by decide) (by decide), hdx isDigit (by decide)]
  rw [q3_x]
  simp only [n_hdx 34 (by decide) (by decide)]
  rw [d3_x]
  simp only [hdx (fun c => c.toNat ≠ 0 ∧ signs.contains c = true) (by simp (decide := true)) l t]
  split at h
  · rename_i c1
    rw [if_pos c1, dw_x isWord (by decide), tk]
    simp only [Option.some.injEq, Prod.mk.injEq] at h ⊢
    exact ⟨h.1, h.2.1, by rw [h.2.2]⟩
  rename_i c1
  rw [if_neg c1]
  split at h
  · rename_i c2
    rw [if_pos c2]
    obtain ⟨p, hp, he⟩ := Option.map_eq_some_iff.1 h
    obtain ⟨p1, p2⟩ := p
    rw [number_x t hp]
    simp only [Option.map_some, Option.some.injEq, Prod.mk.injEq] at he ⊢
    rw [tk]
    exact ⟨he.1, he.2.1, by rw [he.2.2]⟩
  rename_i c2
  rw [if_neg c2]
  split at h
  · rename_i c3
    rw [if_pos c3]
    obtain ⟨p, hp, he⟩ := Option.map_eq_some_iff.1 h
    obtain ⟨p1, p2⟩ := p
    rw [drop_x _ (q3_len c3), block_x t _ _ _ _ _ (Nat.le_refl _) hp]
    simp only [Option.map_some, Option.some.injEq, Prod.mk.injEq] at he ⊢
    exact ⟨he.1, he.2.1, by rw [he.2.2]⟩
  rename_i c3
  rw [if_neg c3]
  split at h
  · rename_i c4
    rw [if_pos c4]
    obtain ⟨p, hp, he⟩ := Option.map_eq_some_iff.1 h
    obtain ⟨p1, p2⟩ := p
    have hl : 1 ≤ l.length := by
      cases l with
      | nil => exact absurd c4 (by decide)
      | cons a l => simp
    rw [drop_x _ hl, text_x _ _ _ _ _ _ (Nat.le_refl _) hp]
    simp only [Option.map_some, Option.some.injEq, Prod.mk.injEq] at he ⊢
    exact ⟨he.1, he.2.1, by rw [he.2.2]⟩
  rename_i c4
  rw [if_neg c4]
  split at h
  · rename_i c5
    have hl : 3 ≤ l.length := take3_len (y := [46, 46, 46]) rfl (of_decide_eq_true c5)
    rw [if_pos c5, drop_x _ hl, take_x _ hl]
    simp only [Option.some.injEq, Prod.mk.injEq] at h ⊢
    exact ⟨h.1, h.2.1, by rw [h.2.2]⟩
  rename_i c5
  rw [if_neg c5]
  split at h
  · rename_i c6
    have hl : 1 ≤ l.length := by
      cases l with
      | nil => exact absurd rfl c6.1
      | cons a l => simp
    rw [if_pos c6, drop_x _ hl, take_x _ hl]
    simp only [Option.some.injEq, Prod.mk.injEq] at h ⊢
    exact ⟨h.1, h.2.1, by rw [h.2.2]⟩
  · cases h
theorem token_kind {k : Nat} {l T r : List UInt8} (h : token l = some (k, T, r)) : k ≠ 0 := by
  unfold token at h
  repeat' split at h
  · cases h; decide
  · obtain ⟨p, hp, he⟩ := Option.map_eq_some_iff.1 h
    have := number_kind hp
    simp only [Prod.mk.injEq] at he
    omega
  · obtain ⟨p, hp, he⟩ := Option.map_eq_some_iff.1 h
    simp only [Prod.mk.injEq] at he
    omega
  · obtain ⟨p, hp, he⟩ := Option.map_eq_some_iff.1 h
    simp only [Prod.mk.injEq] at he
    omega
  · cases h; decide
  · cases h; decide
  · cases h
theorem token_lt {k : Nat} {l T r : List UInt8} (h : token l = some (k, T, r)) : r.length < l.length := by
  unfold token at h
  split at h
  · rename_i c1
    simp only [Option.some.injEq, Prod.mk.injEq] at h
    rw [← h.2.2]
    cases l with
    | nil => exact absurd c1 (by decide)
    | cons c l =>
      rw [List.dropWhile_cons, if_pos ((tok_of c).1 c1).2]
      have := dropWhile_le isWord l
      rw [List.length_cons]; omega
  split at h
  · obtain ⟨p, hp, he⟩ := Option.map_eq_some_iff.1 h
    have := number_shorter hp
    simp only [Prod.mk.injEq] at he
    rw [← he.2.2]; exact this
  split at h
  · rename_i c3
    obtain ⟨p, hp, he⟩ := Option.map_eq_some_iff.1 h
    simp only [Prod.mk.injEq] at he
    have := (block_len _ _ _ p.1 p.2 (Nat.le_refl _) hp).2
    have h3 := q3_len c3
    rw [List.length_drop] at this
    rw [← he.2.2]; omega
  split at h
  · rename_i c4
    obtain ⟨p, hp, he⟩ := Option.map_eq_some_iff.1 h
    simp only [Prod.mk.injEq] at he
    have := (text_len _ _ _ p.1 p.2 (Nat.le_refl _) hp).2
    rw [← he.2.2]
    cases l with
    | nil => exact absurd c4 (by decide)
    | cons c l => simp only [List.drop_one, List.tail_cons] at this; rw [List.length_cons]; omega
  split at h
  · rename_i c5
    have hl : 3 ≤ l.length := take3_len (y := [46, 46, 46]) rfl (of_decide_eq_true c5)
    simp only [Option.some.injEq, Prod.mk.injEq] at h
    rw [← h.2.2, List.length_drop]; omega
  split at h
  · rename_i c6
    simp only [Option.some.injEq, Prod.mk.injEq] at h
    rw [← h.2.2]
    cases l with
    | nil => exact absurd rfl c6.1
    | cons c l => simp
  · cases h
theorem remark_x (t : List UInt8) : ∀ (n : Nat) (l r : List UInt8), l.length ≤ n → remark l = (r, true) → remark (l ++ 10 :: t) = (r ++ 10 :: t, true)
  | _, [], r, _, h => by
    rw [remark_nil] at h
    cases h
    exact remark_end (.inl (by decide))
  | 0, c :: l, r, h, _ => by simp at h
  | n + 1, c :: l, r, hn, h => by
    have hnt : l.length ≤ n := by simpa using hn
    rw [List.cons_append]
    by_cases h1 : c.toNat = 10 ∨ c.toNat = 13
    · rw [remark_end h1] at h
      cases h
      exact remark_end h1
    by_cases h2 : (rune (c :: l)).2 = 0 ∨ ((rune (c :: l)).1 < 32 ∧ (rune (c :: l)).1 ≠ 9)
    · rw [remark_bad h1 h2] at h; cases h
    have hr : (rune (c :: l)).2 ≠ 0 := fun e => h2 (.inl e)
    have er := rune_app2 (c :: l) (10 :: t) hr
    rw [List.cons_append] at er
    rw [remark_go h1 h2] at h
    rw [remark_go h1 (by rw [er]; exact h2), er, show c :: (l ++ 10 :: t) = (c :: l) ++ 10 :: t from rfl, drop_x _ (rune_len _)]
    exact remark_x t n _ r (by rw [List.length_drop, List.length_cons]; omega) h
theorem gap_x (t : List UInt8) : ∀ (n : Nat) (f : Bool) (l r : List UInt8), l.length ≤ n → gap f l = (r, true) → gap f (l ++ 10 :: t) = if r = [] then gap false t else (r ++ 10 :: t, true)
  | _, f, [], r, _, h => by
    rw [gap_nil] at h
    cases h
    rw [if_pos rfl, List.nil_append, gap_blank (by decide)]
  | 0, f, c :: l, r, h, _ => by simp at h
  | n + 1, f, c :: l, r, hn, h => by
    have hnt : l.length ≤ n := by simpa using hn
    rw [List.cons_append]
    cases hb : isBlank c
    · by_cases hbo : f = true ∧ bom (c :: l) = true
      · obtain ⟨rfl, hbo⟩ := hbo
        have h3 : 3 ≤ (c :: l).length := take3_len (y := [239, 187, 191]) rfl (of_decide_eq_true hbo)
        have eb := b3_x (c :: l) t
        rw [List.cons_append] at eb
        rw [gap_bom hb hbo] at h
        rw [gap_bom hb (by rw [eb]; exact hbo), show c :: (l ++ 10 :: t) = (c :: l) ++ 10 :: t from rfl, drop_x _ h3]
        exact gap_x t n false _ r (by rw [List.length_drop, List.length_cons]; omega) h
      · by_cases h35 : c.toNat = 35
        · rw [gap_rem h35] at h
          split at h
          · rename_i hr
            have hrm := remark_x t l.length l (remark l).1 (Nat.le_refl _) (by rw [← hr])
            rw [gap_rem h35, hrm, if_pos rfl]
            have := remark_le l
            exact gap_x t n false _ r (by omega) h
          · cases h
        · have eb := b3_x (c :: l) t
          rw [List.cons_append] at eb
          rw [gap_stop hb hbo h35] at h
          cases h
          rw [gap_stop hb (by rw [eb]; exact hbo) h35, if_neg (by simp)]
          rfl
    · rw [gap_blank hb] at h
      rw [gap_blank hb]
      exact gap_x t n false l r hnt h
/-- A text's tokens, a line's end and another text behind it. -/
theorem lexGo_x (t : List UInt8) : ∀ (n size : Nat) (l : List UInt8) (out ts : List Tok), lexGo size n l out = .ok ts → l.length ≤ size → ∃ pre, ts = out ++ pre ++ [⟨0, [], size⟩] ∧ (∀ t ∈ pre, t.kind ≠ 0) ∧ pre.length < n ∧
    ∀ j, lexGo (size + (t.length + 1)) (n + j) (l ++ 10 :: t) out = lexGo (size + (t.length + 1)) (n + j - pre.length) t (out ++ pre)
  | 0, size, l, out, ts, h, _ => by simp [lexGo] at h
  | n + 1, size, l, out, ts, h, hl => by
    have hfl : decide ((l ++ 10 :: t).length = size + (t.length + 1)) = decide (l.length = size) := by
      rw [List.length_append, List.length_cons]
      exact decide_eq_decide.2 (by omega)
    rw [lexGo] at h
    split at h
    · cases h
    rename_i h1
    have hg : gap (decide (l.length = size)) l = ((gap (decide (l.length = size)) l).1, true) := by
      have : (gap (decide (l.length = size)) l).2 = true := by simpa using h1
      rw [← this]
    have hgx := gap_x t l.length _ l _ (Nat.le_refl _) hg
    have hgl := gap_le l.length (decide (l.length = size)) l (Nat.le_refl _)
    generalize (gap (decide (l.length = size)) l).1 = g at *
    split at h
    · rename_i h2
      refine ⟨[], by rw [List.append_nil]; exact (Res.ok.inj h).symm, by simp, by simp, fun j => ?_⟩
      have h3 : g = [] := List.eq_nil_of_length_eq_zero h2
      rw [h3, if_pos rfl] at hgx
      have hft : decide (t.length = size + (t.length + 1)) = false := decide_eq_false (by omega)
      rw [List.append_nil, show n + 1 + j - ([] : List Tok).length = n + j + 1 by simp; omega, show n + 1 + j = n + j + 1 by omega, lexGo, lexGo, hfl, hft, hgx]
    rename_i h2
    split at h
    · cases h
    rename_i k T rest htok
    split at h
    · cases h
    rename_i h3
    have hlt := token_lt htok
    obtain ⟨pre, e1, e0, e2, e3⟩ := lexGo_x t n size rest _ ts h (by omega)
    have hpos : size + (t.length + 1) - (g ++ 10 :: t).length = size - g.length := by rw [List.length_append, List.length_cons]; omega
    refine ⟨⟨k, T, size - g.length⟩ :: pre, by rw [e1]; simp, fun q hq => ?_, by simp; omega, fun j => ?_⟩
    · rcases List.mem_cons.1 hq with rfl | hq
      · exact token_kind htok
      · exact e0 q hq
    rw [if_neg (fun e => h2 (by rw [e]; rfl))] at hgx
    rw [show n + 1 + j = n + j + 1 by omega, lexGo, hfl, hgx, if_neg (by simp), if_neg (by simp), token_x t htok]
    simp only []
    rw [if_neg h3, hpos, e3 j]
    rw [List.append_assoc, List.length_cons, show n + j + 1 - (pre.length + 1) = n + j - pre.length by omega]
    rfl
def shift (d : Nat) (t : Tok) : Tok := ⟨t.kind, t.text, t.at_ + d⟩
/-- The same text, behind others. -/
theorem lexGo_s (d : Nat) (hd : 0 < d) : ∀ (n size : Nat) (l : List UInt8) (out ts : List Tok), lexGo size n l out = .ok ts → l.length ≤ size → (l.length = size → bom l = false) → ∃ new, ts = out ++ new ∧ (∃ pre, new = pre ++ [⟨0, [], size⟩] ∧ ∀ t ∈ pre, t.kind ≠ 0) ∧
    ∀ (j : Nat) (o2 : List Tok), lexGo (size + d) (n + j) l o2 = .ok (o2 ++ new.map (shift d)) ∨ ∃ a, lexGo (size + d) (n + j) l o2 = .err a 8
  | 0, size, l, out, ts, h, _, _ => by simp [lexGo] at h
  | n + 1, size, l, out, ts, h, hl, hb => by
    have hft : decide (l.length = size + d) = false := decide_eq_false (by omega)
    have hgf : gap (decide (l.length = size)) l = gap false l := by
      by_cases he : l.length = size
      · rw [decide_eq_true he]
        have hbo := hb he
        cases l with
        | nil => rw [gap_nil, gap_nil]
        | cons c l =>
          cases hbl : isBlank c
          · by_cases h35 : c.toNat = 35
            · rw [gap_rem h35, gap_rem h35]
            · rw [gap_stop hbl (by rw [hbo]; simp) h35, gap_stop hbl (by simp) h35]
          · rw [gap_blank hbl, gap_blank hbl]
      · rw [decide_eq_false he]
    rw [lexGo, hgf] at h
    split at h
    · cases h
    rename_i h1
    have hgl := gap_le l.length false l (Nat.le_refl _)
    split at h
    · rename_i h2
      refine ⟨[⟨0, [], size⟩], (Res.ok.inj h).symm, ⟨[], rfl, by simp⟩, fun j o2 => .inl ?_⟩
      rw [show n + 1 + j = n + j + 1 by omega, lexGo, hft, if_neg h1, if_pos h2]
      rfl
    rename_i h2
    split at h
    · cases h
    rename_i k T rest htok
    split at h
    · cases h
    have hlt := token_lt htok
    obtain ⟨new, e1, ⟨pre, e2, e0⟩, e3⟩ := lexGo_s d hd n size rest _ ts h (by omega) (fun e => by omega)
    refine ⟨⟨k, T, size - (gap false l).1.length⟩ :: new, by rw [e1]; simp, ⟨⟨k, T, size - (gap false l).1.length⟩ :: pre, by rw [e2]; rfl, fun q hq => by
      rcases List.mem_cons.1 hq with rfl | hq
      · exact token_kind htok
      · exact e0 q hq⟩, fun j o2 => ?_⟩
    rw [show n + 1 + j = n + j + 1 by omega, lexGo, hft, if_neg h1, if_neg h2, htok]
    simp only []
    by_cases h5 : o2.length = 1500
    · rw [if_pos h5]
      exact .inr ⟨_, rfl⟩
    · rw [if_neg h5]
      have hpos : size + d - (gap false l).1.length = size - (gap false l).1.length + d := by omega
      rw [hpos]
      rcases e3 j (o2 ++ [⟨k, T, size - (gap false l).1.length + d⟩]) with h6 | h6
      · refine .inl ?_
        rw [h6, List.append_assoc]
        rfl
      · exact .inr h6
theorem lexGo_err : ∀ (n size : Nat) (l : List UInt8) (out : List Tok) (a c : Nat), lexGo size (n + 1) l out = .err a c → l.length < n + 1 → c ≠ 0
  | n, size, l, out, a, c, h, hl => by
    have hgl := gap_le l.length (decide (l.length = size)) l (Nat.le_refl _)
    rw [lexGo] at h
    split at h
    · cases h; decide
    split at h
    · cases h
    split at h
    · cases h; decide
    rename_i k T rest htok
    have hlt := token_lt htok
    split at h
    · cases h; decide
    · cases n with
      | zero => omega
      | succ n => exact lexGo_err n size rest _ a c h (by omega)
theorem lex_err {l : List UInt8} {a c : Nat} (h : lex l = .err a c) : c ≠ 0 := by
  unfold lex at h
  split at h
  · cases h; decide
  · exact lexGo_err _ _ _ _ _ _ h (by omega)
/-- The tokens of two texts, one behind the other. -/
theorem lex_join {s t : List UInt8} {ts us : List Tok} (hs : lex s = .ok ts) (ht : lex t = .ok us) (hb : bom t = false) (hl : s.length + t.length + 1 ≤ 4096) :
    ∃ pre, ts = pre ++ [⟨0, [], s.length⟩] ∧ (∀ t ∈ pre, t.kind ≠ 0) ∧ (∃ p2, us = p2 ++ [⟨0, [], t.length⟩] ∧ ∀ t ∈ p2, t.kind ≠ 0) ∧ (lex (s ++ 10 :: t) = .ok (pre ++ us.map (shift (s.length + 1))) ∨ ∃ a, lex (s ++ 10 :: t) = .err a 8) := by
  unfold lex at hs ht
  rw [if_neg (by omega)] at hs ht
  obtain ⟨pre, e1, e0, e2, e3⟩ := lexGo_x t _ _ _ _ _ hs (Nat.le_refl _)
  obtain ⟨new, f1, ⟨p2, f2, f0⟩, f3⟩ := lexGo_s (s.length + 1) (by omega) _ _ _ _ _ ht (Nat.le_refl _) (fun _ => hb)
  rw [List.nil_append] at e1 f1
  refine ⟨pre, e1, e0, ⟨p2, by rw [f1, f2], f0⟩, ?_⟩
  have hlen : (s ++ 10 :: t).length = s.length + (t.length + 1) := by rw [List.length_append, List.length_cons]
  have h4 := e3 (t.length + 1)
  have h5 := f3 (s.length + 1 - pre.length) pre
  rw [List.nil_append, show s.length + 1 + (t.length + 1) - pre.length = t.length + 1 + (s.length + 1 - pre.length) by omega] at h4
  unfold lex
  rw [if_neg (by omega), hlen, show s.length + (t.length + 1) + 1 = s.length + 1 + (t.length + 1) by omega, h4, show s.length + (t.length + 1) = t.length + (s.length + 1) by omega, f1]
  exact h5
end Lx
end Go.Proofs.YtabcaljnpahgpaaGreatDoor
