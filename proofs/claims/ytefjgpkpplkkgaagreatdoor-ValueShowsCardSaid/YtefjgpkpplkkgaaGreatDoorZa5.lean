/-
  Numbers with a sign, a blank or nothing behind them; a text that is one token (no program in sight). A good value's text, and its words (plain). A good value's text, piece by piece (plain). Bytes of a string as a list. A good value's words are read as the value (plain). What was read is good, and its words are the tokens it was read of; so its text is read as the value (plain). A good value's text: its tokens, or what is wrong with them, and what is parsed (plain).
-/
import Derived.Test.YtefjgpkpplkkgaaGreatDoorZa4
import Derived.Test.YtefjgpkpplkkgaaGreatDoorZa3
namespace Go.Proofs.YtefjgpkpplkkgaaGreatDoor
set_option linter.unusedSimpArgs false
set_option linter.unusedVariables false
namespace Lx
/-- What may stand behind a word that ends by itself. -/
def neuB (c : UInt8) : Bool := !isLetter c && (!isDigit c && (decide (c.toNat ≠ 46) && (decide (c.toNat ≠ 45) && (decide (c.toNat ≠ 43) && decide (c.toNat ≠ 34)))))
structure Neu (x : List UInt8) : Prop where
  l : isLetter (hd x) = false
  d : isDigit (hd x) = false
  n46 : (hd x).toNat ≠ 46
  n45 : (hd x).toNat ≠ 45
  n43 : (hd x).toNat ≠ 43
  n34 : (hd x).toNat ≠ 34
theorem neu_of {x : List UInt8} (h : neuB (hd x) = true) : Neu x := by
  unfold neuB at h
  simp only [Bool.and_eq_true, Bool.not_eq_true', decide_eq_true_eq] at h
  obtain ⟨a, b, c, d, e, f⟩ := h
  exact ⟨a, b, c, d, e, f⟩
theorem neu_nil : Neu [] := neu_of (by decide)
theorem neu_cons (c : UInt8) (l : List UInt8) (h : neuB c = true) : Neu (c :: l) := neu_of h
theorem Neu.w {x : List UInt8} (h : Neu x) : isWord (hd x) = false := by unfold isWord; rw [h.l, h.d]; rfl
theorem Neu.e {x : List UInt8} (h : Neu x) : (hd x ||| 32).toNat ≠ 101 := fun e => by
  have := h.l
  unfold isLetter at this
  rw [e] at this
  simp at this
theorem hdn {β : Type} (p : UInt8 → β) {x : List UInt8} (h : p (hd x) = p 0) (l : List UInt8) : p (hd (l ++ x)) = p (hd l) := by
  cases l with
  | nil => exact h
  | cons c l => rfl
theorem n_hdn (n : Nat) (h0 : n ≠ 0) {x : List UInt8} (h : (hd x).toNat ≠ n) (l : List UInt8) : ((hd (l ++ x)).toNat = n) = ((hd l).toNat = n) :=
  hdn (fun c => c.toNat = n) (propext ⟨fun e => absurd e h, fun e => absurd (show (0 : Nat) = n from e) (fun e => h0 e.symm)⟩) l
theorem dw_n (p : UInt8 → Bool) {x : List UInt8} (hp : p (hd x) = false) : ∀ l, (l ++ x).dropWhile p = l.dropWhile p ++ x
  | [] => by
    cases x with
    | nil => rfl
    | cons c x => rw [List.nil_append, List.dropWhile_cons, if_neg (by rw [show p c = false from hp]; simp)]; rfl
  | c :: l => by
    rw [List.cons_append, List.dropWhile_cons, List.dropWhile_cons]
    split
    · exact dw_n p hp l
    · rfl
theorem digits_n {x : List UInt8} (hx : Neu x) (l : List UInt8) : digits (l ++ x) = digits l ++ x := dw_n isDigit hx.d l
/-- Behind a number's reading: this text. -/
def thenX (x : List UInt8) (p : Nat × List UInt8) : Nat × List UInt8 := (p.1, p.2 ++ x)
theorem numEnd_n {x : List UInt8} (hx : Neu x) (k : Nat) (l : List UInt8) : numEnd (k, l ++ x) = (numEnd (k, l)).map (thenX x) := by
  unfold numEnd
  dsimp only
  simp only [n_hdn 46 (by decide) hx.n46, hdn isLetter (hx.l.trans (by decide)), hdn isDigit (hx.d.trans (by decide))]
  split <;> rfl
theorem drop1_n {x l : List UInt8} (h : l ≠ []) : (l ++ x).drop 1 = l.drop 1 ++ x := by
  cases l with
  | nil => exact absurd rfl h
  | cons c l => rfl
theorem ne_hd {l : List UInt8} {n : Nat} (h : (hd l).toNat = n) (h0 : n ≠ 0) : l ≠ [] := fun e => by subst e; exact h0 h.symm
theorem digEnd_n {x : List UInt8} (hx : Neu x) (f : List UInt8 → Option (Nat × List UInt8)) (hf : ∀ l, f (l ++ x) = (f l).map (thenX x)) (l : List UInt8) :
    (if (digits (l ++ x)).length = (l ++ x).length then none else f (digits (l ++ x))) = (if (digits l).length = l.length then none else f (digits l)).map (thenX x) := by
  rw [digits_n hx, List.length_append, List.length_append, hf]
  by_cases h : (digits l).length = l.length
  · rw [if_pos h, if_pos (by omega)]; rfl
  · rw [if_neg h, if_neg (by omega)]
theorem numExp_n {x : List UInt8} (hx : Neu x) (k : Nat) (l : List UInt8) : numExp (k, l ++ x) = (numExp (k, l)).map (thenX x) := by
  unfold numExp
  dsimp only
  simp only [hdn (fun c => (c ||| 32).toNat = 101) (propext ⟨fun e => absurd e hx.e, fun e => absurd e (by decide)⟩) l]
  by_cases he : (hd l ||| 32).toNat = 101
  · rw [if_pos he, if_pos he]
    have hl : l ≠ [] := fun e => by subst e; exact absurd he (by decide)
    rw [drop1_n hl]
    simp only [n_hdn 43 (by decide) hx.n43, n_hdn 45 (by decide) hx.n45]
    by_cases hs : (hd (l.drop 1)).toNat = 43 ∨ (hd (l.drop 1)).toNat = 45
    · have hl2 : l.drop 1 ≠ [] := by
        rcases hs with h | h
        · exact ne_hd h (by decide)
        · exact ne_hd h (by decide)
      rw [if_pos hs, if_pos hs, drop1_n hl2]
      exact digEnd_n hx (fun l => numEnd (3, l)) (numEnd_n hx 3) _
    · rw [if_neg hs, if_neg hs]
      exact digEnd_n hx (fun l => numEnd (3, l)) (numEnd_n hx 3) _
  · rw [if_neg he, if_neg he]
    exact numEnd_n hx k l
theorem numFrac_n {x : List UInt8} (hx : Neu x) (l : List UInt8) : numFrac (l ++ x) = (numFrac l).map (thenX x) := by
  unfold numFrac
  simp only [n_hdn 46 (by decide) hx.n46]
  by_cases he : (hd l).toNat = 46
  · rw [if_pos he, if_pos he, drop1_n (ne_hd he (by decide))]
    exact digEnd_n hx (fun l => numExp (3, l)) (numExp_n hx 3) _
  · rw [if_neg he, if_neg he]
    exact numExp_n hx 2 l
theorem number_n {x : List UInt8} (hx : Neu x) (l : List UInt8) : number (l ++ x) = (number l).map (thenX x) := by
  have key : ∀ l1 : List UInt8, (if (digits (l1 ++ x)).length = (l1 ++ x).length ∨ ((hd (l1 ++ x)).toNat = 48 ∧ 1 < (l1 ++ x).length - (digits (l1 ++ x)).length) then none else numFrac (digits (l1 ++ x))) =
      (if (digits l1).length = l1.length ∨ ((hd l1).toNat = 48 ∧ 1 < l1.length - (digits l1).length) then none else numFrac (digits l1)).map (thenX x) := by
    intro l1
    rw [digits_n hx, List.length_append, List.length_append, numFrac_n hx]
    by_cases h48 : (hd l1).toNat = 48
    · have h48' : (hd (l1 ++ x)).toNat = 48 := by
        cases l1 with
        | nil => exact absurd h48 (by decide)
        | cons c l1 => exact h48
      by_cases h : (digits l1).length = l1.length ∨ ((hd l1).toNat = 48 ∧ 1 < l1.length - (digits l1).length)
      · rw [if_pos h, if_pos (by rcases h with h | h; exact .inl (by omega); exact .inr ⟨h48', by omega⟩)]; rfl
      · rw [if_neg h, if_neg (fun e => h (by rcases e with e | e; exact .inl (by omega); exact .inr ⟨h48, by omega⟩))]
    · by_cases h : (digits l1).length = l1.length
      · rw [if_pos (.inl (show (digits l1).length + x.length = l1.length + x.length by omega)), if_pos (.inl h)]; rfl
      · have h48' : (hd (l1 ++ x)).toNat ≠ 48 := by
          cases l1 with
          | nil => exact absurd rfl h
          | cons c l1 => exact h48
        rw [if_neg (fun e => by rcases e with e | e; exact h (by omega); exact h48' e.1), if_neg (fun e => by rcases e with e | e; exact h e; exact h48 e.1)]
  unfold number
  simp only [n_hdn 45 (by decide) hx.n45]
  by_cases hm : (hd l).toNat = 45
  · rw [if_pos hm, if_pos hm, drop1_n (ne_hd hm (by decide))]
    exact key _
  · rw [if_neg hm, if_neg hm]
    exact key l
/-- A text that is a number, whatever ends it. -/
def numAll (k : Nat) (t : List UInt8) : Prop := (isLetter (hd t) = false ∧ ((hd t).toNat = 45 ∨ isDigit (hd t) = true)) ∧ number t = some (k, [])
theorem numAll_tok {k : Nat} {t x : List UInt8} (h : numAll k t) (hx : Neu x) : token (t ++ x) = some (k, t, x) := by
  obtain ⟨⟨h1, h2⟩, h3⟩ := h
  have ht : t ≠ [] := fun e => by subst e; exact absurd h2 (by decide)
  have hh : hd (t ++ x) = hd t := by
    cases t with
    | nil => exact absurd rfl ht
    | cons c t => rfl
  unfold token
  rw [hh, if_neg (by rw [h1]; simp), if_pos h2, number_n hx, h3]
  simp only [thenX, Option.map_some, List.nil_append]
  rw [take_pre]
theorem token_num {k : Nat} {l T r : List UInt8} (h : token l = some (k, T, r)) (hk : k = 2 ∨ k = 3) : (isLetter (hd l) = false ∧ ((hd l).toNat = 45 ∨ isDigit (hd l) = true)) ∧ number l = some (k, r) ∧ T = l.take (l.length - r.length) := by
  unfold token at h
  split at h
  · simp only [Option.some.injEq, Prod.mk.injEq] at h; omega
  rename_i c1
  split at h
  · rename_i c2
    obtain ⟨p, hp, he⟩ := Option.map_eq_some_iff.1 h
    simp only [Prod.mk.injEq] at he
    obtain ⟨rfl, rfl, rfl⟩ := he
    exact ⟨⟨by simpa using c1, c2⟩, hp, rfl⟩
  exfalso
  split at h
  · obtain ⟨p, hp, he⟩ := Option.map_eq_some_iff.1 h
    simp only [Prod.mk.injEq] at he; omega
  split at h
  · obtain ⟨p, hp, he⟩ := Option.map_eq_some_iff.1 h
    simp only [Prod.mk.injEq] at he; omega
  split at h
  · simp only [Option.some.injEq, Prod.mk.injEq] at h; omega
  split at h
  · simp only [Option.some.injEq, Prod.mk.injEq] at h; omega
  · cases h
theorem numAll_stop {k : Nat} {t : List UInt8} (h : numAll k t) : stopB (hd t) = true ∧ t ≠ [] := by
  obtain ⟨⟨h1, h2⟩, h3⟩ := h
  refine ⟨?_, fun e => by subst e; exact absurd h2 (by decide)⟩
  rcases h2 with c2 | c2
  · have : hd t = 45 := UInt8.toNat_inj.1 (by rw [c2]; rfl)
    rw [this]; decide
  · exact (tok_of _).2.1 c2
theorem stands_num {k : Nat} {t g x : List UInt8} (hg : ∀ d ∈ g, isBlank d = true) (h : numAll k t) (hx : Neu x) : StandsW ⟨g, k, t, t⟩ x :=
  ⟨hg, (numAll_stop h).1, (numAll_stop h).2, numAll_tok h hx⟩
theorem stands_quote {t g x : List UInt8} (hg : ∀ d ∈ g, isBlank d = true) (h : valid t = true) (hx : Neu x) : StandsW ⟨g, 4, t, quote t⟩ x :=
  ⟨hg, by show stopB 34 = true; decide, by unfold quote; simp, token_quote t x h hx.n34⟩
theorem remark_suf (l : List UInt8) : ∃ a, l = a ++ (remark l).1 := by
  induction l using remark.induct with
  | case1 => exact ⟨[], by simp [remark]⟩
  | case2 c t h => rw [remark, if_pos h]; exact ⟨[], rfl⟩
  | case3 c t h1 h2 => rw [remark, if_neg h1, if_pos h2]; exact ⟨[], rfl⟩
  | case4 c t h1 h2 ih =>
    obtain ⟨a, e⟩ := ih
    rw [remark, if_neg h1, if_neg h2]
    exact ⟨(c :: t).take (rune (c :: t)).2 ++ a, by rw [List.append_assoc, ← e, List.take_append_drop]⟩
/-- What the first round of the lexer eats. -/
theorem gap_suf : ∀ (n : Nat) (f : Bool) (l : List UInt8), l.length ≤ n → ∃ a, l = a ++ (gap f l).1
  | 0, f, [], h => ⟨[], by rw [gap]; rfl⟩
  | n + 1, f, [], h => ⟨[], by rw [gap]; rfl⟩
  | 0, f, c :: t, h => by simp at h
  | n + 1, f, c :: t, h => by
    rw [gap]
    split
    · obtain ⟨a, e⟩ := gap_suf n false t (by simpa using h)
      exact ⟨c :: a, by rw [List.cons_append, ← e]⟩
    split
    · obtain ⟨a, e⟩ := gap_suf n false ((c :: t).drop 3) (by rw [List.length_drop]; simp at h ⊢; omega)
      refine ⟨(c :: t).take 3 ++ a, ?_⟩
      rw [List.append_assoc, ← e, List.take_append_drop]
    split
    · obtain ⟨b, e2⟩ := remark_suf t
      split
      · have := remark_le t
        obtain ⟨a, e⟩ := gap_suf n false (remark t).1 (by simp at h; omega)
        refine ⟨c :: (b ++ a), ?_⟩
        rw [List.cons_append, List.append_assoc, ← e, ← e2]
      · exact ⟨c :: b, by rw [List.cons_append, ← e2]⟩
    · exact ⟨[], rfl⟩
/-- A text that is just one number. -/
theorem numAll_one {k : Nat} {t : List UInt8} {a b : Tok} (h : lex t = .ok [a, b]) (h1 : a.kind = k) (h2 : a.text = t) (hk : k = 2 ∨ k = 3) : numAll k t ∧ t.length ≤ 4096 := by
  unfold lex at h
  by_cases hl : 4096 < t.length
  · rw [if_pos hl] at h; cases h
  rw [if_neg hl, lexGo] at h
  obtain ⟨p, hp⟩ := gap_suf t.length (decide (t.length = t.length)) t (Nat.le_refl _)
  generalize hg : (gap (decide (t.length = t.length)) t).1 = l1 at *
  split at h
  · cases h
  split at h
  · have := Res.ok.inj h
    simp at this
  split at h
  · cases h
  rename_i k' T rest htok
  split at h
  · cases h
  have hl1 : rest.length ≤ 4096 := by
    have h1 := token_len htok (by have := congrArg List.length hp; rw [List.length_append] at this; omega)
    have := congrArg List.length hp; rw [List.length_append] at this; omega
  obtain ⟨pre, e, -⟩ := lexGo_good _ _ _ _ _ hl1 h
  rw [List.nil_append, List.append_assoc, List.singleton_append] at e
  have e2 := (List.cons.inj e).1
  rw [e2] at h1 h2
  have h1 : k' = k := h1
  have h2 : T = t := h2
  subst h1 h2
  obtain ⟨c1, c2, c3⟩ := token_num htok hk
  have hp' := congrArg List.length hp
  have c3' := congrArg List.length c3
  rw [List.length_append] at hp'
  rw [List.length_take] at c3'
  have hpn : p = [] := List.eq_nil_of_length_eq_zero (by omega)
  rw [hpn, List.nil_append] at hp
  have hl2 : l1.length ≠ 0 := by assumption
  have hrl : rest = [] := by
    obtain ⟨pre, e, _⟩ := number_pre c2
    have := congrArg List.length e
    rw [List.length_append] at this
    exact List.eq_nil_of_length_eq_zero (by omega)
  rw [hrl, ← hp] at c2
  rw [← hp] at c1
  exact ⟨⟨c1, c2⟩, by omega⟩
end Lx
end Go.Proofs.YtefjgpkpplkkgaaGreatDoor
namespace Go.Proofs.YtefjgpkpplkkgaaGreatDoor
set_option linter.unusedSimpArgs false
set_option linter.unusedVariables false
namespace Vl
def many (k : Int) : Prop := k = 8 ∨ k = 9
instance (k : Int) : Decidable (many k) := by unfold many; infer_instance
-- Has a value a text?
mutual
def Z.good : Nat → Z → Bool
  | deep, .mk k t i f _ => parts k i.length f.length && (if 1 ≤ k ∧ k ≤ 7 then (leaf k t).1 else if many k then (decide (t = []) && decide (deep < 16)) && (Z.goods (deep + 1) i && ZA.goods (deep + 1) f) else false)
def Z.goods : Nat → List Z → Bool
  | _, [] => true
  | deep, x :: r => Z.good deep x && Z.goods deep r
def ZA.good : Nat → ZA → Bool
  | deep, .mk n v _ => Lx.isName n && Z.good deep v
def ZA.goods : Nat → List ZA → Bool
  | _, [] => true
  | deep, x :: r => ZA.good deep x && ZA.goods deep r
end
-- Its text.
def gp (b : Bool) : List UInt8 := if b then [] else [44, 32]
mutual
def Z.str : Z → List UInt8
  | .mk k t i f _ => if many k then opn k ++ (Z.strs true i ++ (ZA.strs true f ++ shut k)) else (leaf k t).2
def Z.strs : Bool → List Z → List UInt8
  | _, [] => []
  | b, x :: r => gp b ++ (Z.str x ++ Z.strs false r)
def ZA.str : ZA → List UInt8
  | .mk n v _ => n ++ ([58, 32] ++ Z.str v)
def ZA.strs : Bool → List ZA → List UInt8
  | _, [] => []
  | b, x :: r => gp b ++ (ZA.str x ++ ZA.strs false r)
end
theorem Z.good_eq (deep : Nat) (z : Z) : z.good deep = (parts z.kind z.items.length z.fields.length && (if 1 ≤ z.kind ∧ z.kind ≤ 7 then (leaf z.kind z.text).1 else if many z.kind then (decide (z.text = []) && decide (deep < 16)) && (Z.goods (deep + 1) z.items && ZA.goods (deep + 1) z.fields) else false)) := by
  cases z; rw [Z.good]; rfl
theorem Z.str_eq (z : Z) : z.str = if many z.kind then opn z.kind ++ (Z.strs true z.items ++ (ZA.strs true z.fields ++ shut z.kind)) else (leaf z.kind z.text).2 := by
  cases z; rw [Z.str]; rfl
theorem sep_put (b : Bool) (s : Sh) : sep b s = put (gp b) s := by
  unfold sep gp put
  cases b <;> simp
/-- What 'show' does: what is good is put; what isn't is bad. -/
def Does (f : Sh → Sh) (g : Bool) (t : List UInt8) : Prop := (∀ s, s.bad = true → (f s).bad = true) ∧ ∀ s, s.bad = false → (g = true → f s = ⟨s.out ++ t, false⟩) ∧ (g = false → (f s).bad = true)
theorem does_put (t : List UInt8) : Does (put t) true t := ⟨fun s h => h, fun s h => ⟨fun _ => by unfold put; rw [h], fun e => by cases e⟩⟩
theorem does_need (b : Bool) : Does (need b) b [] := ⟨fun s h => by unfold need; rw [h]; rfl, fun s h => ⟨fun e => by unfold need; rw [h, e]; simp, fun e => by unfold need; rw [h, e]; rfl⟩⟩
theorem does_id : Does (fun s => s) true [] := ⟨fun s h => h, fun s h => ⟨fun _ => by cases s; simp at h ⊢; exact h, fun e => by cases e⟩⟩
theorem Does.comp {f f2 : Sh → Sh} {g g2 : Bool} {t t2 : List UInt8} (h : Does f g t) (h2 : Does f2 g2 t2) : Does (fun s => f2 (f s)) (g && g2) (t ++ t2) := by
  refine ⟨fun s hs => h2.1 _ (h.1 _ hs), fun s hs => ⟨fun hg => ?_, fun hg => ?_⟩⟩
  · rw [Bool.and_eq_true] at hg
    show f2 (f s) = _
    rw [(h.2 s hs).1 hg.1, (h2.2 _ rfl).1 hg.2, List.append_assoc]
  · show (f2 (f s)).bad = true
    cases g with
    | false => exact h2.1 _ ((h.2 s hs).2 rfl)
    | true =>
      rw [(h.2 s hs).1 rfl]
      exact (h2.2 _ rfl).2 (by simpa using hg)
theorem Does.to {f : Sh → Sh} {g g2 : Bool} {t t2 : List UInt8} (h : Does f g t) (e : g = g2) (e2 : t = t2) : Does f g2 t2 := by subst e e2; exact h
mutual
theorem show_does : ∀ (z : Z) (deep : Nat), Does (z.show deep) (z.good deep) z.str
  | .mk k t i f a, deep => by
    by_cases h1 : 1 ≤ k ∧ k ≤ 7
    · have hm : ¬ many k := by unfold many; omega
      have e : (Z.mk k t i f a).show deep = fun s => put (leaf k t).2 (need (leaf k t).1 (need (parts k i.length f.length) s)) := by
        funext s
        exact Z.show_leaf (x := Z.mk k t i f a) h1
      rw [e]
      exact (((does_need (parts k i.length f.length)).comp (does_need (leaf k t).1)).comp (does_put (leaf k t).2)).to (by rw [Z.good, if_pos h1, Bool.and_true]) (by rw [Z.str, if_neg hm]; rfl)
    by_cases h2 : many k
    · have e : (Z.mk k t i f a).show deep = fun s => if (need (decide (t = []) && decide (deep < 16)) (need (parts k i.length f.length) s)).bad = true then need (decide (t = []) && decide (deep < 16)) (need (parts k i.length f.length) s)
          else put (shut k) (ZA.shows (deep + 1) true f (Z.shows (deep + 1) true i (put (opn k) (need (decide (t = []) && decide (deep < 16)) (need (parts k i.length f.length) s))))) := by
        funext s
        exact Z.show_many (x := Z.mk k t i f a) h2
      have hin := ((((does_put (opn k)).comp (shows_does i (deep + 1) true)).comp (showas_does f (deep + 1) true)).comp (does_put (shut k)))
      have hpre := (does_need (parts k i.length f.length)).comp (does_need (decide (t = []) && decide (deep < 16)))
      have hg : (Z.mk k t i f a).good deep = ((parts k i.length f.length && (decide (t = []) && decide (deep < 16))) && (((true && Z.goods (deep + 1) i) && ZA.goods (deep + 1) f) && true)) := by
        rw [Z.good, if_neg h1, if_pos h2, Bool.true_and, Bool.and_true, Bool.and_assoc (parts k i.length f.length)]
      have ht : (Z.mk k t i f a).str = ([] ++ []) ++ (((opn k ++ Z.strs true i) ++ ZA.strs true f) ++ shut k) := by
        rw [Z.str, if_pos h2]; simp
      rw [e, hg, ht]
      have hc := hpre.comp hin
      refine ⟨fun s hs => ?_, fun s hs => ⟨fun hg => ?_, fun hg => ?_⟩⟩
      · show (if _ then _ else _ : Sh).bad = true
        rw [if_pos (hpre.1 s hs)]
        exact hpre.1 s hs
      · have h3 := (hc.2 s hs).1 hg
        rw [Bool.and_eq_true] at hg
        have h4 := (hpre.2 s hs).1 hg.1
        show (if _ then _ else _ : Sh) = _
        rw [if_neg (by show ¬ (need _ (need _ s)).bad = true; rw [show need (decide (t = []) && decide (deep < 16)) (need (parts k i.length f.length) s) = _ from h4]; simp)]
        exact h3
      · have h3 := (hc.2 s hs).2 hg
        show (if _ then _ else _ : Sh).bad = true
        split
        · assumption
        · exact h3
    · have e : (Z.mk k t i f a).show deep = fun s => need false (need (parts k i.length f.length) s) := by
        funext s
        exact Z.show_else (x := Z.mk k t i f a) h1 h2
      have hg : (Z.mk k t i f a).good deep = (parts k i.length f.length && false) := by rw [Z.good, if_neg h1, if_neg h2]
      rw [e, hg]
      have := (does_need (parts k i.length f.length)).comp (does_need false)
      refine ⟨this.1, fun s hs => ⟨fun h => by simp at h, (this.2 s hs).2⟩⟩
theorem shows_does : ∀ (l : List Z) (deep : Nat) (b : Bool), Does (Z.shows deep b l) (Z.goods deep l) (Z.strs b l)
  | [], deep, b => by
    have e : Z.shows deep b [] = fun s => s := by funext s; exact Z.shows_nil _ _ _
    rw [e, Z.goods, Z.strs]; exact does_id
  | x :: r, deep, b => by
    have e : Z.shows deep b (x :: r) = fun s => Z.shows deep false r (Z.show deep x (put (gp b) s)) := by funext s; rw [Z.shows_cons, sep_put]
    rw [e, Z.goods, Z.strs]
    exact (((does_put (gp b)).comp (show_does x deep)).comp (shows_does r deep false)).to (by rw [Bool.true_and]) (by rw [List.append_assoc])
theorem showa_does : ∀ (x : ZA) (deep : Nat), Does (ZA.show deep x) (ZA.good deep x) x.str
  | .mk n v a, deep => by
    have e : ZA.show deep (.mk n v a) = fun s => Z.show deep v (put (n ++ [58, 32]) (need (Lx.isName n) s)) := by funext s; rw [ZA.show]
    rw [e, ZA.good, ZA.str]
    exact (((does_need (Lx.isName n)).comp (does_put (n ++ [58, 32]))).comp (show_does v deep)).to (by rw [Bool.and_true]) (by simp)
theorem showas_does : ∀ (l : List ZA) (deep : Nat) (b : Bool), Does (ZA.shows deep b l) (ZA.goods deep l) (ZA.strs b l)
  | [], deep, b => by
    have e : ZA.shows deep b [] = fun s => s := by funext s; exact ZA.shows_nil _ _ _
    rw [e, ZA.goods, ZA.strs]; exact does_id
  | x :: r, deep, b => by
    have e : ZA.shows deep b (x :: r) = fun s => ZA.shows deep false r (ZA.show deep x (put (gp b) s)) := by funext s; rw [ZA.shows_cons, sep_put]
    rw [e, ZA.goods, ZA.strs]
    exact (((does_put (gp b)).comp (showa_does x deep)).comp (showas_does r deep false)).to (by rw [Bool.true_and]) (by rw [List.append_assoc])
end
theorem shown_good {z : Z} (h : z.good 0 = true) : z.show 0 ⟨[], false⟩ = ⟨z.str, false⟩ := ((show_does z 0).2 ⟨[], false⟩ rfl).1 h
theorem shown_bad {z : Z} (h : z.good 0 = false) : (z.show 0 ⟨[], false⟩).bad = true := ((show_does z 0).2 ⟨[], false⟩ rfl).2 h
-- The same but for places: the same text, good likewise.
-- Its words.
def leafW (g : List UInt8) (k : Int) (t : List UInt8) : List Lx.Wd :=
  if k = 1 then [⟨g, 5, [36], [36]⟩, ⟨[], 1, t, t⟩]
  else if k = 2 then [⟨g, 2, t, t⟩]
  else if k = 3 then [⟨g, 3, t, t⟩]
  else if k = 4 then [⟨g, 4, t, quoteOf t⟩]
  else if k = 5 then [⟨g, 1, t, t⟩]
  else if k = 6 then [⟨g, 1, Rd.sNull, Rd.sNull⟩]
  else [⟨g, 1, t, t⟩]
mutual
def Z.wds : List UInt8 → Z → List Lx.Wd
  | g, .mk k t i f _ => if many k then ⟨g, 5, opn k, opn k⟩ :: (Z.wdss true i ++ (ZA.wdss true f ++ [⟨[], 5, shut k, shut k⟩])) else leafW g k t
def Z.wdss : Bool → List Z → List Lx.Wd
  | _, [] => []
  | b, x :: r => Z.wds (gp b) x ++ Z.wdss false r
def ZA.wds : List UInt8 → ZA → List Lx.Wd
  | g, .mk n v _ => ⟨g, 1, n, n⟩ :: ⟨[], 5, [58], [58]⟩ :: Z.wds [32] v
def ZA.wdss : Bool → List ZA → List Lx.Wd
  | _, [] => []
  | b, x :: r => ZA.wds (gp b) x ++ ZA.wdss false r
end
theorem flat_leaf (g : List UInt8) (k : Int) (t : List UInt8) : Lx.flat (leafW g k t) = g ++ (leaf k t).2 := by
  unfold leafW leaf
  repeat' split
  all_goals simp [Lx.flat]
mutual
theorem flat_wds : ∀ (z : Z) (g : List UInt8), Lx.flat (Z.wds g z) = g ++ z.str
  | .mk k t i f a, g => by
    rw [Z.wds, Z.str]
    split
    · rw [Lx.flat, Lx.flat_app, Lx.flat_app, flat_wdss i true, flat_wdas f true]
      simp [Lx.flat]
    · exact flat_leaf g k t
theorem flat_wdss : ∀ (l : List Z) (b : Bool), Lx.flat (Z.wdss b l) = Z.strs b l
  | [], b => by rw [Z.wdss, Z.strs]; rfl
  | x :: r, b => by rw [Z.wdss, Z.strs, Lx.flat_app, flat_wds x, flat_wdss r false, List.append_assoc]
theorem flat_wda : ∀ (z : ZA) (g : List UInt8), Lx.flat (ZA.wds g z) = g ++ z.str
  | .mk n v a, g => by
    rw [ZA.wds, ZA.str, Lx.flat, Lx.flat, flat_wds v]
    simp
theorem flat_wdas : ∀ (l : List ZA) (b : Bool), Lx.flat (ZA.wdss b l) = ZA.strs b l
  | [], b => by rw [ZA.wdss, ZA.strs]; rfl
  | x :: r, b => by rw [ZA.wdss, ZA.strs, Lx.flat_app, flat_wda x, flat_wdas r false, List.append_assoc]
end
theorem neu_strs (r : List Z) (l : List UInt8) (h : Lx.Neu l) : Lx.Neu (Z.strs false r ++ l) := by
  cases r with
  | nil => rw [Z.strs]; exact h
  | cons x r => rw [Z.strs]; exact Lx.neu_cons 44 _ (by decide)
theorem neu_strsA (r : List ZA) (l : List UInt8) (h : Lx.Neu l) : Lx.Neu (ZA.strs false r ++ l) := by
  cases r with
  | nil => rw [ZA.strs]; exact h
  | cons x r => rw [ZA.strs]; exact Lx.neu_cons 44 _ (by decide)
theorem isName_parts {t : List UInt8} (h : Lx.isName t = true) : Lx.isLetter (Lx.hd t) = true ∧ ∀ c ∈ t, Lx.isWord c = true := by
  unfold Lx.isName at h
  rw [Bool.and_eq_true, List.all_eq_true] at h
  exact h
theorem one_parts {t : List UInt8} {k : Nat} (h : one t k = true) (hk : k = 2 ∨ k = 3) : Lx.numAll k t ∧ t.length ≤ 4096 := by
  unfold one at h
  split at h
  · rename_i x y hx
    rw [Bool.and_eq_true, decide_eq_true_eq, decide_eq_true_eq] at h
    exact Lx.numAll_one hx h.1 h.2 hk
  · cases h
theorem st_name {g t l : List UInt8} (hg : ∀ d ∈ g, Lx.isBlank d = true) (h : Lx.isName t = true) (hl : Lx.Neu l) : Lx.StandsW ⟨g, 1, t, t⟩ l :=
  Lx.stands_name g hg (isName_parts h).1 (isName_parts h).2 hl.w
theorem stand_leaf {g l t : List UInt8} {k : Int} (hg : ∀ d ∈ g, Lx.isBlank d = true) (h : (leaf k t).1 = true) (hl : Lx.Neu l) : Lx.StandAll (leafW g k t) l := by
  unfold leaf at h
  unfold leafW
  by_cases c1 : k = 1
  · rw [if_pos c1] at h ⊢
    exact ⟨Lx.stands_sign g hg (by decide) _, st_name (by simp) h hl, trivial⟩
  rw [if_neg c1] at h ⊢
  by_cases c2 : k = 2
  · rw [if_pos c2] at h ⊢
    exact ⟨Lx.stands_num hg (one_parts h (.inl rfl)).1 hl, trivial⟩
  rw [if_neg c2] at h ⊢
  by_cases c3 : k = 3
  · rw [if_pos c3] at h ⊢
    exact ⟨Lx.stands_num hg (one_parts h (.inr rfl)).1 hl, trivial⟩
  rw [if_neg c3] at h ⊢
  by_cases c4 : k = 4
  · rw [if_pos c4] at h ⊢
    have h : Lx.valid t = true := h
    unfold quoteOf
    rw [if_pos h]
    exact ⟨Lx.stands_quote hg h hl, trivial⟩
  rw [if_neg c4] at h ⊢
  by_cases c5 : k = 5
  · rw [if_pos c5] at h ⊢
    have h : (decide (t = Rd.sTrue) || decide (t = Rd.sFalse)) = true := h
    rw [Bool.or_eq_true, decide_eq_true_eq, decide_eq_true_eq] at h
    refine ⟨?_, trivial⟩
    rcases h with rfl | rfl
    · exact st_name hg (by decide) hl
    · exact st_name hg (by decide) hl
  rw [if_neg c5] at h ⊢
  by_cases c6 : k = 6
  · rw [if_pos c6]
    exact ⟨st_name hg (by decide) hl, trivial⟩
  rw [if_neg c6] at h ⊢
  have h : (Lx.isName t && _) = true := h
  rw [Bool.and_eq_true] at h
  exact ⟨st_name hg h.1 hl, trivial⟩
theorem gp_blank (b : Bool) : ∀ d ∈ gp b, Lx.isBlank d = true := by
  cases b <;> decide
mutual
theorem stand_wds : ∀ (z : Z) (g l : List UInt8) (deep : Nat), (∀ d ∈ g, Lx.isBlank d = true) → z.good deep = true → Lx.Neu l → Lx.StandAll (Z.wds g z) l
  | .mk k t i f a, g, l, deep, hg, h, hl => by
    rw [Z.good, Bool.and_eq_true] at h
    rw [Z.wds]
    by_cases hm : many k
    · rw [if_neg (by unfold many at hm; omega), if_pos hm] at h
      simp only [Bool.and_eq_true] at h
      obtain ⟨hp, ⟨ht, hd⟩, hi, hf⟩ := h
      rw [if_pos hm]
      have hsg : (Lx.signs.contains (if k = 9 then 123 else 91) = true ∧ opn k = [if k = 9 then 123 else 91]) ∧ (Lx.signs.contains (if k = 9 then 125 else 93) = true ∧ shut k = [if k = 9 then 125 else 93]) := by
        unfold opn shut
        split <;> exact ⟨⟨by decide, rfl⟩, by decide, rfl⟩
      have hns : Lx.Neu (shut k ++ l) := by
        unfold shut
        split <;> exact Lx.neu_cons _ _ (by decide)
      refine ⟨by rw [hsg.1.2]; exact Lx.stands_sign g hg hsg.1.1 _, ?_⟩
      refine Lx.standAll_app ?_ (Lx.standAll_app ?_ ⟨by rw [hsg.2.2]; exact Lx.stands_sign [] (by simp) hsg.2.1 _, trivial⟩)
      · by_cases h9 : k = 9
        · have : i = [] := by
            unfold parts at hp
            simp [h9] at hp
            exact hp
          subst this
          rw [Z.wdss]; trivial
        · have : f = [] := by
            unfold parts at hp
            simp [h9] at hp
            exact hp.2
          subst this
          rw [ZA.wdss]
          refine stand_wdss i _ (deep + 1) true hi ?_
          simpa [Lx.flat] using hns
      · refine stand_wdas f _ (deep + 1) true hf ?_
        simpa [Lx.flat] using hns
    · rw [if_neg hm]
      by_cases h1 : 1 ≤ k ∧ k ≤ 7
      · rw [if_pos h1] at h
        exact stand_leaf hg h.2 hl
      · rw [if_neg h1, if_neg hm] at h
        cases h.2
theorem stand_wdss : ∀ (r : List Z) (l : List UInt8) (deep : Nat) (b : Bool), Z.goods deep r = true → Lx.Neu l → Lx.StandAll (Z.wdss b r) l
  | [], l, deep, b, h, hl => by rw [Z.wdss]; trivial
  | x :: r, l, deep, b, h, hl => by
    rw [Z.goods, Bool.and_eq_true] at h
    rw [Z.wdss]
    refine Lx.standAll_app (stand_wds x _ _ deep (gp_blank b) h.1 ?_) (stand_wdss r l deep false h.2 hl)
    rw [flat_wdss]
    exact neu_strs r l hl
theorem stand_wda : ∀ (z : ZA) (g l : List UInt8) (deep : Nat), (∀ d ∈ g, Lx.isBlank d = true) → z.good deep = true → Lx.Neu l → Lx.StandAll (ZA.wds g z) l
  | .mk n v a, g, l, deep, hg, h, hl => by
    rw [ZA.good, Bool.and_eq_true] at h
    rw [ZA.wds]
    refine ⟨st_name hg h.1 ?_, Lx.stands_sign [] (by simp) (by decide) _, stand_wds v [32] l deep (by decide) h.2 hl⟩
    exact Lx.neu_cons 58 _ (by decide)
theorem stand_wdas : ∀ (r : List ZA) (l : List UInt8) (deep : Nat) (b : Bool), ZA.goods deep r = true → Lx.Neu l → Lx.StandAll (ZA.wdss b r) l
  | [], l, deep, b, h, hl => by rw [ZA.wdss]; trivial
  | x :: r, l, deep, b, h, hl => by
    rw [ZA.goods, Bool.and_eq_true] at h
    rw [ZA.wdss]
    refine Lx.standAll_app (stand_wda x _ _ deep (gp_blank b) h.1 ?_) (stand_wdas r l deep false h.2 hl)
    rw [flat_wdas]
    exact neu_strsA r l hl
end
end Vl
end Go.Proofs.YtefjgpkpplkkgaaGreatDoor
namespace Go.Proofs.YtefjgpkpplkkgaaGreatDoor
set_option linter.unusedSimpArgs false
set_option linter.unusedVariables false
namespace Vl
theorem gp_le (b : Bool) : (gp b).length ≤ 2 := by cases b <;> decide
mutual
theorem str_le : ∀ z : Z, z.str.length ≤ z.cost
  | .mk k t i f a => by
    have h1 := strs_le true i
    have h2 := strsA_le true f
    have h3 := opn_le k
    have h4 := shut_le k
    have h5 := leaf_le k t
    rw [Z.str, Z.cost]
    split
    · simp only [List.length_append]; omega
    · omega
theorem strs_le : ∀ (b : Bool) (l : List Z), (Z.strs b l).length ≤ Z.costs l
  | _, [] => by rw [Z.strs]; exact Nat.zero_le _
  | b, x :: r => by
    have h1 := str_le x
    have h2 := strs_le false r
    have h3 := gp_le b
    rw [Z.strs, Z.costs]
    simp only [List.length_append]; omega
theorem strA_le : ∀ z : ZA, z.str.length ≤ z.cost
  | .mk n v a => by
    have h1 := str_le v
    rw [ZA.str, ZA.cost]
    simp only [List.length_append, List.length_cons, List.length_nil]; omega
theorem strsA_le : ∀ (b : Bool) (l : List ZA), (ZA.strs b l).length ≤ ZA.costs l
  | _, [] => by rw [ZA.strs]; exact Nat.zero_le _
  | b, x :: r => by
    have h1 := strA_le x
    have h2 := strsA_le false r
    have h3 := gp_le b
    rw [ZA.strs, ZA.costs]
    simp only [List.length_append]; omega
end
theorem strs_snoc : ∀ (b : Bool) (l : List Z) (x : Z), Z.strs b (l ++ [x]) = Z.strs b l ++ (gp (b && l.isEmpty) ++ x.str)
  | b, [], x => by rw [List.nil_append, Z.strs, Z.strs, Z.strs]; simp
  | b, y :: r, x => by
    rw [List.cons_append, Z.strs, Z.strs, strs_snoc false r x]
    simp
theorem strsA_snoc : ∀ (b : Bool) (l : List ZA) (x : ZA), ZA.strs b (l ++ [x]) = ZA.strs b l ++ (gp (b && l.isEmpty) ++ x.str)
  | b, [], x => by rw [List.nil_append, ZA.strs, ZA.strs, ZA.strs]; simp
  | b, y :: r, x => by
    rw [List.cons_append, ZA.strs, ZA.strs, strsA_snoc false r x]
    simp
theorem costs_take : ∀ (l : List Z) (j : Nat), Z.costs (l.take j) ≤ Z.costs l
  | [], j => by rw [List.take_nil]; exact Nat.le_refl _
  | x :: r, 0 => by rw [List.take_zero, Z.costs]; exact Nat.zero_le _
  | x :: r, j + 1 => by
    have := costs_take r j
    rw [List.take_succ_cons, Z.costs, Z.costs]; omega
theorem costsA_take : ∀ (l : List ZA) (j : Nat), ZA.costs (l.take j) ≤ ZA.costs l
  | [], j => by rw [List.take_nil]; exact Nat.le_refl _
  | x :: r, 0 => by rw [List.take_zero, ZA.costs]; exact Nat.zero_le _
  | x :: r, j + 1 => by
    have := costsA_take r j
    rw [List.take_succ_cons, ZA.costs, ZA.costs]; omega
theorem costs_in : ∀ {l : List Z} {x : Z}, x ∈ l → 2 + x.cost ≤ Z.costs l
  | y :: r, x, h => by
    rw [Z.costs]
    rcases List.mem_cons.1 h with rfl | h
    · omega
    · have := costs_in h; omega
theorem costsA_in : ∀ {l : List ZA} {x : ZA}, x ∈ l → 2 + x.cost ≤ ZA.costs l
  | y :: r, x, h => by
    rw [ZA.costs]
    rcases List.mem_cons.1 h with rfl | h
    · omega
    · have := costsA_in h; omega
theorem goods_mem {deep : Nat} : ∀ {l : List Z} {x : Z}, Z.goods deep l = true → x ∈ l → x.good deep = true
  | y :: r, x, h, hx => by
    rw [Z.goods, Bool.and_eq_true] at h
    rcases List.mem_cons.1 hx with rfl | hx
    · exact h.1
    · exact goods_mem h.2 hx
theorem goodsA_mem {deep : Nat} : ∀ {l : List ZA} {x : ZA}, ZA.goods deep l = true → x ∈ l → x.good deep = true
  | y :: r, x, h, hx => by
    rw [ZA.goods, Bool.and_eq_true] at h
    rcases List.mem_cons.1 hx with rfl | hx
    · exact h.1
    · exact goodsA_mem h.2 hx
/-- The text behind one more item. -/
theorem strs_more {l : List Z} {j : Nat} {x : Z} (h : l[j]? = some x) : Z.strs true (l.take (j + 1)) = Z.strs true (l.take j) ++ (gp (decide (j = 0)) ++ x.str) := by
  obtain ⟨hj, rfl⟩ := List.getElem?_eq_some_iff.1 h
  rw [List.take_succ_eq_append_getElem hj, strs_snoc, Bool.true_and]
  congr 2
  cases j with
  | zero => rfl
  | succ j => cases l with
    | nil => simp at hj
    | cons y r => simp
theorem strsA_more {l : List ZA} {j : Nat} {x : ZA} (h : l[j]? = some x) : ZA.strs true (l.take (j + 1)) = ZA.strs true (l.take j) ++ (gp (decide (j = 0)) ++ x.str) := by
  obtain ⟨hj, rfl⟩ := List.getElem?_eq_some_iff.1 h
  rw [List.take_succ_eq_append_getElem hj, strsA_snoc, Bool.true_and]
  congr 2
  cases j with
  | zero => rfl
  | succ j => cases l with
    | nil => simp at hj
    | cons y r => simp
end Vl
end Go.Proofs.YtefjgpkpplkkgaaGreatDoor
namespace Go.Proofs.YtefjgpkpplkkgaaGreatDoor
theorem app_list (a b : ByteArray) : (a ++ b).data.toList = a.data.toList ++ b.data.toList := by simp
theorem size_list (a : ByteArray) : a.size = a.data.toList.length := by simp
end Go.Proofs.YtefjgpkpplkkgaaGreatDoor
namespace Go.Proofs.YtefjgpkpplkkgaaGreatDoor
set_option linter.unusedSimpArgs false
set_option linter.unusedVariables false
namespace Vl
def kts (ws : List Lx.Wd) : List (Nat × List UInt8) := ws.map fun w => (w.k, w.T)
theorem kts_app (a b : List Lx.Wd) : kts (a ++ b) = kts a ++ kts b := List.map_append
theorem toksAt_kt : ∀ (ws : List Lx.Wd) (p : Nat), (Lx.toksAt p ws).map Rd.ktx = kts ws
  | [], p => rfl
  | x :: r, p => by
    rw [Lx.toksAt, List.map_cons, toksAt_kt r]
    rfl
-- No variable in it.
mutual
def Z.nov : Z → Bool
  | .mk k _ i f _ => decide (k ≠ 1) && (Z.novs i && ZA.novs f)
def Z.novs : List Z → Bool
  | [] => true
  | x :: r => Z.nov x && Z.novs r
def ZA.nov : ZA → Bool
  | .mk _ v _ => Z.nov v
def ZA.novs : List ZA → Bool
  | [] => true
  | x :: r => ZA.nov x && ZA.novs r
end
/-- These tokens come, but for places. -/
structure At (s : Rd.St) (ks : List (Nat × List UInt8)) (rest : List Lx.Tok) : Prop where
  err : s.err = 0
  is : ∃ a, s.rest = a ++ rest ∧ a.map Rd.ktx = ks
section
variable {s : Rd.St} {k : Nat} {T : List UInt8} {ks : List (Nat × List UInt8)} {rest : List Lx.Tok}
theorem At.peek (h : At s ((k, T) :: ks) rest) : (Rd.peek s).kind = k ∧ (Rd.peek s).text = T := by
  obtain ⟨a, h1, h2⟩ := h.is
  cases a with
  | nil => cases h2
  | cons x a =>
    simp only [List.map_cons, List.cons.injEq, Rd.ktx, Prod.mk.injEq] at h2
    unfold Rd.peek
    rw [h1]
    exact h2.1
theorem At.next (h : At s ((k, T) :: ks) rest) (hk : k ≠ 0) : At (Rd.next s) ks rest := by
  have hp := h.peek
  obtain ⟨a, h1, h2⟩ := h.is
  have hn : Rd.next s = { s with rest := s.rest.drop 1 } := by unfold Rd.next; rw [if_pos ⟨h.err, by rw [hp.1]; exact hk⟩]
  rw [hn]
  cases a with
  | nil => cases h2
  | cons x a =>
    simp only [List.map_cons, List.cons.injEq] at h2
    exact ⟨h.err, a, by show s.rest.drop 1 = _; rw [h1]; rfl, h2.2⟩
theorem At.isS (h : At s ((k, T) :: ks) rest) (c : List UInt8) : Rd.isS s c = (decide (k = 5) && decide (T = c)) := by
  unfold Rd.isS
  rw [h.err, h.peek.1, h.peek.2]
  simp
theorem At.isN (h : At s ((k, T) :: ks) rest) : Rd.isN s = decide (k = 1) := by
  unfold Rd.isN
  rw [h.err, h.peek.1]
  simp
theorem At.isW (h : At s ((k, T) :: ks) rest) (ws : List (List UInt8)) : Rd.isW s ws = (decide (k = 1) && (ws.any (fun w => decide (T = w)) || ws.isEmpty)) := by
  unfold Rd.isW
  rw [h.isN, h.peek.2]
theorem At.setDeep (h : At s ks rest) (d : Int) : At { s with deep := d } ks rest := ⟨h.err, h.is⟩
theorem At.down (h : At s ((5, T) :: ks) rest) (hd : s.deep ≠ 16) : At (Rd.down T s) ks rest := by
  unfold Rd.down Rd.want
  dsimp only
  have e : (if Rd.isS s T = true ∧ s.deep = 16 then Rd.fail 42 s else s) = s := if_neg (fun e => hd e.2)
  rw [e, if_pos (by rw [h.isS]; simp)]
  exact (h.next (by decide)).setDeep _
theorem At.up (h : At s ((5, T) :: ks) rest) : At (Rd.up T s) ks rest := by
  unfold Rd.up Rd.want
  dsimp only
  rw [if_pos (by rw [h.isS]; simp)]
  exact (h.next (by decide)).setDeep _
theorem At.name (h : At s ((1, T) :: ks) rest) : At (Rd.name s).1 ks rest ∧ (Rd.name s).2 = T := by
  unfold Rd.name
  rw [if_pos (by rw [h.isN]; rfl)]
  exact ⟨h.next (by decide), h.peek.2⟩
theorem At.want (h : At s ((5, T) :: ks) rest) : At (Rd.want T s) ks rest := by
  unfold Rd.want
  rw [if_pos (by rw [h.isS]; simp)]
  exact h.next (by decide)
end
theorem ks_shut (k : Int) (g : List UInt8) (i : List Z) (f : List ZA) : kts (⟨g, 5, opn k, opn k⟩ :: (Z.wdss true i ++ (ZA.wdss true f ++ [⟨[], 5, shut k, shut k⟩]))) = (5, opn k) :: (kts (Z.wdss true i) ++ (kts (ZA.wdss true f) ++ [(5, shut k)])) := by
  show (5, opn k) :: kts _ = _
  rw [kts_app, kts_app]; rfl
/-- The first of a value's words shuts nothing. -/
theorem wds_first {z : Z} {deep : Nat} (h : z.good deep = true) (g : List UInt8) : ∃ k T r, kts (Z.wds g z) = (k, T) :: r ∧ (k = 5 → T ≠ [93] ∧ T ≠ [125]) ∧ k ≠ 0 := by
  cases z with
  | mk k t i f a =>
  rw [Z.wds]
  split
  · refine ⟨5, opn k, _, ks_shut k g i f, fun _ => ?_, by decide⟩
    unfold opn
    split <;> decide
  · unfold leafW
    split
    · exact ⟨5, [36], _, rfl, fun _ => by decide, by decide⟩
    split
    · exact ⟨2, t, _, rfl, fun e => (by cases e), by decide⟩
    split
    · exact ⟨3, t, _, rfl, fun e => (by cases e), by decide⟩
    split
    · exact ⟨4, t, _, rfl, fun e => (by cases e), by decide⟩
    split
    · exact ⟨1, t, _, rfl, fun e => (by cases e), by decide⟩
    split
    · exact ⟨1, Rd.sNull, _, rfl, fun e => (by cases e), by decide⟩
    · exact ⟨1, t, _, rfl, fun e => (by cases e), by decide⟩
theorem parts_leaf {k : Int} {i : List Z} {f : List ZA} (h : parts k i.length f.length = true) (hk : ¬ many k) : i = [] ∧ f = [] := by
  unfold many at hk
  unfold parts at h
  simp only [Bool.and_eq_true, Bool.or_eq_true, decide_eq_true_eq] at h
  exact ⟨List.eq_nil_of_length_eq_zero (by omega), List.eq_nil_of_length_eq_zero (by omega)⟩
theorem same_leaf (k : Nat) (t : List UInt8) (p : Nat) (a : Int) : (ofV (.mk k t [] [] p)).same (.mk k t [] [] a) = true := by
  rw [ofV, Z.same, ofVs, ofAs, Z.sames, ZA.sames]; simp
theorem value_leaf {fixed : Bool} {k : Int} {t g : List UInt8} {a : Int} {n : Nat} {s : Rd.St} {ks : List (Nat × List UInt8)} {rest : List Lx.Tok} (h17 : 1 ≤ k ∧ k ≤ 7) (hg : (leaf k t).1 = true) (hv : fixed = true → k ≠ 1)
    (h : At s (kts (leafW g k t) ++ ks) rest) : At (Rd.value fixed (n + 1) s).1 ks rest ∧ (ofV (Rd.value fixed (n + 1) s).2).same (.mk k t [] [] a) = true := by
  have hk : k = 1 ∨ k = 2 ∨ k = 3 ∨ k = 4 ∨ k = 5 ∨ k = 6 ∨ k = 7 := by omega
  unfold Rd.value
  dsimp only
  rcases hk with rfl | rfl | rfl | rfl | rfl | rfl | rfl
  · have h : At s ((5, [36]) :: (1, t) :: ks) rest := h
    rw [if_pos (by rw [h.isS]; rfl)]
    cases fixed with
    | true => exact absurd rfl (hv rfl)
    | false =>
      simp only [Bool.false_eq_true, if_false]
      have h2 := (h.next (by decide)).name
      refine ⟨h2.1, ?_⟩
      rw [h2.2]
      exact same_leaf 1 t _ a
  · have h : At s ((2, t) :: ks) rest := h
    rw [if_neg (by rw [h.isS]; simp), if_neg (by rw [h.isS]; simp), if_neg (by rw [h.isS]; simp), if_pos h.peek.1]
    refine ⟨h.next (by decide), ?_⟩
    rw [h.peek.2]
    exact same_leaf 2 t _ a
  · have h : At s ((3, t) :: ks) rest := h
    rw [if_neg (by rw [h.isS]; simp), if_neg (by rw [h.isS]; simp), if_neg (by rw [h.isS]; simp), if_neg (by rw [h.peek.1]; decide), if_pos h.peek.1]
    refine ⟨h.next (by decide), ?_⟩
    rw [h.peek.2]
    exact same_leaf 3 t _ a
  · have h : At s ((4, t) :: ks) rest := h
    rw [if_neg (by rw [h.isS]; simp), if_neg (by rw [h.isS]; simp), if_neg (by rw [h.isS]; simp), if_neg (by rw [h.peek.1]; decide), if_neg (by rw [h.peek.1]; decide), if_pos h.peek.1]
    refine ⟨h.next (by decide), ?_⟩
    rw [h.peek.2]
    exact same_leaf 4 t _ a
  · have h : At s ((1, t) :: ks) rest := h
    have hg : (decide (t = Rd.sTrue) || decide (t = Rd.sFalse)) = true := hg
    have hn : t ≠ Rd.sNull := by
      rw [Bool.or_eq_true, decide_eq_true_eq, decide_eq_true_eq] at hg
      rcases hg with rfl | rfl <;> decide
    rw [if_neg (by rw [h.isS]; simp), if_neg (by rw [h.isS]; simp), if_neg (by rw [h.isS]; simp), if_neg (by rw [h.peek.1]; decide), if_neg (by rw [h.peek.1]; decide), if_neg (by rw [h.peek.1]; decide), if_neg (by rw [h.isW]; simp [hn]), if_pos (by rw [h.isW]; simpa using hg)]
    refine ⟨h.next (by decide), ?_⟩
    rw [h.peek.2]
    exact same_leaf 5 t _ a
  · have h : At s ((1, Rd.sNull) :: ks) rest := h
    have hg : decide (t = []) = true := hg
    rw [decide_eq_true_eq] at hg
    subst hg
    rw [if_neg (by rw [h.isS]; simp), if_neg (by rw [h.isS]; simp), if_neg (by rw [h.isS]; simp), if_neg (by rw [h.peek.1]; simp), if_neg (by rw [h.peek.1]; simp), if_neg (by rw [h.peek.1]; simp), if_pos (by rw [h.isW]; simp)]
    exact ⟨h.next (by simp), same_leaf 6 [] _ a⟩
  · have h : At s ((1, t) :: ks) rest := h
    have hg : (Lx.isName t && (decide (t ≠ Rd.sTrue) && (decide (t ≠ Rd.sFalse) && decide (t ≠ Rd.sNull)))) = true := hg
    simp only [Bool.and_eq_true, decide_eq_true_eq] at hg
    rw [if_neg (by rw [h.isS]; simp), if_neg (by rw [h.isS]; simp), if_neg (by rw [h.isS]; simp), if_neg (by rw [h.peek.1]; decide), if_neg (by rw [h.peek.1]; decide), if_neg (by rw [h.peek.1]; decide), if_neg (by rw [h.isW]; simp [hg.2.2.2]), if_neg (by rw [h.isW]; simp [hg.2.1, hg.2.2.1]), if_pos (by rw [h.isN]; rfl)]
    refine ⟨h.next (by decide), ?_⟩
    rw [h.peek.2]
    exact same_leaf 7 t _ a
theorem down_deep (c : List UInt8) (s : Rd.St) : (Rd.down c s).deep = s.deep + 1 := Rd.down_deep c s
theorem At.len {s : Rd.St} {ks : List (Nat × List UInt8)} {rest : List Lx.Tok} (h : At s ks rest) : ks.length ≤ s.rest.length := by
  obtain ⟨a, h1, h2⟩ := h.is
  rw [h1, ← h2, List.length_map, List.length_append]; omega
mutual
theorem value_at : ∀ (z : Z) (deep : Nat) (g : List UInt8) (fixed : Bool) (n : Nat) (s : Rd.St) (ks : List (Nat × List UInt8)) (rest : List Lx.Tok), z.good deep = true → (fixed = true → z.nov = true) → At s (kts (Z.wds g z) ++ ks) rest → s.deep = deep → (kts (Z.wds g z)).length < n →
    At (Rd.value fixed n s).1 ks rest ∧ (ofV (Rd.value fixed n s).2).same z = true
  | z, deep, g, fixed, 0, s, ks, rest, h, hv, hat, hd, hn => by omega
  | .mk k t i f a, deep, g, fixed, n + 1, s, ks, rest, h, hv, hat, hd, hn => by
    rw [Z.good, Bool.and_eq_true] at h
    have hv' : fixed = true → k ≠ 1 ∧ Z.novs i = true ∧ ZA.novs f = true := fun e => by
      have := hv e
      rw [Z.nov] at this
      simpa using this
    by_cases hm : many k
    · rw [if_neg (by unfold many at hm; omega), if_pos hm] at h
      simp only [Bool.and_eq_true, decide_eq_true_eq] at h
      obtain ⟨hp, ⟨rfl, hd16⟩, hi, hf⟩ := h
      rw [Z.wds, if_pos hm, ks_shut] at hat hn
      have hat : At s ((5, opn k) :: ((kts (Z.wdss true i) ++ (kts (ZA.wdss true f) ++ [(5, shut k)])) ++ ks)) rest := hat
      simp only [List.length_cons, List.length_append, List.length_nil] at hn
      unfold Rd.value
      dsimp only
      rw [if_neg (by rw [hat.isS]; unfold opn; split <;> decide)]
      have hp' := hp
      unfold parts at hp
      unfold many at hm
      simp only [Bool.and_eq_true, Bool.or_eq_true, decide_eq_true_eq] at hp
      rcases hm with rfl | rfl
      · obtain rfl : f = [] := List.eq_nil_of_length_eq_zero (by omega)
        rw [ZA.wdss] at hat
        have hat : At s ((5, Rd.lbrk) :: (kts (Z.wdss true i) ++ ((5, Rd.rbrk) :: ks))) rest := by
          have e : (kts (Z.wdss true i) ++ (kts [] ++ [(5, shut 8)])) ++ ks = kts (Z.wdss true i) ++ ((5, Rd.rbrk) :: ks) := by simp [kts, shut, Rd.rbrk]
          rw [e] at hat; exact hat
        rw [if_pos (by rw [hat.isS]; rfl)]
        have h1 := hat.down (by omega)
        have hl := h1.len
        rw [List.length_append] at hl
        obtain ⟨h2, vs, e2, h3⟩ := loop_at i (deep + 1) true fixed n _ Rd.rbrk ks rest [] hi (fun e => (hv' e).2.1) h1 (by rw [down_deep]; omega) (by omega) (by decide) ((Rd.down Rd.lbrk s).rest.length + 1) (by omega)
        refine ⟨h2.up, ?_⟩
        show (ofV (.mk 8 [] _ [] _)).same _ = true
        rw [e2, List.nil_append, ofV, Z.same, h3, ofAs, ZA.sames]
        simp
      · obtain rfl : i = [] := List.eq_nil_of_length_eq_zero (by omega)
        rw [Z.wdss] at hat
        have hat : At s ((5, Rd.lbrc) :: (kts (ZA.wdss true f) ++ ((5, Rd.rbrc) :: ks))) rest := by
          have e : (kts [] ++ (kts (ZA.wdss true f) ++ [(5, shut 9)])) ++ ks = kts (ZA.wdss true f) ++ ((5, Rd.rbrc) :: ks) := by simp [kts, shut, Rd.rbrc]
          rw [e] at hat; exact hat
        rw [if_neg (by rw [hat.isS]; decide), if_pos (by rw [hat.isS]; rfl)]
        have h1 := hat.down (by omega)
        have hl := h1.len
        rw [List.length_append] at hl
        obtain ⟨h2, vs, e2, h3⟩ := loopA_at f (deep + 1) true fixed n _ Rd.rbrc ks rest [] hf (fun e => (hv' e).2.2) h1 (by rw [down_deep]; omega) (by omega) (by decide) ((Rd.down Rd.lbrc s).rest.length + 1) (by omega)
        refine ⟨h2.up, ?_⟩
        show (ofV (.mk 9 [] [] _ _)).same _ = true
        rw [e2, List.nil_append, ofV, Z.same, h3, ofVs, Z.sames]
        simp
    · rw [if_neg hm] at h
      obtain ⟨rfl, rfl⟩ := parts_leaf h.1 hm
      by_cases h17 : 1 ≤ k ∧ k ≤ 7
      · rw [if_pos h17] at h
        rw [Z.wds, if_neg hm] at hat
        exact value_leaf h17 h.2 (fun e => (hv' e).1) hat
      · rw [if_neg h17] at h
        cases h.2
theorem loop_at : ∀ (r : List Z) (deep : Nat) (b : Bool) (fixed : Bool) (n : Nat) (s : Rd.St) (c : List UInt8) (ks : List (Nat × List UInt8)) (rest : List Lx.Tok) (out : List Rd.V), Z.goods deep r = true → (fixed = true → Z.novs r = true) → At s (kts (Z.wdss b r) ++ (5, c) :: ks) rest → s.deep = deep → (kts (Z.wdss b r)).length < n → (c = [93] ∨ c = [125]) →
    ∀ m, (kts (Z.wdss b r)).length < m → At (Rd.loop c (Rd.value fixed n) m s out).1 ((5, c) :: ks) rest ∧ ∃ vs, (Rd.loop c (Rd.value fixed n) m s out).2 = out ++ vs ∧ Z.sames (ofVs vs) r = true
  | _, _, _, _, _, _, _, _, _, _, _, _, _, _, _, _, 0, h => by omega
  | [], deep, b, fixed, n, s, c, ks, rest, out, hg, hv, hat, hd, hn, hc, m + 1, hm => by
    rw [Z.wdss] at hat
    have hat : At s ((5, c) :: ks) rest := hat
    unfold Rd.loop
    rw [if_neg (fun e => by rw [hat.isS] at e; simp at e)]
    exact ⟨hat, [], by simp, by rw [ofVs, Z.sames]⟩
  | x :: r, deep, b, fixed, n, s, c, ks, rest, out, hg, hv, hat, hd, hn, hc, m + 1, hm => by
    rw [Z.goods, Bool.and_eq_true] at hg
    have hv' : (fixed = true → x.nov = true) ∧ (fixed = true → Z.novs r = true) := by
      constructor
      · intro e; have := hv e; rw [Z.novs, Bool.and_eq_true] at this; exact this.1
      · intro e; have := hv e; rw [Z.novs, Bool.and_eq_true] at this; exact this.2
    rw [Z.wdss, kts_app] at hn hm
    rw [Z.wdss, kts_app, List.append_assoc] at hat
    rw [List.length_append] at hn hm
    obtain ⟨k1, T1, r1, e1, h5, h0⟩ := wds_first hg.1 (gp b)
    have hl1 : 1 ≤ (kts (Z.wds (gp b) x)).length := by rw [e1]; simp
    have hat2 := hat
    rw [e1] at hat2
    have hat2 : At s ((k1, T1) :: (r1 ++ (kts (Z.wdss false r) ++ (5, c) :: ks))) rest := hat2
    have hs : Rd.isS s c = false := by
      rw [hat2.isS]
      by_cases hk : k1 = 5
      · have := h5 hk
        rcases hc with rfl | rfl
        · simp [hk, this.1]
        · simp [hk, this.2]
      · simp [hk]
    unfold Rd.loop
    rw [if_pos ⟨hat.err, hs⟩]
    obtain ⟨h2, h3⟩ := value_at x deep (gp b) fixed n s _ rest hg.1 hv'.1 hat hd (by omega)
    obtain ⟨h4, vs, e4, h6⟩ := loop_at r deep false fixed n _ c ks rest (out ++ [(Rd.value fixed n s).2]) hg.2 hv'.2 h2 (by rw [Rd.value_deep]; exact hd) (by omega) hc m (by omega)
    exact ⟨h4, (Rd.value fixed n s).2 :: vs, by rw [e4]; simp, by rw [ofVs, Z.sames, h3, h6]; rfl⟩
theorem argOf_at : ∀ (z : ZA) (deep : Nat) (g : List UInt8) (fixed : Bool) (n : Nat) (s : Rd.St) (ks : List (Nat × List UInt8)) (rest : List Lx.Tok), z.good deep = true → (fixed = true → z.nov = true) → At s (kts (ZA.wds g z) ++ ks) rest → s.deep = deep → (kts (ZA.wds g z)).length < n →
    At (Rd.argOf (Rd.value fixed n) s).1 ks rest ∧ (ofA (Rd.argOf (Rd.value fixed n) s).2).same z = true
  | .mk nm v a, deep, g, fixed, n, s, ks, rest, h, hv, hat, hd, hn => by
    rw [ZA.good, Bool.and_eq_true] at h
    rw [ZA.wds] at hat hn
    have hat : At s ((1, nm) :: (5, [58]) :: (kts (Z.wds [32] v) ++ ks)) rest := hat
    have hn : (kts (Z.wds [32] v)).length + 1 + 1 < n := hn
    have h1 := hat.name
    have h2 : At (Rd.want Rd.colon (Rd.name s).1) (kts (Z.wds [32] v) ++ ks) rest := h1.1.want
    obtain ⟨h3, h4⟩ := value_at v deep [32] fixed n _ ks rest h.2 (fun e => by have := hv e; rw [ZA.nov] at this; exact this) h2 (by rw [Rd.want_deep, Rd.name_deep]; exact hd) (by omega)
    refine ⟨h3, ?_⟩
    show (ofA (.mk (Rd.name s).2 _ _)).same _ = true
    rw [ofA, ZA.same, h1.2, h4]
    simp
theorem loopA_at : ∀ (r : List ZA) (deep : Nat) (b : Bool) (fixed : Bool) (n : Nat) (s : Rd.St) (c : List UInt8) (ks : List (Nat × List UInt8)) (rest : List Lx.Tok) (out : List Rd.A), ZA.goods deep r = true → (fixed = true → ZA.novs r = true) → At s (kts (ZA.wdss b r) ++ (5, c) :: ks) rest → s.deep = deep → (kts (ZA.wdss b r)).length < n → (c = [93] ∨ c = [125]) →
    ∀ m, (kts (ZA.wdss b r)).length < m → At (Rd.loop c (Rd.argOf (Rd.value fixed n)) m s out).1 ((5, c) :: ks) rest ∧ ∃ vs, (Rd.loop c (Rd.argOf (Rd.value fixed n)) m s out).2 = out ++ vs ∧ ZA.sames (ofAs vs) r = true
  | _, _, _, _, _, _, _, _, _, _, _, _, _, _, _, _, 0, h => by omega
  | [], deep, b, fixed, n, s, c, ks, rest, out, hg, hv, hat, hd, hn, hc, m + 1, hm => by
    rw [ZA.wdss] at hat
    have hat : At s ((5, c) :: ks) rest := hat
    unfold Rd.loop
    rw [if_neg (fun e => by rw [hat.isS] at e; simp at e)]
    exact ⟨hat, [], by simp, by rw [ofAs, ZA.sames]⟩
  | x :: r, deep, b, fixed, n, s, c, ks, rest, out, hg, hv, hat, hd, hn, hc, m + 1, hm => by
    rw [ZA.goods, Bool.and_eq_true] at hg
    have hv' : (fixed = true → x.nov = true) ∧ (fixed = true → ZA.novs r = true) := by
      constructor
      · intro e; have := hv e; rw [ZA.novs, Bool.and_eq_true] at this; exact this.1
      · intro e; have := hv e; rw [ZA.novs, Bool.and_eq_true] at this; exact this.2
    rw [ZA.wdss, kts_app] at hn hm
    rw [ZA.wdss, kts_app, List.append_assoc] at hat
    rw [List.length_append] at hn hm
    have hl1 : 1 ≤ (kts (ZA.wds (gp b) x)).length := by cases x; rw [ZA.wds]; simp [kts]
    have hs : Rd.isS s c = false := by
      cases x with
      | mk nm v a =>
        have hat2 : At s ((1, nm) :: ((5, [58]) :: (kts (Z.wds [32] v)) ++ (kts (ZA.wdss false r) ++ (5, c) :: ks))) rest := by rw [ZA.wds] at hat; exact hat
        rw [hat2.isS]; simp
    unfold Rd.loop
    rw [if_pos ⟨hat.err, hs⟩]
    obtain ⟨h2, h3⟩ := argOf_at x deep (gp b) fixed n s _ rest hg.1 hv'.1 hat hd (by omega)
    obtain ⟨h4, vs, e4, h6⟩ := loopA_at r deep false fixed n _ c ks rest (out ++ [(Rd.argOf (Rd.value fixed n) s).2]) hg.2 hv'.2 h2 (by rw [Rd.argOf_deep _ (Rd.value_deep fixed n)]; exact hd) (by omega) hc m (by omega)
    exact ⟨h4, (Rd.argOf (Rd.value fixed n) s).2 :: vs, by rw [e4]; simp, by rw [ofAs, ZA.sames, h3, h6]; rfl⟩
end
end Vl
end Go.Proofs.YtefjgpkpplkkgaaGreatDoor
namespace Go.Proofs.YtefjgpkpplkkgaaGreatDoor
set_option linter.unusedSimpArgs false
set_option linter.unusedVariables false
namespace Vl
theorem next_reads {s : Rd.St} (h0 : s.err = 0) (hk : (Rd.peek s).kind ≠ 0) : s.rest = Rd.peek s :: (Rd.next s).rest := by
  obtain ⟨r, e1, e2⟩ := Rd.peek_head (s := s) hk
  unfold Rd.next
  rw [if_pos ⟨h0, hk⟩]
  show s.rest = Rd.peek s :: s.rest.drop 1
  rw [e2]; exact e1
/-- What is known of a value that was read. -/
def QV (fixed : Bool) (d : Nat) (pre : List Lx.Tok) (v : Rd.V) : Prop := (∀ g, pre.map Rd.ktx = kts (Z.wds g (ofV v))) ∧ (ofV v).good d = true ∧ (fixed = true → (ofV v).nov = true)
theorem leaf_reads {fixed : Bool} {d : Nat} {s : Rd.St} (k : Nat) (t : List UInt8) (a : Nat) (h0 : s.err = 0) (hk : (Rd.peek s).kind ≠ 0) (hw : ∀ g, [Rd.ktx (Rd.peek s)] = kts (leafW g k t)) (h17 : 2 ≤ (k : Int) ∧ (k : Int) ≤ 7) (hg : (leaf k t).1 = true) :
    ∃ pre, s.rest = pre ++ (Rd.next s).rest ∧ QV fixed d pre (.mk k t [] [] a) := by
  have hm : ¬ many (k : Int) := by unfold many; omega
  refine ⟨[Rd.peek s], next_reads h0 hk, fun g => ?_, ?_, fun e => ?_⟩
  · rw [ofV, Z.wds, if_neg hm]
    exact hw g
  · rw [ofV, ofVs, ofAs, Z.good, if_pos (by omega), hg]
    unfold parts
    simp
  · rw [ofV, ofVs, ofAs, Z.nov, Z.novs, ZA.novs]
    simp
    omega
-- The same, turned.
mutual
theorem same_cost : ∀ (x y : Z), x.same y = true → x.cost = y.cost ∧ x.n = y.n
  | .mk k t i f a, .mk k' t' i' f' a', h => by
    rw [Z.same] at h
    simp only [Bool.and_eq_true, decide_eq_true_eq] at h
    obtain ⟨rfl, rfl, h3, h4⟩ := h
    have e1 := sames_cost i i' h3
    have e2 := samesA_cost f f' h4
    rw [Z.cost, Z.cost, Z.n, Z.n, e1.1, e1.2, e2.1, e2.2]
    exact ⟨rfl, rfl⟩
theorem sames_cost : ∀ (l m : List Z), Z.sames l m = true → Z.costs l = Z.costs m ∧ Z.ns l = Z.ns m
  | [], [], _ => ⟨rfl, rfl⟩
  | x :: r, y :: s, h => by
    rw [Z.sames_cons, Bool.and_eq_true] at h
    have e1 := same_cost x y h.1
    have e2 := sames_cost r s h.2
    rw [Z.costs, Z.costs, Z.ns, Z.ns, e1.1, e1.2, e2.1, e2.2]
    exact ⟨rfl, rfl⟩
  | [], _ :: _, h => by rw [Z.sames] at h; cases h
  | _ :: _, [], h => by rw [Z.sames] at h; cases h
theorem sameA_cost : ∀ (x y : ZA), x.same y = true → x.cost = y.cost ∧ x.n = y.n
  | .mk n v a, .mk n' v' a', h => by
    rw [ZA.same] at h
    simp only [Bool.and_eq_true, decide_eq_true_eq] at h
    obtain ⟨rfl, h2⟩ := h
    have e1 := same_cost v v' h2
    rw [ZA.cost, ZA.cost, ZA.n, ZA.n, e1.1, e1.2]
    exact ⟨rfl, rfl⟩
theorem samesA_cost : ∀ (l m : List ZA), ZA.sames l m = true → ZA.costs l = ZA.costs m ∧ ZA.ns l = ZA.ns m
  | [], [], _ => ⟨rfl, rfl⟩
  | x :: r, y :: s, h => by
    rw [ZA.sames_cons, Bool.and_eq_true] at h
    have e1 := sameA_cost x y h.1
    have e2 := samesA_cost r s h.2
    rw [ZA.costs, ZA.costs, ZA.ns, ZA.ns, e1.1, e1.2, e2.1, e2.2]
    exact ⟨rfl, rfl⟩
  | [], _ :: _, h => by rw [ZA.sames] at h; cases h
  | _ :: _, [], h => by rw [ZA.sames] at h; cases h
end
/-- A good value's text is parsed to it. -/
theorem parse_str {z : Z} {fixed : Bool} (h : z.good 0 = true) (hv : fixed = true → z.nov = true) (hl : z.str.length ≤ 4096) (hk : (kts (Z.wds [] z)).length ≤ 1500) : (parse z.str fixed).1.err = 0 ∧ (ofV (parse z.str fixed).2).same z = true := by
  have hf := flat_wds z []
  rw [List.nil_append] at hf
  have hx := Lx.words_lex (t := []) (stand_wds z [] [] 0 (by simp) h Lx.neu_nil) (by simp) (by simpa [kts] using hk) (by rw [List.append_nil, hf]; exact hl)
  rw [List.append_nil, hf] at hx
  have hb : Rd.begin_ z.str = ⟨Lx.toksAt 0 (Z.wds [] z) ++ [⟨0, [], z.str.length⟩], 0, 0, 0⟩ := by
    unfold Rd.begin_
    rw [hx]
  have hat : At (Rd.begin_ z.str) (kts (Z.wds [] z) ++ []) [⟨0, [], z.str.length⟩] := by
    rw [hb, List.append_nil]
    exact ⟨rfl, _, rfl, toksAt_kt _ _⟩
  have hln := hat.len
  rw [List.append_nil] at hln
  obtain ⟨h1, h2⟩ := value_at z 0 [] fixed ((Rd.begin_ z.str).rest.length + 1) _ [] _ h hv hat (by rw [hb]; rfl) (by omega)
  unfold parse
  dsimp only
  refine ⟨?_, h2⟩
  obtain ⟨a, e1, e2⟩ := h1.is
  obtain rfl : a = [] := by simpa using e2
  unfold Rd.fin
  rw [if_neg]
  · exact h1.err
  · unfold Rd.peek
    rw [e1]
    simp
end Vl
end Go.Proofs.YtefjgpkpplkkgaaGreatDoor
namespace Go.Proofs.YtefjgpkpplkkgaaGreatDoor
set_option linter.unusedSimpArgs false
set_option linter.unusedVariables false
namespace Lx
/-- More words than may be. -/
theorem words_many : ∀ (ws : List Wd) (n size : Nat) (out : List Tok) (t : List UInt8), StandAll ws t → ws.length < n → out.length ≤ 1500 → 1500 < out.length + ws.length → ∃ a, lexGo size n (flat ws ++ t) out = .err a 8
  | [], n + 1, size, out, t, _, _, h1, h2 => by simp at h2; omega
  | x :: r, n + 1, size, out, t, hs, hn, h1, h2 => by
    have hw : StandsW x (flat r ++ t) := hs.1
    have e : flat (x :: r) ++ t = x.g ++ (x.w ++ (flat r ++ t)) := by simp [flat]
    rw [e, lexGo, gap_wd hw, if_neg (by simp), if_neg]
    · rw [hw.tok]
      simp only [List.length_cons] at hn h2
      simp only []
      by_cases h15 : out.length = 1500
      · rw [if_pos h15]; exact ⟨_, rfl⟩
      · rw [if_neg h15]
        exact words_many r n size _ t hs.2 (by omega) (by rw [List.length_append]; simp; omega) (by rw [List.length_append]; simp; omega)
    · show ¬ (x.w ++ (flat r ++ t)).length = 0
      have := List.length_pos_iff.2 hw.ne
      rw [List.length_append]
      omega
theorem standAll_len : ∀ (a : List Wd) (l : List UInt8), StandAll a l → a.length ≤ (flat a).length
  | [], _, _ => Nat.zero_le _
  | x :: a, l, hs => by
    have h1 := standAll_len a l hs.2
    have h2 := List.length_pos_iff.2 hs.1.ne
    rw [flat, List.length_append, List.length_append, List.length_cons]
    omega
/-- Words that are read are not too many. -/
theorem words_few {ws : List Wd} {ts : List Tok} (h : StandAll ws []) (hx : lex (flat ws) = .ok ts) : ws.length ≤ 1500 ∧ (flat ws).length ≤ 4096 := by
  unfold lex at hx
  by_cases hl : 4096 < (flat ws).length
  · rw [if_pos hl] at hx; cases hx
  rw [if_neg hl] at hx
  refine ⟨?_, by omega⟩
  by_cases hk : ws.length ≤ 1500
  · exact hk
  · obtain ⟨a, e⟩ := words_many ws ((flat ws).length + 1) (flat ws).length [] [] h (by have := standAll_len ws [] h; omega) (by simp) (by simp; omega)
    rw [List.append_nil] at e
    rw [e] at hx
    cases hx
end Lx
namespace Vl
/-- What isn't lexed isn't parsed. -/
theorem parse_lexerr {l : List UInt8} {fixed : Bool} {a c : Nat} (h : Lx.lex l = .err a c) (hc : c ≠ 0) : (parse l fixed).1.err = c := by
  obtain ⟨at_, hb⟩ : ∃ at_, Rd.begin_ l = ⟨[⟨0, [], 0⟩], 0, at_, c⟩ := ⟨_, by unfold Rd.begin_; rw [h]⟩
  unfold parse
  dsimp only
  rw [hb]
  have h1 := (Rd.ok_value fixed (([⟨0, [], 0⟩] : List Lx.Tok).length + 1) ⟨[⟨0, [], 0⟩], 0, at_, c⟩).err hc
  have e1 : (Rd.value fixed (([⟨0, [], 0⟩] : List Lx.Tok).length + 1) ⟨[⟨0, [], 0⟩], 0, at_, c⟩).1.err = c := by rw [h1]
  have h2 := (ok_fin (Rd.value fixed (([⟨0, [], 0⟩] : List Lx.Tok).length + 1) ⟨[⟨0, [], 0⟩], 0, at_, c⟩).1).err (by rw [e1]; exact hc)
  rw [h2]
  exact e1
theorem shows_lexed {z : Z} {ts : List Lx.Tok} (h : z.good 0 = true) (hx : Lx.lex z.str = .ok ts) : (parse z.str false).1.err = 0 ∧ (ofV (parse z.str false).2).same z = true := by
  have hf := flat_wds z []
  rw [List.nil_append] at hf
  have hs := stand_wds z [] [] 0 (by simp) h Lx.neu_nil
  rw [← hf] at hx
  obtain ⟨h1, h2⟩ := Lx.words_few hs hx
  exact parse_str h (fun e => by cases e) (by rw [← hf]; exact h2) (by simpa [kts] using h1)
end Vl
end Go.Proofs.YtefjgpkpplkkgaaGreatDoor
