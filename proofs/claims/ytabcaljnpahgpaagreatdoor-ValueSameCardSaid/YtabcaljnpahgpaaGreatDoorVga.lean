/-
  Numbers with a sign, a blank or nothing behind them; a text that is one token (no program in sight).
-/
import Derived.Test.YtabcaljnpahgpaaGreatDoorK4
import Derived.Test.YtabcaljnpahgpaaGreatDoorLxj
namespace Go.Proofs.YtabcaljnpahgpaaGreatDoor
set_option linter.unusedSimpArgs false
set_option linter.unusedVariables false
namespace Lx
/-- What may stand behind a word that ends by itself. -/
def neuB (c : UInt8) : Bool := !isLetter c && (!isDigit c && (decide (c.toNat ≠ 46) && (decide (c.toNat ≠ 45) && (decide (c.toNat ≠ 43) && decide (c.toNat ≠ 34)))))
structure Neu (x : List UInt8) : Prop where
  l : isLetter (hd x) = false
  d : isDigit (hd x) = false
  n46 : (hd x).toNat ≠ 46
  n45 : (hd x).toNat ≠ 45
  n43 : (hd x).toNat ≠ 43
  n34 : (hd x).toNat ≠ 34
theorem neu_of {x : List UInt8} (h : neuB (hd x) = true) : Neu x := by
  unfold neuB at h
  simp only [Bool.and_eq_true, Bool.not_eq_true', decide_eq_true_eq] at h
  obtain ⟨a, b, c, d, e, f⟩ := h
  exact ⟨a, b, c, d, e, f⟩
theorem neu_nil : Neu [] := neu_of (by decide)
theorem neu_cons (c : UInt8) (l : List UInt8) (h : neuB c = true) : Neu (c :: l) := neu_of h
theorem Neu.w {x : List UInt8} (h : Neu x) : isWord (hd x) = false := by unfold isWord; rw [h.l, h.d]; rfl
theorem Neu.e {x : List UInt8} (h : Neu x) : (hd x ||| 32).toNat ≠ 101 := fun e => by
  have := h.l
  unfold isLetter at this
  rw [e] at this
  simp at this
theorem hdn {β : Type} (p : UInt8 → β) {x : List UInt8} (h : p (hd x) = p 0) (l : List UInt8) : p (hd (l ++ x)) = p (hd l) := by
  cases l with
  | nil => exact h
  | cons c l => rfl
theorem n_hdn (n : Nat) (h0 : n ≠ 0) {x : List UInt8} (h : (hd x).toNat ≠ n) (l : List UInt8) : ((hd (l ++ x)).toNat = n) = ((hd l).toNat = n) :=
  hdn (fun c => c.toNat = n) (propext ⟨fun e => absurd e h, fun e => absurd (show (0 : Nat) = n from e) (fun e => h0 e.symm)⟩) l
theorem dw_n (p : UInt8 → Bool) {x : List UInt8} (hp : p (hd x) = false) : ∀ l, (l ++ x).dropWhile p = l.dropWhile p ++ x
  | [] => by
    cases x with
    | nil => rfl
    | cons c x => rw [List.nil_append, List.dropWhile_cons, if_neg (by rw [show p c = false from hp]; simp)]; rfl
  | c :: l => by
    rw [List.cons_append, List.dropWhile_cons, List.dropWhile_cons]
    split
    · exact dw_n p hp l
    · rfl
theorem digits_n {x : List UInt8} (hx : Neu x) (l : List UInt8) : digits (l ++ x) = digits l ++ x := dw_n isDigit hx.d l
/-- Behind a number's reading: this text. -/
def thenX (x : List UInt8) (p : Nat × List UInt8) : Nat × List UInt8 := (p.1, p.2 ++ x)
theorem numEnd_n {x : List UInt8} (hx : Neu x) (k : Nat) (l : List UInt8) : numEnd (k, l ++ x) = (numEnd (k, l)).map (thenX x) := by
  unfold numEnd
  dsimp only
  simp only [n_hdn 46 (by decide) hx.n46, hdn isLetter (hx.l.trans (by decide)), hdn isDigit (hx.d.trans (by decide))]
  split <;> rfl
theorem drop1_n {x l : List UInt8} (h : l ≠ []) : (l ++ x).drop 1 = l.drop 1 ++ x := by
  cases l with
  | nil => exact absurd rfl h
  | cons c l => rfl
theorem ne_hd {l : List UInt8} {n : Nat} (h : (hd l).toNat = n) (h0 : n ≠ 0) : l ≠ [] := fun e => by subst e; exact h0 h.symm
theorem digEnd_n {x : List UInt8} (hx : Neu x) (f : List UInt8 → Option (Nat × List UInt8)) (hf : ∀ l, f (l ++ x) = (f l).map (thenX x)) (l : List UInt8) :
    (if (digits (l ++ x)).length = (l ++ x).length then none else f (digits (l ++ x))) = (if (digits l).length = l.length then none else f (digits l)).map (thenX x) := by
  rw [digits_n hx, List.length_append, List.length_append, hf]
  by_cases h : (digits l).length = l.length
  · rw [if_pos h, if_pos (by omega)]; rfl
  · rw [if_neg h, if_neg (by omega)]
theorem numExp_n {x : List UInt8} (hx : Neu x) (k : Nat) (l : List UInt8) : numExp (k, l ++ x) = (numExp (k, l)).map (thenX x) := by
  unfold numExp
  dsimp only
  simp only [hdn (fun c => (c ||| 32).toNat = 101) (propext ⟨fun e => absurd e hx.e, fun e => absurd e (by decide)⟩) l]
  by_cases he : (hd l ||| 32).toNat = 101
  · rw [if_pos he, if_pos he]
    have hl : l ≠ [] := fun e => by subst e; exact absurd he (by decide)
    rw [drop1_n hl]
    simp only [n_hdn 43 (by decide) hx.n43, n_hdn 45 (by decide) hx.n45]
    by_cases hs : (hd (l.drop 1)).toNat = 43 ∨ (hd (l.drop 1)).toNat = 45
    · have hl2 : l.drop 1 ≠ [] := by
        rcases hs with h | h
        · exact ne_hd h (by decide)
        · exact ne_hd h (by decide)
      rw [if_pos hs, if_pos hs, drop1_n hl2]
      exact digEnd_n hx (fun l => numEnd (3, l)) (numEnd_n hx 3) _
    · rw [if_neg hs, if_neg hs]
      exact digEnd_n hx (fun l => numEnd (3, l)) (numEnd_n hx 3) _
  · rw [if_neg he, if_neg he]
    exact numEnd_n hx k l
theorem numFrac_n {x : List UInt8} (hx : Neu x) (l : List UInt8) : numFrac (l ++ x) = (numFrac l).map (thenX x) := by
  unfold numFrac
  simp only [n_hdn 46 (by decide) hx.n46]
  by_cases he : (hd l).toNat = 46
  · rw [if_pos he, if_pos he, drop1_n (ne_hd he (by decide))]
    exact digEnd_n hx (fun l => numExp (3, l)) (numExp_n hx 3) _
  · rw [if_neg he, if_neg he]
    exact numExp_n hx 2 l
theorem number_n {x : List UInt8} (hx : Neu x) (l : List UInt8) : number (l ++ x) = (number l).map (thenX x) := by
  have key : ∀ l1 : List UInt8, (if (digits (l1 ++ x)).length = (l1 ++ x).length ∨ ((hd (l1 ++ x)).toNat = 48 ∧ 1 < (l1 ++ x).length - (digits (l1 ++ x)).length) then none else numFrac (digits (l1 ++ x))) =
      (if (digits l1).length = l1.length ∨ ((hd l1).toNat = 48 ∧ 1 < l1.length - (digits l1).length) then none else numFrac (digits l1)).map (thenX x) := by
    intro l1
    rw [digits_n hx, List.length_append, List.length_append, numFrac_n hx]
    by_cases h48 : (hd l1).toNat = 48
    · have h48' : (hd (l1 ++ x)).toNat = 48 := by
        cases l1 with
        | nil => exact absurd h48 (by decide)
        | cons c l1 => exact h48
      by_cases h : (digits l1).length = l1.length ∨ ((hd l1).toNat = 48 ∧ 1 < l1.length - (digits l1).length)
      · rw [if_pos h, if_pos (by rcases h with h | h; exact .inl (by omega); exact .inr ⟨h48', by omega⟩)]; rfl
      · rw [if_neg h, if_neg (fun e => h (by rcases e with e | e; exact .inl (by omega); exact .inr ⟨h48, by omega⟩))]
    · by_cases h : (digits l1).length = l1.length
      · rw [if_pos (.inl (show (digits l1).length + x.length = l1.length + x.length by omega)), if_pos (.inl h)]; rfl
      · have h48' : (hd (l1 ++ x)).toNat ≠ 48 := by
          cases l1 with
          | nil => exact absurd rfl h
          | cons c l1 => exact h48
        rw [if_neg (fun e => by rcases e with e | e; exact h (by omega); exact h48' e.1), if_neg (fun e => by rcases e with e | e; exact h e; exact h48 e.1)]
  unfold number
  simp only [n_hdn 45 (by decide) hx.n45]
  by_cases hm : (hd l).toNat = 45
  · rw [if_pos hm, if_pos hm, drop1_n (ne_hd hm (by decide))]
    exact key _
  · rw [if_neg hm, if_neg hm]
    exact key l
/-- A text that is a number, whatever ends it. -/
def numAll (k : Nat) (t : List UInt8) : Prop := (isLetter (hd t) = false ∧ ((hd t).toNat = 45 ∨ isDigit (hd t) = true)) ∧ number t = some (k, [])
theorem numAll_tok {k : Nat} {t x : List UInt8} (h : numAll k t) (hx : Neu x) : token (t ++ x) = some (k, t, x) := by
  obtain ⟨⟨h1, h2⟩, h3⟩ := h
  have ht : t ≠ [] := fun e => by subst e; exact absurd h2 (by decide)
  have hh : hd (t ++ x) = hd t := by
    cases t with
    | nil => exact absurd rfl ht
    | cons c t => rfl
  unfold token
  rw [hh, if_neg (by rw [h1]; simp), if_pos h2, number_n hx, h3]
  simp only [thenX, Option.map_some, List.nil_append]
  rw [take_pre]
theorem token_num {k : Nat} {l T r : List UInt8} (h : token l = some (k, T, r)) (hk : k = 2 ∨ k = 3) : (isLetter (hd l) = false ∧ ((hd l).toNat = 45 ∨ isDigit (hd l) = true)) ∧ number l = some (k, r) ∧ T = l.take (l.length - r.length) := by
  unfold token at h
  split at h
  · simp only [Option.some.injEq, Prod.mk.injEq] at h; omega
  rename_i c1
  split at h
  · rename_i c2
    obtain ⟨p, hp, he⟩ := Option.map_eq_some_iff.1 h
    simp only [Prod.mk.injEq] at he
    obtain ⟨rfl, rfl, rfl⟩ := he
    exact ⟨⟨by simpa using c1, c2⟩, hp, rfl⟩
  exfalso
  split at h
  · obtain ⟨p, hp, he⟩ := Option.map_eq_some_iff.1 h
    simp only [Prod.mk.injEq] at he; omega
  split at h
  · obtain ⟨p, hp, he⟩ := Option.map_eq_some_iff.1 h
    simp only [Prod.mk.injEq] at he; omega
  split at h
  · simp only [Option.some.injEq, Prod.mk.injEq] at h; omega
  split at h
  · simp only [Option.some.injEq, Prod.mk.injEq] at h; omega
  · cases h
/-- A number that stands by itself. -/
theorem numAll_good {k : Nat} {T : List UInt8} (h : Good k T) (hk : k = 2 ∨ k = 3) : numAll k T := by
  have h1 := h.tok [32] (by unfold okG; decide)
  rw [word_not4 (by omega)] at h1
  obtain ⟨⟨a, b⟩, c, d⟩ := token_num h1 hk
  have hT : T ≠ [] := by have := h.ne; rwa [word_not4 (by omega)] at this
  have hh : hd (T ++ [32]) = hd T := by
    cases T with
    | nil => exact absurd rfl hT
    | cons c t => rfl
  rw [hh] at a b
  refine ⟨⟨a, b⟩, ?_⟩
  rw [number_n (neu_of (by decide))] at c
  cases hn : number T with
  | none => rw [hn] at c; cases c
  | some p =>
    rw [hn] at c
    simp only [thenX, Option.map_some, Option.some.injEq, Prod.mk.injEq] at c
    obtain ⟨rfl, e⟩ := c
    have : p.2 = [] := by
      have := congrArg List.length e
      simp at this
      exact this
    rw [← this]
theorem name_good {T : List UInt8} (h : Good 1 T) : isLetter (hd T) = true ∧ ∀ c ∈ T, isWord c = true := by
  have h1 := h.tok [32] (by unfold okG; decide)
  rw [word_not4 (by omega)] at h1
  have hT : T ≠ [] := by have := h.ne; rwa [word_not4 (by omega)] at this
  have hh : hd (T ++ [32]) = hd T := by
    cases T with
    | nil => exact absurd rfl hT
    | cons c t => rfl
  have c1 : isLetter (hd (T ++ [32])) = true := by
    cases hc : isLetter (hd (T ++ [32])) with
    | true => rfl
    | false =>
      exfalso
      unfold token at h1
      rw [if_neg (by rw [hc]; simp)] at h1
      split at h1
      · obtain ⟨p, hp, he⟩ := Option.map_eq_some_iff.1 h1
        have := number_kind hp
        simp only [Prod.mk.injEq] at he; omega
      split at h1
      · obtain ⟨p, hp, he⟩ := Option.map_eq_some_iff.1 h1
        simp only [Prod.mk.injEq] at he; omega
      split at h1
      · obtain ⟨p, hp, he⟩ := Option.map_eq_some_iff.1 h1
        simp only [Prod.mk.injEq] at he; omega
      split at h1
      · simp only [Option.some.injEq, Prod.mk.injEq] at h1; omega
      split at h1
      · simp only [Option.some.injEq, Prod.mk.injEq] at h1; omega
      · cases h1
  unfold token at h1
  rw [if_pos c1] at h1
  simp only [Option.some.injEq, Prod.mk.injEq] at h1
  have e := h1.2.2
  rw [dw_n isWord (by decide)] at e
  have e2 : T.dropWhile isWord = [] := by
    have := congrArg List.length e
    simp at this
    exact List.eq_nil_of_length_eq_zero (by simpa using this)
  refine ⟨by rw [← hh]; exact c1, fun c hc => ?_⟩
  have hs := dw_split isWord T
  obtain ⟨a, ha, hb⟩ := hs
  rw [e2, List.append_nil] at ha
  exact hb c (by rw [← ha]; exact hc)
/-- A text that is one token, alone. -/
theorem lex_alone {k : Nat} {t : List UInt8} (h : StandsW ⟨[], k, t, t⟩ []) (hl : t.length ≤ 4096) : lex t = .ok [⟨k, t, 0⟩, ⟨0, [], t.length⟩] := by
  have e : flat [⟨[], k, t, t⟩] ++ [] = t := by simp [flat]
  have := words_lex (ws := [⟨[], k, t, t⟩]) (t := []) ⟨by simpa [flat] using h, trivial⟩ (by simp) (by simp) (by rw [e]; exact hl)
  rw [e] at this
  rw [this]
  rfl
theorem numAll_stop {k : Nat} {t : List UInt8} (h : numAll k t) : stopB (hd t) = true ∧ t ≠ [] := by
  obtain ⟨⟨h1, h2⟩, h3⟩ := h
  refine ⟨?_, fun e => by subst e; exact absurd h2 (by decide)⟩
  rcases h2 with c2 | c2
  · have : hd t = 45 := UInt8.toNat_inj.1 (by rw [c2]; rfl)
    rw [this]; decide
  · exact (tok_of _).2.1 c2
theorem stands_num {k : Nat} {t g x : List UInt8} (hg : ∀ d ∈ g, isBlank d = true) (h : numAll k t) (hx : Neu x) : StandsW ⟨g, k, t, t⟩ x :=
  ⟨hg, (numAll_stop h).1, (numAll_stop h).2, numAll_tok h hx⟩
theorem stands_quote {t g x : List UInt8} (hg : ∀ d ∈ g, isBlank d = true) (h : valid t = true) (hx : Neu x) : StandsW ⟨g, 4, t, quote t⟩ x :=
  ⟨hg, by show stopB 34 = true; decide, by unfold quote; simp, token_quote t x h hx.n34⟩
theorem remark_suf (l : List UInt8) : ∃ a, l = a ++ (remark l).1 := by
  induction l using remark.induct with
  | case1 => exact ⟨[], by simp [remark]⟩
  | case2 c t h => rw [remark, if_pos h]; exact ⟨[], rfl⟩
  | case3 c t h1 h2 => rw [remark, if_neg h1, if_pos h2]; exact ⟨[], rfl⟩
  | case4 c t h1 h2 ih =>
    obtain ⟨a, e⟩ := ih
    rw [remark, if_neg h1, if_neg h2]
    exact ⟨(c :: t).take (rune (c :: t)).2 ++ a, by rw [List.append_assoc, ← e, List.take_append_drop]⟩
/-- What the first round of the lexer eats. -/
theorem gap_suf : ∀ (n : Nat) (f : Bool) (l : List UInt8), l.length ≤ n → ∃ a, l = a ++ (gap f l).1
  | 0, f, [], h => ⟨[], by rw [gap]; rfl⟩
  | n + 1, f, [], h => ⟨[], by rw [gap]; rfl⟩
  | 0, f, c :: t, h => by simp at h
  | n + 1, f, c :: t, h => by
    rw [gap]
    split
    · obtain ⟨a, e⟩ := gap_suf n false t (by simpa using h)
      exact ⟨c :: a, by rw [List.cons_append, ← e]⟩
    split
    · obtain ⟨a, e⟩ := gap_suf n false ((c :: t).drop 3) (by rw [List.length_drop]; simp at h ⊢; omega)
      refine ⟨(c :: t).take 3 ++ a, ?_⟩
      rw [List.append_assoc, ← e, List.take_append_drop]
    split
    · obtain ⟨b, e2⟩ := remark_suf t
      split
      · have := remark_le t
        obtain ⟨a, e⟩ := gap_suf n false (remark t).1 (by simp at h; omega)
        refine ⟨c :: (b ++ a), ?_⟩
        rw [List.cons_append, List.append_assoc, ← e, ← e2]
      · exact ⟨c :: b, by rw [List.cons_append, ← e2]⟩
    · exact ⟨[], rfl⟩
/-- A text that is just one number. -/
theorem numAll_one {k : Nat} {t : List UInt8} {a b : Tok} (h : lex t = .ok [a, b]) (h1 : a.kind = k) (h2 : a.text = t) (hk : k = 2 ∨ k = 3) : numAll k t ∧ t.length ≤ 4096 := by
  unfold lex at h
  by_cases hl : 4096 < t.length
  · rw [if_pos hl] at h; cases h
  rw [if_neg hl, lexGo] at h
  obtain ⟨p, hp⟩ := gap_suf t.length (decide (t.length = t.length)) t (Nat.le_refl _)
  generalize hg : (gap (decide (t.length = t.length)) t).1 = l1 at *
  split at h
  · cases h
  split at h
  · have := Res.ok.inj h
    simp at this
  split at h
  · cases h
  rename_i k' T rest htok
  split at h
  · cases h
  have hl1 : rest.length ≤ 4096 := by
    have h1 := token_len htok (by have := congrArg List.length hp; rw [List.length_append] at this; omega)
    have := congrArg List.length hp; rw [List.length_append] at this; omega
  obtain ⟨pre, e, -⟩ := lexGo_good _ _ _ _ _ hl1 h
  rw [List.nil_append, List.append_assoc, List.singleton_append] at e
  have e2 := (List.cons.inj e).1
  rw [e2] at h1 h2
  have h1 : k' = k := h1
  have h2 : T = t := h2
  subst h1 h2
  obtain ⟨c1, c2, c3⟩ := token_num htok hk
  have hp' := congrArg List.length hp
  have c3' := congrArg List.length c3
  rw [List.length_append] at hp'
  rw [List.length_take] at c3'
  have hpn : p = [] := List.eq_nil_of_length_eq_zero (by omega)
  rw [hpn, List.nil_append] at hp
  have hl2 : l1.length ≠ 0 := by assumption
  have hrl : rest = [] := by
    obtain ⟨pre, e, _⟩ := number_pre c2
    have := congrArg List.length e
    rw [List.length_append] at this
    exact List.eq_nil_of_length_eq_zero (by omega)
  rw [hrl, ← hp] at c2
  rw [← hp] at c1
  exact ⟨⟨c1, c2⟩, by omega⟩
/-- Numbers among a text's tokens are no longer than it. -/
theorem lexGo_nums : ∀ (n size : Nat) (l : List UInt8) (out ts : List Tok), l.length ≤ 4096 → lexGo size n l out = .ok ts → ∃ pre, ts = out ++ pre ++ [⟨0, [], size⟩] ∧ ∀ t ∈ pre, Good t.kind t.text ∧ (t.kind = 2 ∨ t.kind = 3 → t.text.length ≤ 4096)
  | 0, size, l, out, ts, _, h => by simp [lexGo] at h
  | n + 1, size, l, out, ts, hl, h => by
    have hgl := gap_le l.length (decide (l.length = size)) l (Nat.le_refl _)
    rw [lexGo] at h
    split at h
    · cases h
    split at h
    · refine ⟨[], ?_, by simp⟩
      rw [List.append_nil]
      exact (Res.ok.inj h).symm
    split at h
    · cases h
    rename_i k T rest htok
    split at h
    · cases h
    obtain ⟨hT, hR⟩ := token_len htok (by omega)
    obtain ⟨pre, h1, h2⟩ := lexGo_nums n size rest _ ts (by omega) h
    refine ⟨⟨k, T, size - (gap (decide (l.length = size)) l).1.length⟩ :: pre, by rw [h1]; simp, fun t ht => ?_⟩
    rcases List.mem_cons.1 ht with rfl | ht
    · refine ⟨good_of htok, fun hk => ?_⟩
      obtain ⟨-, -, c3⟩ := token_num htok hk
      show T.length ≤ 4096
      rw [c3, List.length_take]
      omega
    · exact h2 t ht
theorem lexGo_count : ∀ (n size : Nat) (l : List UInt8) (out ts : List Tok), lexGo size n l out = .ok ts → ts.length ≤ out.length + l.length + 1
  | 0, size, l, out, ts, h => by simp [lexGo] at h
  | n + 1, size, l, out, ts, h => by
    have hgl := gap_le l.length (decide (l.length = size)) l (Nat.le_refl _)
    rw [lexGo] at h
    split at h
    · cases h
    split at h
    · rw [← Res.ok.inj h, List.length_append, List.length_singleton]
      omega
    split at h
    · cases h
    rename_i k T rest htok
    split at h
    · cases h
    have h1 := token_lt htok
    have h2 := lexGo_count n size rest _ ts h
    rw [List.length_append] at h2
    simp at h2
    omega
/-- What is known of a text's tokens. -/
def TokG (t : Tok) : Prop := (t.kind = 1 → isLetter (hd t.text) = true ∧ ∀ c ∈ t.text, isWord c = true) ∧ (t.kind = 2 ∨ t.kind = 3 → numAll t.kind t.text ∧ t.text.length ≤ 4096) ∧ (t.kind = 4 → valid t.text = true)
theorem tokG_of {t : Tok} (h : Good t.kind t.text) (hl : t.kind = 2 ∨ t.kind = 3 → t.text.length ≤ 4096) : TokG t := by
  refine ⟨fun hk => ?_, fun hk => ⟨numAll_good h hk, hl hk⟩, h.val⟩
  rw [hk] at h
  exact name_good h
theorem lex_tokG {l : List UInt8} {ts : List Tok} (h : lex l = .ok ts) : (∀ t ∈ ts, TokG t) ∧ ts.length ≤ l.length + 1 ∧ l.length ≤ 4096 := by
  unfold lex at h
  by_cases hl : 4096 < l.length
  · rw [if_pos hl] at h; cases h
  rw [if_neg hl] at h
  obtain ⟨pre, e, h2⟩ := lexGo_nums _ _ _ _ _ (by omega) h
  rw [List.nil_append] at e
  subst e
  refine ⟨fun t ht => ?_, ?_, by omega⟩
  · rcases List.mem_append.1 ht with ht | ht
    · exact tokG_of (h2 t ht).1 (h2 t ht).2
    · obtain rfl := List.mem_singleton.1 ht
      exact ⟨fun e => (by cases e), fun e => (by rcases e with e | e <;> cases e), fun e => (by cases e)⟩
  · have := lexGo_count _ _ _ _ _ h
    simpa using this
theorem lex_end {l : List UInt8} {ts : List Tok} (h : lex l = .ok ts) : ∃ pre, ts = pre ++ [⟨0, [], l.length⟩] := by
  unfold lex at h
  by_cases hl : 4096 < l.length
  · rw [if_pos hl] at h; cases h
  rw [if_neg hl] at h
  obtain ⟨pre, e, -⟩ := lexGo_nums _ _ _ _ _ (by omega) h
  rw [List.nil_append] at e
  exact ⟨pre, e⟩
theorem text_mass : ∀ (n : Nat) (l out m r : List UInt8), l.length ≤ n → text out l = some (m, r) → m.length + 4 * r.length ≤ out.length + 4 * l.length
  | _, [], out, m, r, _, h => by rw [text_nil] at h; cases h
  | 0, c :: t, _, _, _, h, _ => by simp at h
  | n + 1, c :: t, out, m, r, hn, h => by
    rw [List.length_cons] at hn ⊢
    by_cases h0 : ctl (c :: t)
    · rw [text_bad h0] at h; cases h
    have hr : (rune (c :: t)).2 ≠ 0 := fun e => h0 (.inl e)
    by_cases h1 : (rune (c :: t)).1 = 34
    · rw [text_quote h0 h1] at h
      simp at h
      rw [← h.1, ← h.2]
      try simp only [List.length_cons]
      omega
    by_cases h2 : (rune (c :: t)).1 = 92
    · cases he : esc (hd t) with
      | some e =>
        rw [text_esc h0 h2 he] at h
        have := text_mass n _ _ m r (by rw [List.length_drop]; omega) h
        rw [List.length_append, List.length_singleton, List.length_drop] at this
        omega
      | none =>
        by_cases hu : (hd t).toNat = 117
        · cases hx : hex (t.drop 1) with
          | none => rw [text_nohex h0 h2 he hu hx] at h; cases h
          | some v =>
            by_cases hs : 55296 ≤ v ∧ v < 57344
            · rw [text_sur h0 h2 he hu hx hs] at h; cases h
            · rw [text_uni h0 h2 he hu hx hs] at h
              have := text_mass n _ _ m r (by rw [List.length_drop]; omega) h
              have h4 := enc_len v
              rw [List.length_append, List.length_drop] at this
              omega
        · rw [text_noesc h0 h2 he hu] at h; cases h
    · rw [text_plain h0 h1 h2] at h
      have := text_mass n _ _ m r (by rw [List.length_drop, List.length_cons]; omega) h
      have h4 := rune_le4 (c :: t)
      have h5 := rune_len (c :: t)
      rw [List.length_cons] at h5
      rw [List.length_append, List.length_drop, List.length_take, List.length_cons] at this
      omega
theorem block_mass : ∀ (n : Nat) (l out m r : List UInt8), l.length ≤ n → block out l = some (m, r) → m.length + r.length ≤ out.length + l.length
  | _, [], out, m, r, _, h => by rw [block_nil] at h; cases h
  | 0, c :: t, _, _, _, h, _ => by simp at h
  | n + 1, c :: t, out, m, r, hn, h => by
    rw [List.length_cons] at hn ⊢
    cases hq : quotes3 (c :: t)
    · by_cases he : c.toNat = 92 ∧ quotes3 t = true
      · rw [block_esc hq he] at h
        have h3 : 3 ≤ t.length := by
          have h1 := congrArg List.length (of_decide_eq_true he.2)
          rw [List.length_take] at h1
          simp at h1; omega
        have := block_mass n _ _ m r (by rw [List.length_drop]; omega) h
        rw [List.length_append, List.length_drop] at this
        simp only [List.length_cons, List.length_nil] at this
        omega
      · by_cases hc : ctlB (c :: t)
        · rw [block_bad hq he hc] at h; cases h
        · rw [block_go hq he hc] at h
          have hr : (rune (c :: t)).2 ≠ 0 := fun e => hc (.inl e)
          have := block_mass n _ _ m r (by rw [List.length_drop, List.length_cons]; omega) h
          have h5 := rune_len (c :: t)
          rw [List.length_append, List.length_drop, List.length_take, List.length_cons] at this
          rw [List.length_cons] at h5
          omega
    · rw [block_end hq] at h
      simp at h
      rw [← h.1, ← h.2]
      simp
      omega
theorem dedent_mass (raw : List UInt8) (h : raw.length ≤ 1000) : (dedent raw).length ≤ 16016 * raw.length + 20020 := by
  unfold dedent
  obtain ⟨n, _, ht⟩ := trimEnd_take ((strip (common (lines raw).tail) (lines raw)).dropWhile allSp)
  rw [ht]
  have h1 := join_le (((strip (common (lines raw).tail) (lines raw)).dropWhile allSp).take n) 4003 (by
    intro x hx
    have h2 := List.mem_of_mem_take hx
    have h3 := (List.dropWhile_sublist _).subset h2
    obtain ⟨m, hm⟩ := List.getElem?_of_mem h3
    rw [strip_get] at hm
    cases hl : (lines raw)[m]? with
    | none => rw [hl] at hm; simp at hm
    | some z =>
      rw [hl] at hm
      simp only [Option.map_some, Option.some.injEq] at hm
      subst hm
      have h4 := stripAt_le (common (lines raw).tail) m z
      have h5 := line_le raw z (List.mem_of_getElem? hl)
      omega)
  have h2 := dropWhile_all allSp (strip (common (lines raw).tail) (lines raw))
  rw [strip_len] at h2
  have h3 := lines_le raw
  rw [List.length_take] at h1
  have h4 : min n ((strip (common (lines raw).tail) (lines raw)).dropWhile allSp).length * (4003 + 1) ≤ (4 * raw.length + 5) * 4004 := Nat.mul_le_mul_right _ (by omega)
  omega
theorem token_mass {l : List UInt8} {k : Nat} {T r : List UInt8} (h : token l = some (k, T, r)) (hl : l.length ≤ 1000) : T.length ≤ 16500 * (l.length - r.length) := by
  have hlt := token_lt h
  unfold token at h
  split at h
  · simp only [Option.some.injEq, Prod.mk.injEq] at h
    obtain ⟨rfl, rfl, rfl⟩ := h
    rw [List.length_take]; omega
  split at h
  · obtain ⟨p, hp, he⟩ := Option.map_eq_some_iff.1 h
    simp only [Prod.mk.injEq] at he
    obtain ⟨rfl, rfl, rfl⟩ := he
    rw [List.length_take]; omega
  split at h
  · obtain ⟨p, hp, he⟩ := Option.map_eq_some_iff.1 h
    simp only [Prod.mk.injEq] at he
    obtain ⟨rfl, rfl, rfl⟩ := he
    have h1 := block_mass _ _ _ p.1 p.2 (Nat.le_refl _) hp
    have h3 : 3 ≤ l.length := by rename_i c3; exact q3_len c3
    rw [List.length_drop, List.length_nil] at h1
    have := dedent_mass p.1 (by omega)
    omega
  split at h
  · obtain ⟨p, hp, he⟩ := Option.map_eq_some_iff.1 h
    simp only [Prod.mk.injEq] at he
    obtain ⟨rfl, rfl, rfl⟩ := he
    have := text_mass _ _ _ p.1 p.2 (Nat.le_refl _) hp
    rw [List.length_drop, List.length_nil] at this
    omega
  split at h
  · simp only [Option.some.injEq, Prod.mk.injEq] at h
    obtain ⟨rfl, rfl, rfl⟩ := h
    rw [List.length_take, List.length_drop] at *; omega
  split at h
  · simp only [Option.some.injEq, Prod.mk.injEq] at h
    obtain ⟨rfl, rfl, rfl⟩ := h
    rw [List.length_take, List.length_drop] at *; omega
  · cases h
/-- How much the tokens hold. -/
def mass : List Tok → Nat
  | [] => 0
  | t :: r => t.text.length + mass r
theorem mass_app : ∀ a b : List Tok, mass (a ++ b) = mass a + mass b
  | [], b => by simp [mass]
  | t :: a, b => by rw [List.cons_append, mass, mass, mass_app a b]; omega
theorem lexGo_mass : ∀ (n size : Nat) (l : List UInt8) (out ts : List Tok), l.length ≤ 1000 → lexGo size n l out = .ok ts → mass ts ≤ mass out + 16500 * l.length
  | 0, size, l, out, ts, _, h => by simp [lexGo] at h
  | n + 1, size, l, out, ts, hl, h => by
    have hgl := gap_le l.length (decide (l.length = size)) l (Nat.le_refl _)
    rw [lexGo] at h
    split at h
    · cases h
    split at h
    · rw [← Res.ok.inj h, mass_app]
      show mass out + (0 + 0) ≤ _
      omega
    split at h
    · cases h
    rename_i k T rest htok
    split at h
    · cases h
    have h1 := token_lt htok
    have h3 := token_mass htok (by omega)
    have h2 := lexGo_mass n size rest _ ts (by omega) h
    rw [mass_app] at h2
    have e : mass [⟨k, T, size - (gap (decide (l.length = size)) l).1.length⟩] = T.length := by show T.length + 0 = _; omega
    rw [e] at h2
    omega
theorem lex_mass {l : List UInt8} {ts : List Tok} (h : lex l = .ok ts) (hl : l.length ≤ 1000) : mass ts ≤ 16500000 := by
  unfold lex at h
  rw [if_neg (by omega)] at h
  have := lexGo_mass _ _ _ _ _ hl h
  have e : mass ([] : List Tok) = 0 := rfl
  omega
end Lx
end Go.Proofs.YtabcaljnpahgpaaGreatDoor
