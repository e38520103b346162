/-
  A token stands by itself: laid between other gaps it is the same token (no program in sight).
-/
import Derived.Test.YtonblegbnkfhbaaDoorL7gv
import Derived.Test.YtonblegbnkfhbaaDoorLxch
namespace Go.Proofs.YtonblegbnkfhbaaDoor
set_option linter.unusedSimpArgs false
set_option linter.unusedVariables false
namespace Lx

/-- A byte that a gap begins with. -/
def gapB (c : UInt8) : Bool := isBlank c || decide (c.toNat = 35)
def gapOk (c : UInt8) : Bool := !gapB c || (!isLetter c && !isDigit c && !isWord c && decide (c.toNat ≠ 46) && decide ((c ||| 32).toNat ≠ 101) && decide (c.toNat ≠ 34))
set_option maxRecDepth 100000 in
theorem gapOk_fin : ∀ n : Fin 256, gapOk (UInt8.ofNat n.val) = true := by decide +kernel
theorem gap_of {c : UInt8} (h : gapB c = true) : isLetter c = false ∧ isDigit c = false ∧ isWord c = false ∧ c.toNat ≠ 46 ∧ (c ||| 32).toNat ≠ 101 ∧ c.toNat ≠ 34 := by
  have := gapOk_fin ⟨c.toNat, UInt8.toNat_lt c⟩
  have hk : gapOk c = true := by simpa using this
  unfold gapOk at hk
  rw [h] at hk
  simp only [Bool.not_true, Bool.false_or, Bool.and_eq_true, decide_eq_true_eq, Bool.not_eq_true'] at hk
  obtain ⟨⟨⟨⟨⟨h1, h2⟩, h3⟩, h4⟩, h5⟩, h6⟩ := hk
  exact ⟨h1, h2, h3, h4, h5, h6⟩

theorem hd_app {a x y : List UInt8} (p : UInt8 → Prop) (h1 : p (hd (a ++ x))) (h2 : p (hd y)) : p (hd (a ++ y)) := by
  cases a with
  | nil => exact h2
  | cons c a => exact h1
theorem hd_cons (c : UInt8) (l : List UInt8) : hd (c :: l) = c := rfl
theorem dw_app (p : UInt8 → Bool) : ∀ (a x : List UInt8), (∀ c ∈ a, p c = true) → p (hd x) = false ∨ x = [] → (a ++ x).dropWhile p = x
  | [], x, _, h => by
    rw [List.nil_append]
    cases x with
    | nil => rfl
    | cons c x =>
      rcases h with h | h
      · rw [List.dropWhile_cons, if_neg (by rw [hd_cons] at h; rw [h]; simp)]
      · cases h
  | c :: a, x, ha, h => by
    rw [List.cons_append, List.dropWhile_cons, if_pos (ha c (by simp))]
    exact dw_app p a x (fun d hd => ha d (by simp [hd])) h
theorem dw_hd (p : UInt8 → Bool) (h0 : p 0 = false) : ∀ l : List UInt8, p (hd (l.dropWhile p)) = false
  | [] => h0
  | c :: l => by
    rw [List.dropWhile_cons]
    split
    · exact dw_hd p h0 l
    · rename_i h; rw [hd_cons]; simpa using h
theorem digits_app {a x : List UInt8} (ha : ∀ c ∈ a, isDigit c = true) (h : isDigit (hd x) = false) : digits (a ++ x) = x := dw_app isDigit a x ha (.inl h)
theorem digits_hd (l : List UInt8) : isDigit (hd (digits l)) = false := dw_hd isDigit (by decide) l
theorem digits_split (l : List UInt8) : ∃ a, l = a ++ digits l ∧ ∀ c ∈ a, isDigit c = true := dw_split isDigit l

/-- What may stand behind a token. -/
def okG (x : List UInt8) : Prop := gapB (hd x) = true

theorem numEnd_some {r r' : Nat × List UInt8} (h : numEnd r = some r') : r' = r := by
  unfold numEnd at h
  split at h
  · cases h
  · simpa using h.symm
theorem numEnd_gap (k : Nat) {x : List UInt8} (h : okG x) : numEnd (k, x) = some (k, x) := by
  obtain ⟨h1, h2, h3, h4, h5, h6⟩ := gap_of h
  unfold numEnd
  rw [if_neg (by simp [h1, h2, h4])]

theorem numExp_pre {k k' : Nat} {l rest : List UInt8} (h : numExp (k, l) = some (k', rest)) : ∃ pre, l = pre ++ rest ∧ ∀ x, okG x → numExp (k, pre ++ x) = some (k', x) := by
  unfold numExp at h
  split at h
  · rename_i he
    simp only [] at h he
    obtain ⟨c, l1, rfl⟩ : ∃ c l1, l = c :: l1 := by
      cases l with
      | nil => exact absurd he (by decide)
      | cons c l1 => exact ⟨c, l1, rfl⟩
    rw [List.drop_one, List.tail_cons] at h
    rw [hd_cons] at he
    by_cases hs : (hd l1).toNat = 43 ∨ (hd l1).toNat = 45
    · rw [if_pos hs] at h
      obtain ⟨d, l2, rfl⟩ : ∃ d l2, l1 = d :: l2 := by
        cases l1 with
        | nil => exact absurd hs (by decide)
        | cons d l2 => exact ⟨d, l2, rfl⟩
      rw [List.drop_one, List.tail_cons] at h
      rw [hd_cons] at hs
      obtain ⟨ds, e1, e2⟩ := digits_split l2
      split at h
      · cases h
      · rename_i hne
        have := numEnd_some h
        simp only [Prod.mk.injEq] at this
        obtain ⟨rfl, rfl⟩ := this
        refine ⟨c :: d :: ds, by rw [List.cons_append, List.cons_append, ← e1], fun x hx => ?_⟩
        have hdg : digits (ds ++ x) = x := digits_app e2 (gap_of hx).2.1
        have hds : ds.length ≠ 0 := fun e => hne (by
          have := congrArg List.length e1
          rw [List.length_append, e] at this
          omega)
        unfold numExp
        rw [if_pos (by exact he)]
        simp only [List.cons_append, List.drop_one, List.tail_cons, hd_cons]
        rw [if_pos hs, hdg, if_neg (by rw [List.length_append]; omega)]
        exact numEnd_gap 3 hx
    · rw [if_neg hs] at h
      obtain ⟨ds, e1, e2⟩ := digits_split l1
      split at h
      · cases h
      · rename_i hne
        have := numEnd_some h
        simp only [Prod.mk.injEq] at this
        obtain ⟨rfl, rfl⟩ := this
        refine ⟨c :: ds, by rw [List.cons_append, ← e1], fun x hx => ?_⟩
        have hdg : digits (ds ++ x) = x := digits_app e2 (gap_of hx).2.1
        have hds : ds.length ≠ 0 := fun e => hne (by
          have := congrArg List.length e1
          rw [List.length_append, e] at this
          omega)
        have hs2 : ¬ ((hd (ds ++ x)).toNat = 43 ∨ (hd (ds ++ x)).toNat = 45) := by
          cases ds with
          | nil => exact absurd rfl hds
          | cons q ds =>
            rw [e1] at hs
            exact hs
        unfold numExp
        rw [if_pos (by exact he)]
        simp only [List.cons_append, List.drop_one, List.tail_cons]
        rw [if_neg hs2, hdg, if_neg (by rw [List.length_append]; omega)]
        exact numEnd_gap 3 hx
  · rename_i he
    have := numEnd_some h
    simp only [Prod.mk.injEq] at this
    obtain ⟨rfl, rfl⟩ := this
    refine ⟨[], rfl, fun x hx => ?_⟩
    unfold numExp
    rw [List.nil_append, if_neg (gap_of hx).2.2.2.2.1]
    exact numEnd_gap _ hx

theorem numFrac_pre {k' : Nat} {l rest : List UInt8} (h : numFrac l = some (k', rest)) : ∃ pre, l = pre ++ rest ∧ ∀ x, okG x → numFrac (pre ++ x) = some (k', x) := by
  unfold numFrac at h
  split at h
  · rename_i he
    obtain ⟨c, l1, rfl⟩ : ∃ c l1, l = c :: l1 := by
      cases l with
      | nil => exact absurd he (by decide)
      | cons c l1 => exact ⟨c, l1, rfl⟩
    rw [List.drop_one, List.tail_cons] at h
    rw [hd_cons] at he
    obtain ⟨ds, e1, e2⟩ := digits_split l1
    split at h
    · cases h
    · rename_i hne
      obtain ⟨pre, e3, e4⟩ := numExp_pre h
      refine ⟨c :: (ds ++ pre), by rw [List.cons_append, List.append_assoc, ← e3, ← e1], fun x hx => ?_⟩
      have hd0 : isDigit (hd (pre ++ x)) = false := hd_app (x := rest) (fun c => isDigit c = false) (by rw [← e3]; exact digits_hd l1) (gap_of hx).2.1
      have hdg : digits (ds ++ (pre ++ x)) = pre ++ x := digits_app e2 hd0
      have hds : ds.length ≠ 0 := fun e => hne (by
        have := congrArg List.length e1
        rw [List.length_append, e] at this
        omega)
      unfold numFrac
      have hap : (ds ++ (pre ++ x)).length = ds.length + (pre ++ x).length := List.length_append
      rw [List.cons_append, hd_cons, if_pos he, List.drop_one, List.tail_cons, List.append_assoc, hdg, if_neg (by omega)]
      exact e4 x hx
  · rename_i he
    obtain ⟨pre, e3, e4⟩ := numExp_pre h
    refine ⟨pre, e3, fun x hx => ?_⟩
    unfold numFrac
    rw [if_neg (hd_app (x := rest) (fun c => ¬ c.toNat = 46) (by rw [← e3]; exact he) (gap_of hx).2.2.2.1)]
    exact e4 x hx

theorem number_pre {k' : Nat} {l rest : List UInt8} (h : number l = some (k', rest)) : ∃ pre, l = pre ++ rest ∧ ∀ x, okG x → number (pre ++ x) = some (k', x) := by
  have key : ∀ l1 : List UInt8, (if (digits l1).length = l1.length ∨ ((hd l1).toNat = 48 ∧ 1 < l1.length - (digits l1).length) then none else numFrac (digits l1)) = some (k', rest) →
      ∃ ds pre, l1 = ds ++ (pre ++ rest) ∧ ds ≠ [] ∧ ∀ x, okG x → (if (digits (ds ++ (pre ++ x))).length = (ds ++ (pre ++ x)).length ∨ ((hd (ds ++ (pre ++ x))).toNat = 48 ∧ 1 < (ds ++ (pre ++ x)).length - (digits (ds ++ (pre ++ x))).length) then none else numFrac (digits (ds ++ (pre ++ x)))) = some (k', x) := by
    intro l1 h
    split at h
    · cases h
    · rename_i hne
      obtain ⟨ds, e1, e2⟩ := digits_split l1
      obtain ⟨pre, e3, e4⟩ := numFrac_pre h
      have hds : ds ≠ [] := fun e => hne (.inl (by rw [e, List.nil_append] at e1; rw [← e1]))
      refine ⟨ds, pre, by rw [← e3, ← e1], hds, fun x hx => ?_⟩
      have hd0 : isDigit (hd (pre ++ x)) = false := hd_app (x := rest) (fun c => isDigit c = false) (by rw [← e3]; exact digits_hd l1) (gap_of hx).2.1
      have hdg : digits (ds ++ (pre ++ x)) = pre ++ x := digits_app e2 hd0
      have hdl : 0 < ds.length := List.length_pos_iff.2 hds
      have hh : hd (ds ++ (pre ++ x)) = hd l1 := by
        cases ds with
        | nil => exact absurd rfl hds
        | cons q ds => rw [e1]; rfl
      have hle : l1.length - (digits l1).length = ds.length := by
        have := congrArg List.length e1
        rw [List.length_append] at this
        omega
      rw [hdg, hh, if_neg]
      · exact e4 x hx
      · have hap : (ds ++ (pre ++ x)).length = ds.length + (pre ++ x).length := List.length_append
        rw [hap]
        intro hc
        rcases hc with hc | ⟨hc1, hc2⟩
        · omega
        · exact hne (.inr ⟨hc1, by omega⟩)
  unfold number at h
  by_cases hm : (hd l).toNat = 45
  · rw [if_pos hm] at h
    obtain ⟨c, l1, rfl⟩ : ∃ c l1, l = c :: l1 := by
      cases l with
      | nil => exact absurd hm (by decide)
      | cons c l1 => exact ⟨c, l1, rfl⟩
    rw [List.drop_one, List.tail_cons] at h
    obtain ⟨ds, pre, e1, e2, e3⟩ := key l1 h
    refine ⟨c :: (ds ++ pre), by rw [List.cons_append, List.append_assoc, ← e1], fun x hx => ?_⟩
    unfold number
    have hm2 : c.toNat = 45 := hm
    rw [List.cons_append, hd_cons, if_pos hm2, List.drop_one, List.tail_cons, List.append_assoc]
    exact e3 x hx
  · rw [if_neg hm] at h
    obtain ⟨ds, pre, e1, e2, e3⟩ := key l h
    refine ⟨ds ++ pre, by rw [List.append_assoc, ← e1], fun x hx => ?_⟩
    have hh : hd (ds ++ (pre ++ x)) = hd l := by
      cases ds with
      | nil => exact absurd rfl e2
      | cons q ds => rw [e1]; rfl
    unfold number
    rw [List.append_assoc, hh, if_neg hm]
    exact e3 x hx

/-- A token's word in the other text. -/
def word (k : Nat) (T : List UInt8) : List UInt8 := if k = 4 then quote T else T
/-- A byte that stops a gap. -/
def stopB (c : UInt8) : Bool := !isBlank c && decide (c.toNat ≠ 35) && decide (c.toNat ≠ 239)
/-- A token that stands by itself. -/
structure Good (k : Nat) (T : List UInt8) : Prop where
  tok : ∀ x, okG x → token (word k T ++ x) = some (k, T, x)
  stop : stopB (hd (word k T)) = true
  ne : word k T ≠ []
  val : k = 4 → valid T = true

def tokOk (c : UInt8) : Bool := (!isLetter c || (stopB c && isWord c)) && (!isDigit c || (stopB c)) && (!signs.contains c || (stopB c && !isLetter c && !isDigit c && decide (c.toNat ≠ 45) && decide (c.toNat ≠ 34) && decide (c.toNat ≠ 46) && decide (c.toNat ≠ 0)))
set_option maxRecDepth 100000 in
theorem tokOk_fin : ∀ n : Fin 256, tokOk (UInt8.ofNat n.val) = true := by decide +kernel
theorem tok_of (c : UInt8) : (isLetter c = true → stopB c = true ∧ isWord c = true) ∧ (isDigit c = true → stopB c = true) ∧ (signs.contains c = true → stopB c = true ∧ isLetter c = false ∧ isDigit c = false ∧ c.toNat ≠ 45 ∧ c.toNat ≠ 34 ∧ c.toNat ≠ 46 ∧ c.toNat ≠ 0) := by
  have := tokOk_fin ⟨c.toNat, UInt8.toNat_lt c⟩
  have hk : tokOk c = true := by simpa using this
  unfold tokOk at hk
  simp only [Bool.and_eq_true, Bool.or_eq_true, decide_eq_true_eq, Bool.not_eq_true'] at hk
  obtain ⟨⟨h1, h2⟩, h3⟩ := hk
  refine ⟨fun h => ?_, fun h => ?_, fun h => ?_⟩
  · rcases h1 with h1 | h1
    · rw [h] at h1; cases h1
    · exact h1
  · rcases h2 with h2 | h2
    · rw [h] at h2; cases h2
    · exact h2
  · rcases h3 with h3 | ⟨⟨⟨⟨⟨⟨a1, a2⟩, a3⟩, a4⟩, a5⟩, a6⟩, a7⟩
    · rw [h] at h3; cases h3
    · exact ⟨a1, a2, a3, a4, a5, a6, a7⟩

theorem take_pre (a b : List UInt8) : (a ++ b).take ((a ++ b).length - b.length) = a := by
  rw [List.length_append, show a.length + b.length - b.length = a.length by omega, List.take_left]
theorem word_not4 {k : Nat} (h : k ≠ 4) (T : List UInt8) : word k T = T := if_neg h

theorem good_of {l : List UInt8} {k : Nat} {T r : List UInt8} (h : token l = some (k, T, r)) : Good k T := by
  unfold token at h
  by_cases c1 : isLetter (hd l) = true
  · rw [if_pos c1] at h
    simp only [Option.some.injEq, Prod.mk.injEq] at h
    obtain ⟨rfl, rfl, rfl⟩ := h
    obtain ⟨a, e1, e2⟩ := dw_split isWord l
    generalize hr : l.dropWhile isWord = r at *
    subst e1
    rw [take_pre]
    have ht := (tok_of (hd (a ++ r))).1 c1
    have hne : a ≠ [] := fun e => by
      rw [e, List.nil_append] at hr ht
      have := dw_hd isWord (by decide) r
      rw [hr] at this
      rw [this] at ht
      cases ht.2
    have hh : ∀ x, hd (a ++ x) = hd (a ++ r) := fun x => by
      cases a with
      | nil => exact absurd rfl hne
      | cons q a => rfl
    refine ⟨fun x hx => ?_, ?_, by rw [word_not4 (by decide)]; exact hne, fun e => by cases e⟩
    · rw [word_not4 (by decide)]
      unfold token
      rw [hh x, if_pos c1, dw_app isWord a x e2 (.inl (gap_of hx).2.2.1), take_pre]
    · rw [word_not4 (by decide)]
      have := hh []
      rw [List.append_nil] at this
      rw [this]; exact ht.1
  rw [if_neg c1] at h
  by_cases c2 : (hd l).toNat = 45 ∨ isDigit (hd l) = true
  · rw [if_pos c2] at h
    cases hn : number l with
    | none => rw [hn] at h; cases h
    | some p =>
      obtain ⟨k', rest⟩ := p
      rw [hn] at h
      simp only [Option.map_some, Option.some.injEq, Prod.mk.injEq] at h
      obtain ⟨rfl, rfl, rfl⟩ := h
      have hk := number_kind hn
      simp only [] at hk
      obtain ⟨pre, e1, e2⟩ := number_pre hn
      subst e1
      rw [take_pre]
      have hne : pre ≠ [] := fun e => by
        have h0 := e2 [32] (by unfold okG; decide)
        rw [e, List.nil_append, show number [32] = none from by decide] at h0
        cases h0
      have hh : ∀ x, hd (pre ++ x) = hd (pre ++ rest) := fun x => by
        cases pre with
        | nil => exact absurd rfl hne
        | cons q a => rfl
      have hw : word k' pre = pre := word_not4 (by omega) pre
      refine ⟨fun x hx => ?_, ?_, by rw [hw]; exact hne, fun e => by omega⟩
      · rw [hw]
        unfold token
        rw [hh x, if_neg c1, if_pos c2, e2 x hx]
        simp only [Option.map_some]
        rw [take_pre]
      · rw [hw]
        have := hh []
        rw [List.append_nil] at this
        rw [this]
        rcases c2 with c2 | c2
        · have : hd (pre ++ rest) = 45 := UInt8.toNat_inj.1 (by rw [c2]; rfl)
          rw [this]; decide
        · exact (tok_of _).2.1 c2
  rw [if_neg c2] at h
  have strg : ∀ m : List UInt8, V m → Good 4 m := fun m hm => by
    have hv : valid m = true := V_valid hm _ (Nat.le_refl _)
    refine ⟨fun x hx => ?_, ?_, ?_, fun _ => hv⟩
    · show token (quote m ++ x) = _
      exact token_quote m x hv (gap_of hx).2.2.2.2.2
    · show stopB 34 = true
      decide
    · show quote m ≠ []
      unfold quote
      simp
  by_cases c3 : quotes3 l = true
  · rw [if_pos c3] at h
    cases hb : block [] (l.drop 3) with
    | none => rw [hb] at h; cases h
    | some p =>
      rw [hb] at h
      simp only [Option.map_some, Option.some.injEq, Prod.mk.injEq] at h
      obtain ⟨rfl, rfl, rfl⟩ := h
      exact strg _ (V_dedent (V_block _ _ _ _ _ (Nat.le_refl _) .nil hb))
  rw [if_neg c3] at h
  by_cases c4 : (hd l).toNat = 34
  · rw [if_pos c4] at h
    cases hb : text [] (l.drop 1) with
    | none => rw [hb] at h; cases h
    | some p =>
      rw [hb] at h
      simp only [Option.map_some, Option.some.injEq, Prod.mk.injEq] at h
      obtain ⟨rfl, rfl, rfl⟩ := h
      exact strg _ (V_text _ _ _ _ _ (Nat.le_refl _) .nil hb)
  rw [if_neg c4] at h
  by_cases c5 : dots3 l = true
  · rw [if_pos c5] at h
    simp only [Option.some.injEq, Prod.mk.injEq] at h
    obtain ⟨rfl, rfl, rfl⟩ := h
    have e : l.take 3 = [46, 46, 46] := by simpa [dots3] using c5
    rw [e]
    refine ⟨fun x hx => ?_, by decide, by decide, fun e => by cases e⟩
    show token (46 :: 46 :: 46 :: x) = _
    unfold token
    rw [if_neg (by rw [hd_cons]; decide), if_neg (by rw [hd_cons]; decide), if_neg (by simp [quotes3]), if_neg (by rw [hd_cons]; decide), if_pos (by simp [dots3])]
    rfl
  rw [if_neg c5] at h
  by_cases c6 : (hd l).toNat ≠ 0 ∧ signs.contains (hd l) = true
  · rw [if_pos c6] at h
    simp only [Option.some.injEq, Prod.mk.injEq] at h
    obtain ⟨rfl, rfl, rfl⟩ := h
    obtain ⟨c, t, rfl⟩ : ∃ c t, l = c :: t := by
      cases l with
      | nil => exact absurd rfl c6.1
      | cons c t => exact ⟨c, t, rfl⟩
    rw [hd_cons] at c6
    obtain ⟨a1, a2, a3, a4, a5, a6, a7⟩ := (tok_of c).2.2 c6.2
    show Good 5 [c]
    refine ⟨fun x hx => ?_, by rw [word_not4 (by decide)]; exact a1, by rw [word_not4 (by decide)]; simp, fun e => by cases e⟩
    rw [word_not4 (by decide)]
    show token (c :: x) = _
    unfold token
    rw [hd_cons, if_neg (by rw [a2]; simp), if_neg (by rw [a3]; simp [a4]), if_neg, if_neg a5, if_neg, if_pos ⟨a7, c6.2⟩]
    · rfl
    · unfold dots3
      rw [decide_eq_true_eq]
      intro e
      simp at e
      exact a6 (by rw [e.1]; rfl)
    · unfold quotes3
      rw [decide_eq_true_eq]
      intro e
      simp at e
      exact a5 (by rw [e.1]; rfl)
  · rw [if_neg c6] at h; cases h
end Lx
end Go.Proofs.YtonblegbnkfhbaaDoor
