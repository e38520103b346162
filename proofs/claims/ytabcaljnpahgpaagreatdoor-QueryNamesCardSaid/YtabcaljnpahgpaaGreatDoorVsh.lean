/-
  A value's text, plain: what 'Show' puts.
-/
import Derived.Test.YtabcaljnpahgpaaGreatDoorVz
import Derived.Test.YtabcaljnpahgpaaGreatDoorK3
import Derived.Test.YtabcaljnpahgpaaGreatDoorNm
namespace Go.Proofs.YtabcaljnpahgpaaGreatDoor
set_option linter.unusedSimpArgs false
set_option linter.unusedVariables false
namespace Vl
structure Sh where
  out : List UInt8
  bad : Bool
def need (ok : Bool) (s : Sh) : Sh := ⟨s.out, s.bad || !ok⟩
def put (t : List UInt8) (s : Sh) : Sh := ⟨s.out ++ t, s.bad⟩
/-- A text is just one token of a kind. -/
def one (t : List UInt8) (k : Nat) : Bool := match Lx.lex t with
  | .ok [x, _] => decide (x.kind = k) && decide (x.text = t)
  | _ => false
def quoteOf (t : List UInt8) : List UInt8 := if Lx.valid t = true then Lx.quote t else []
/-- What is asked of a value that holds no others, and its text. -/
def leaf (k : Int) (t : List UInt8) : Bool × List UInt8 :=
  if k = 1 then (Lx.isName t, 36 :: t)
  else if k = 2 then (one t 2, t)
  else if k = 3 then (one t 3, t)
  else if k = 4 then (Lx.valid t, quoteOf t)
  else if k = 5 then (decide (t = Rd.sTrue) || decide (t = Rd.sFalse), t)
  else if k = 6 then (decide (t = []), Rd.sNull)
  else (Lx.isName t && (decide (t ≠ Rd.sTrue) && (decide (t ≠ Rd.sFalse) && decide (t ≠ Rd.sNull))), t)
/-- What is asked of a value's parts. -/
def parts (k : Int) (i f : Nat) : Bool := (decide (k = 8) || decide (i = 0)) && (decide (k = 9) || decide (f = 0))
def opn (k : Int) : List UInt8 := if k = 9 then [123] else [91]
def shut (k : Int) : List UInt8 := if k = 9 then [125] else [93]
def sep (first : Bool) (s : Sh) : Sh := if first then s else put [44, 32] s
mutual
def Z.show : Nat → Z → Sh → Sh
  | deep, .mk k t i f _, s =>
    if 1 ≤ k ∧ k ≤ 7 then put (leaf k t).2 (need (leaf k t).1 (need (parts k i.length f.length) s))
    else if k = 8 ∨ k = 9 then
      if (need (decide (t = []) && decide (deep < 16)) (need (parts k i.length f.length) s)).bad = true then need (decide (t = []) && decide (deep < 16)) (need (parts k i.length f.length) s)
      else put (shut k) (ZA.shows (deep + 1) true f (Z.shows (deep + 1) true i (put (opn k) (need (decide (t = []) && decide (deep < 16)) (need (parts k i.length f.length) s)))))
    else need false (need (parts k i.length f.length) s)
def Z.shows : Nat → Bool → List Z → Sh → Sh
  | _, _, [], s => s
  | deep, b, x :: r, s => Z.shows deep false r (Z.show deep x (sep b s))
def ZA.show : Nat → ZA → Sh → Sh
  | deep, .mk n v _, s => Z.show deep v (put (n ++ [58, 32]) (need (Lx.isName n) s))
def ZA.shows : Nat → Bool → List ZA → Sh → Sh
  | _, _, [], s => s
  | deep, b, x :: r, s => ZA.shows deep false r (ZA.show deep x (sep b s))
end
/-- Within a list's, an object's signs. -/
def Z.inner (deep : Nat) (x : Z) (s : Sh) : Sh := put (shut x.kind) (ZA.shows deep true x.fields (Z.shows deep true x.items (put (opn x.kind) s)))
theorem Z.show_leaf {deep : Nat} {x : Z} {s : Sh} (h : 1 ≤ x.kind ∧ x.kind ≤ 7) : x.show deep s = put (leaf x.kind x.text).2 (need (leaf x.kind x.text).1 (need (parts x.kind x.items.length x.fields.length) s)) := by
  cases x; unfold Z.show; exact if_pos h
theorem Z.show_many {deep : Nat} {x : Z} {s : Sh} (h : x.kind = 8 ∨ x.kind = 9) : x.show deep s =
    if (need (decide (x.text = []) && decide (deep < 16)) (need (parts x.kind x.items.length x.fields.length) s)).bad = true then need (decide (x.text = []) && decide (deep < 16)) (need (parts x.kind x.items.length x.fields.length) s)
      else x.inner (deep + 1) (need (decide (x.text = []) && decide (deep < 16)) (need (parts x.kind x.items.length x.fields.length) s)) := by
  cases x with
  | mk k t i f a =>
    have h : k = 8 ∨ k = 9 := h
    unfold Z.show
    rw [if_neg (by omega), if_pos h]
    rfl
theorem Z.show_else {deep : Nat} {x : Z} {s : Sh} (h1 : ¬ (1 ≤ x.kind ∧ x.kind ≤ 7)) (h2 : ¬ (x.kind = 8 ∨ x.kind = 9)) : x.show deep s = need false (need (parts x.kind x.items.length x.fields.length) s) := by
  cases x with
  | mk k t i f a =>
    have h1 : ¬ (1 ≤ k ∧ k ≤ 7) := h1
    have h2 : ¬ (k = 8 ∨ k = 9) := h2
    unfold Z.show
    rw [if_neg h1, if_neg h2]
    rfl
/-- What is put behind the question after a value's parts. -/
def Z.rest (deep : Nat) (x : Z) (s : Sh) : Sh :=
  if 1 ≤ x.kind ∧ x.kind ≤ 7 then put (leaf x.kind x.text).2 (need (leaf x.kind x.text).1 s)
  else if x.kind = 8 ∨ x.kind = 9 then (if (need (decide (x.text = []) && decide (deep < 16)) s).bad = true then need (decide (x.text = []) && decide (deep < 16)) s else x.inner (deep + 1) (need (decide (x.text = []) && decide (deep < 16)) s))
  else need false s
theorem Z.show_rest (deep : Nat) (x : Z) (s : Sh) : x.show deep s = x.rest deep (need (parts x.kind x.items.length x.fields.length) s) := by
  unfold Z.rest
  split
  · rename_i h; exact Z.show_leaf h
  split
  · rename_i h; exact Z.show_many h
  · rename_i h1 h2; exact Z.show_else h1 h2
theorem Z.shows_nil (deep : Nat) (b : Bool) (s : Sh) : Z.shows deep b [] s = s := by rw [Z.shows]
theorem Z.shows_cons (deep : Nat) (b : Bool) (x : Z) (r : List Z) (s : Sh) : Z.shows deep b (x :: r) s = Z.shows deep false r (Z.show deep x (sep b s)) := by rw [Z.shows]
theorem ZA.shows_nil (deep : Nat) (b : Bool) (s : Sh) : ZA.shows deep b [] s = s := by rw [ZA.shows]
theorem ZA.shows_cons (deep : Nat) (b : Bool) (x : ZA) (r : List ZA) (s : Sh) : ZA.shows deep b (x :: r) s = ZA.shows deep false r (ZA.show deep x (sep b s)) := by rw [ZA.shows]
theorem ZA.show_eq (deep : Nat) (x : ZA) (s : Sh) : ZA.show deep x s = Z.show deep x.v (put (x.name ++ [58, 32]) (need (Lx.isName x.name) s)) := by cases x; rw [ZA.show]; rfl
-- How much is put at most.
mutual
def Z.cost : Z → Nat
  | .mk _ t i f _ => 12 + 6 * t.length + Z.costs i + ZA.costs f
def Z.costs : List Z → Nat
  | [] => 0
  | x :: r => 2 + Z.cost x + Z.costs r
def ZA.cost : ZA → Nat
  | .mk n v _ => 2 + n.length + Z.cost v
def ZA.costs : List ZA → Nat
  | [] => 0
  | x :: r => 2 + ZA.cost x + ZA.costs r
end
theorem Z.cost_eq (x : Z) : x.cost = 12 + 6 * x.text.length + Z.costs x.items + ZA.costs x.fields := by cases x; rw [Z.cost]; rfl
theorem ZA.cost_eq (x : ZA) : x.cost = 2 + x.name.length + x.v.cost := by cases x; rw [ZA.cost]; rfl
mutual
theorem Z.n_cost : ∀ x : Z, x.n ≤ x.cost
  | .mk k t i f a => by
    have := Z.ns_costs i
    have := ZA.ns_costs f
    rw [Z.n, Z.cost]; omega
theorem Z.ns_costs : ∀ l : List Z, Z.ns l ≤ Z.costs l
  | [] => by rw [Z.ns, Z.costs]; exact Nat.le_refl _
  | x :: r => by
    have := Z.n_cost x
    have := Z.ns_costs r
    rw [Z.ns, Z.costs]; omega
theorem ZA.n_cost : ∀ x : ZA, x.n ≤ x.cost
  | .mk n v a => by
    have := Z.n_cost v
    rw [ZA.n, ZA.cost]; omega
theorem ZA.ns_costs : ∀ l : List ZA, ZA.ns l ≤ ZA.costs l
  | [] => by rw [ZA.ns, ZA.costs]; exact Nat.le_refl _
  | x :: r => by
    have := ZA.n_cost x
    have := ZA.ns_costs r
    rw [ZA.ns, ZA.costs]; omega
end
theorem leaf_le (k : Int) (t : List UInt8) : (leaf k t).2.length ≤ 6 * t.length + 4 := by
  have := quote_len t
  unfold leaf quoteOf Rd.sNull
  repeat' split
  all_goals (simp only [List.length_cons, List.length_nil]; try omega)
theorem sep_le (b : Bool) (s : Sh) : (sep b s).out.length ≤ s.out.length + 2 := by
  unfold sep put
  split
  · omega
  · rw [List.length_append]; simp
theorem need_out (b : Bool) (s : Sh) : (need b s).out = s.out := rfl
theorem opn_le (k : Int) : (opn k).length = 1 := by unfold opn; split <;> rfl
theorem shut_le (k : Int) : (shut k).length = 1 := by unfold shut; split <;> rfl
theorem put_out (t : List UInt8) (s : Sh) : (put t s).out = s.out ++ t := rfl
mutual
theorem Z.show_le : ∀ (deep : Nat) (x : Z) (s : Sh), (x.show deep s).out.length ≤ s.out.length + x.cost
  | deep, .mk k t i f a, s => by
    by_cases h1 : 1 ≤ k ∧ k ≤ 7
    · have h1' : 1 ≤ (Z.mk k t i f a).kind ∧ (Z.mk k t i f a).kind ≤ 7 := h1
      rw [Z.show_leaf h1', put_out, need_out, need_out, List.length_append, Z.cost]
      have := leaf_le k t
      show s.out.length + (leaf k t).2.length ≤ _
      omega
    · have h1' : ¬ (1 ≤ (Z.mk k t i f a).kind ∧ (Z.mk k t i f a).kind ≤ 7) := h1
      by_cases h2 : k = 8 ∨ k = 9
      · have h2' : (Z.mk k t i f a).kind = 8 ∨ (Z.mk k t i f a).kind = 9 := h2
        rw [Z.show_many h2', Z.cost]
        split
        · rw [need_out, need_out]; omega
        · have g1 := Z.shows_le (deep + 1) true i (put (opn k) (need (decide (t = []) && decide (deep < 16)) (need (parts k i.length f.length) s)))
          have g2 := ZA.shows_le (deep + 1) true f (Z.shows (deep + 1) true i (put (opn k) (need (decide (t = []) && decide (deep < 16)) (need (parts k i.length f.length) s))))
          have g3 := opn_le k
          have g4 := shut_le k
          rw [put_out, need_out, need_out, List.length_append] at g1
          show (put (shut k) (ZA.shows (deep + 1) true f (Z.shows (deep + 1) true i (put (opn k) (need (decide (t = []) && decide (deep < 16)) (need (parts k i.length f.length) s)))))).out.length ≤ _
          rw [put_out, List.length_append]
          omega
      · have h2' : ¬ ((Z.mk k t i f a).kind = 8 ∨ (Z.mk k t i f a).kind = 9) := h2
        rw [Z.show_else h1' h2', need_out, need_out]; omega
theorem Z.shows_le : ∀ (deep : Nat) (b : Bool) (l : List Z) (s : Sh), (Z.shows deep b l s).out.length ≤ s.out.length + Z.costs l
  | deep, b, [], s => by rw [Z.shows_nil]; omega
  | deep, b, x :: r, s => by
    have h1 := Z.shows_le deep false r (Z.show deep x (sep b s))
    have h2 := Z.show_le deep x (sep b s)
    have h3 := sep_le b s
    rw [Z.shows_cons, Z.costs]; omega
theorem ZA.show_le : ∀ (deep : Nat) (x : ZA) (s : Sh), (x.show deep s).out.length ≤ s.out.length + x.cost
  | deep, .mk n v a, s => by
    have h1 := Z.show_le deep v (put (n ++ [58, 32]) (need (Lx.isName n) s))
    rw [put_out, need_out] at h1
    simp only [List.length_append, List.length_cons, List.length_nil] at h1
    rw [ZA.show, ZA.cost]; omega
theorem ZA.shows_le : ∀ (deep : Nat) (b : Bool) (l : List ZA) (s : Sh), (ZA.shows deep b l s).out.length ≤ s.out.length + ZA.costs l
  | deep, b, [], s => by rw [ZA.shows_nil]; omega
  | deep, b, x :: r, s => by
    have h1 := ZA.shows_le deep false r (ZA.show deep x (sep b s))
    have h2 := ZA.show_le deep x (sep b s)
    have h3 := sep_le b s
    rw [ZA.shows_cons, ZA.costs]; omega
end
end Vl
end Go.Proofs.YtabcaljnpahgpaaGreatDoor
