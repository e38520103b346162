/-
  Problems, in order and each once: plainly.
-/
namespace Go.Proofs.YtmgoebfcfgilfaaGreatDoor
set_option linter.unusedSimpArgs false
set_option linter.unusedVariables false
namespace Cp
/-- A problem: its rule, its place. -/
abbrev Pb := Int × Int
def lt (p q : Pb) : Bool := decide (p.2 < q.2) || (decide (p.2 = q.2) && decide (p.1 < q.1))
theorem lt_iff (p q : Pb) : lt p q = true ↔ p.2 < q.2 ∨ (p.2 = q.2 ∧ p.1 < q.1) := by simp [lt]
theorem lt_irrefl (p : Pb) : lt p p = false := by
  rw [← Bool.not_eq_true, lt_iff]; omega
theorem lt_trans {p q r : Pb} (h : lt p q = true) (h' : lt q r = true) : lt p r = true := by
  rw [lt_iff] at *; omega
theorem lt_total (p q : Pb) : lt p q = true ∨ p = q ∨ lt q p = true := by
  rw [lt_iff, lt_iff, Prod.ext_iff]; omega
theorem lt_asymm {p q : Pb} (h : lt p q = true) : lt q p = false := by
  rw [← Bool.not_eq_true]; intro h'; have := lt_trans h h'; rw [lt_irrefl] at this; cases this

/-- One more behind all that are less. -/
def ins (p : Pb) : List Pb → List Pb
  | [] => [p]
  | x :: r => if lt p x then p :: x :: r else x :: ins p r
def put (l : List Pb) (p : Pb) : List Pb := if p ∈ l then l else ins p l
def sorted (l : List Pb) : List Pb := l.foldl put []
/-- Of equal neighbours the first alone. -/
def comp : List Pb → List Pb
  | [] => []
  | [x] => [x]
  | x :: y :: r => if x = y then comp (y :: r) else x :: comp (y :: r)

def Str (l : List Pb) : Prop := l.Pairwise fun x y => lt x y = true
theorem mem_ins (p x : Pb) : ∀ l, x ∈ ins p l ↔ x = p ∨ x ∈ l
  | [] => by simp [ins]
  | y :: r => by
    unfold ins
    split
    · simp
    · simp [mem_ins p x r]; grind
theorem str_ins (p : Pb) : ∀ l, Str l → p ∉ l → Str (ins p l)
  | [], _, _ => by simp [ins, Str]
  | y :: r, h, hn => by
    have h' := List.pairwise_cons.1 h
    unfold ins
    split
    · rename_i hl
      exact List.pairwise_cons.2 ⟨fun z hz => by
        rcases List.mem_cons.1 hz with rfl | hz
        · exact hl
        · exact lt_trans hl (h'.1 z hz), h⟩
    · rename_i hl
      refine List.pairwise_cons.2 ⟨fun z hz => ?_, str_ins p r h'.2 (fun hm => hn (List.mem_cons_of_mem _ hm))⟩
      rcases (mem_ins p z r).1 hz with rfl | hz
      · rcases lt_total y z with h1 | h1 | h1
        · exact h1
        · exact absurd (h1 ▸ List.mem_cons_self) hn
        · exact absurd h1 hl
      · exact h'.1 z hz
theorem mem_put (l : List Pb) (p x : Pb) : x ∈ put l p ↔ x ∈ l ∨ x = p := by
  unfold put
  split
  · rename_i h; exact ⟨.inl, fun h' => h'.elim id (fun e => e ▸ h)⟩
  · rw [mem_ins]; exact or_comm
theorem str_put (l : List Pb) (p : Pb) (h : Str l) : Str (put l p) := by
  unfold put
  split
  · exact h
  · rename_i hn; exact str_ins p l h hn
theorem foldl_put (l : List Pb) : ∀ acc, Str acc → Str (l.foldl put acc) ∧ ∀ x, x ∈ l.foldl put acc ↔ x ∈ acc ∨ x ∈ l := by
  induction l with
  | nil => intro acc h; exact ⟨h, fun x => by simp⟩
  | cons y r ih =>
    intro acc h
    have := ih (put acc y) (str_put acc y h)
    refine ⟨this.1, fun x => ?_⟩
    rw [List.foldl_cons, this.2, mem_put, List.mem_cons, or_assoc]
theorem str_sorted (l : List Pb) : Str (sorted l) := (foldl_put l [] List.Pairwise.nil).1
theorem mem_sorted (l : List Pb) (x : Pb) : x ∈ sorted l ↔ x ∈ l := by
  rw [sorted, (foldl_put l [] List.Pairwise.nil).2]; simp

theorem mem_comp : ∀ (l : List Pb) (x : Pb), x ∈ comp l ↔ x ∈ l
  | [], _ => by simp [comp]
  | [y], _ => by simp [comp]
  | y :: z :: r, x => by
    unfold comp
    have ih := mem_comp (z :: r) x
    split
    · rename_i e
      rw [ih, e]
      simp
    · rw [List.mem_cons, ih, List.mem_cons (a := x) (b := y)]
theorem str_comp : ∀ l : List Pb, (l.Pairwise fun x y => lt y x = false) → Str (comp l)
  | [], _ => by simp [comp, Str]
  | [y], _ => by simp [comp, Str]
  | y :: z :: r, h => by
    have h' := List.pairwise_cons.1 h
    have ih := str_comp (z :: r) h'.2
    unfold comp
    split
    · exact ih
    · rename_i hn
      have hz := List.pairwise_cons.1 h'.2
      have hyz : lt y z = true := by
        rcases lt_total y z with h1 | h1 | h1
        · exact h1
        · exact absurd h1 hn
        · rw [h'.1 z List.mem_cons_self] at h1; cases h1
      refine List.pairwise_cons.2 ⟨fun x hx => ?_, ih⟩
      have hx := (mem_comp _ _).1 hx
      rcases List.mem_cons.1 hx with rfl | hx
      · exact hyz
      · rcases lt_total z x with h1 | h1 | h1
        · exact lt_trans hyz h1
        · exact h1 ▸ hyz
        · rw [hz.1 x hx] at h1; cases h1
theorem str_unique : ∀ a b : List Pb, Str a → Str b → (∀ x, x ∈ a ↔ x ∈ b) → a = b
  | [], [], _, _, _ => rfl
  | [], y :: r, _, _, h => by have := (h y).2 List.mem_cons_self; cases this
  | y :: r, [], _, _, h => by have := (h y).1 List.mem_cons_self; cases this
  | x :: r, y :: s, ha, hb, h => by
    have ha' := List.pairwise_cons.1 ha
    have hb' := List.pairwise_cons.1 hb
    have exy : x = y := by
      rcases List.mem_cons.1 ((h x).1 List.mem_cons_self) with e | hx
      · exact e
      · rcases List.mem_cons.1 ((h y).2 List.mem_cons_self) with e | hy
        · exact e.symm
        · have h1 := ha'.1 y hy
          have h2 := hb'.1 x hx
          rw [lt_asymm h1] at h2; cases h2
    subst exy
    rw [str_unique r s ha'.2 hb'.2 fun z => ?_]
    constructor
    · intro hz
      rcases List.mem_cons.1 ((h z).1 (List.mem_cons_of_mem _ hz)) with e | hz'
      · have := ha'.1 z hz; rw [e, lt_irrefl] at this; cases this
      · exact hz'
    · intro hz
      rcases List.mem_cons.1 ((h z).2 (List.mem_cons_of_mem _ hz)) with e | hz'
      · have := hb'.1 z hz; rw [e, lt_irrefl] at this; cases this
      · exact hz'
/-- Sorted in any way, and each once: the document's order. -/
theorem comp_sorted (l d : List Pb) (hm : ∀ x, x ∈ d ↔ x ∈ l) (hs : d.Pairwise fun x y => lt y x = false) : comp d = sorted l :=
  str_unique _ _ (str_comp d hs) (str_sorted l) fun x => by rw [mem_comp, hm, mem_sorted]

/-- One behind those that are gone through. -/
theorem comp_snoc : ∀ (l : List Pb) (x : Pb), comp (l ++ [x]) = if l.getLast? = some x then comp l else comp l ++ [x]
  | [], x => by simp [comp]
  | [y], x => by
    by_cases e : y = x
    · simp [comp, e]
    · simp [comp, e]
  | y :: z :: r, x => by
    have ih := comp_snoc (z :: r) x
    have hl : (y :: z :: r).getLast? = (z :: r).getLast? := by simp [List.getLast?_cons]
    rw [hl, List.cons_append]
    show comp (y :: (z :: r ++ [x])) = _
    have e1 : comp (y :: (z :: r ++ [x])) = if y = z then comp (z :: r ++ [x]) else y :: comp (z :: r ++ [x]) := rfl
    have e2 : comp (y :: z :: r) = if y = z then comp (z :: r) else y :: comp (z :: r) := rfl
    rw [e1, e2, ih]
    by_cases e : y = z
    · simp only [if_pos e]
    · simp only [if_neg e]
      split
      · rfl
      · rfl
/-- Without equal neighbours nothing is left out. -/
theorem comp_same : ∀ l : List Pb, (∀ (i : Nat) x y, l[i]? = some x → l[i + 1]? = some y → x ≠ y) → comp l = l
  | [], _ => rfl
  | [y], _ => rfl
  | y :: z :: r, h => by
    unfold comp
    rw [if_neg (h 0 y z rfl rfl), comp_same (z :: r) fun i a b ha hb => h (i + 1) a b (by simpa using ha) (by simpa using hb)]
end Cp
end Go.Proofs.YtmgoebfcfgilfaaGreatDoor
