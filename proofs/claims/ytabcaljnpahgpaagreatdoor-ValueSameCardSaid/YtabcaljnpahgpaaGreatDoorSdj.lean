/-
  The reader on tokens that go on behind an end: it reads the same (no program in sight).
-/
import Derived.Test.YtabcaljnpahgpaaGreatDoorK5
import Derived.Test.YtabcaljnpahgpaaGreatDoorLxj
namespace Go.Proofs.YtabcaljnpahgpaaGreatDoor
set_option linter.unusedSimpArgs false
set_option linter.unusedVariables false
namespace Rd
open Lx (Tok)
def ktx (t : Tok) : Nat × List UInt8 := (t.kind, t.text)
mutual
def V.un : V → V
  | .mk k t i f _ => .mk k t (V.uns i) (A.uns f) 0
def V.uns : List V → List V
  | [] => []
  | x :: r => x.un :: V.uns r
def A.un : A → A
  | .mk n v _ => .mk n v.un 0
def A.uns : List A → List A
  | [] => []
  | x :: r => x.un :: A.uns r
end
theorem V.uns_map : ∀ l : List V, V.uns l = l.map V.un
  | [] => by unfold V.uns; rfl
  | x :: r => by unfold V.uns; rw [V.uns_map r]; rfl
theorem A.uns_map : ∀ l : List A, A.uns l = l.map A.un
  | [] => by unfold A.uns; rfl
  | x :: r => by unfold A.uns; rw [A.uns_map r]; rfl
/-- What may stand at the other's end. -/
def HdOk (us : List Tok) : Prop := ∃ h r, us = h :: r ∧ h.kind ≠ 5 ∧ (h.kind = 1 → h.text ≠ Sd.sImpl)
/-- The one state is at the end of its tokens behind m of them, the other has others there. -/
def J (e : Tok) (us : List Tok) (m : Nat) (s1 s2 : St) : Prop :=
  ∃ a a' : List Tok, a.length = m ∧ a.map ktx = a'.map ktx ∧ s1.rest = a ++ [e] ∧ s2.rest = a' ++ us ∧ s1.deep = s2.deep ∧ s1.err = 0 ∧ s2.err = 0 ∧ ∀ t ∈ a, t.kind ≠ 0
section
variable {e : Tok} {us : List Tok} {m : Nat} {s1 s2 : St}
theorem J.e1 (h : J e us m s1 s2) : s1.err = 0 := by obtain ⟨a, a', h1, h2, h3, h4, h5, h6, h7, h8⟩ := h; exact h6
theorem J.e2 (h : J e us m s1 s2) : s2.err = 0 := by obtain ⟨a, a', h1, h2, h3, h4, h5, h6, h7, h8⟩ := h; exact h7
theorem J.deep (h : J e us m s1 s2) : s1.deep = s2.deep := by obtain ⟨a, a', h1, h2, h3, h4, h5, h6, h7, h8⟩ := h; exact h5
theorem J.len (h : J e us m s1 s2) : s1.rest.length = m + 1 ∧ m ≤ s2.rest.length := by
  obtain ⟨a, a', h1, h2, h3, h4, -⟩ := h
  have := congrArg List.length h2
  rw [List.length_map, List.length_map] at this
  rw [h3, h4, List.length_append, List.length_append]
  exact ⟨by simp; exact h1, by omega⟩
theorem J.setDeep (h : J e us m s1 s2) {d1 d2 : Int} (hd : d1 = d2) : J e us m { s1 with deep := d1 } { s2 with deep := d2 } := by
  obtain ⟨a, a', h1, h2, h3, h4, h5, h6, h7, h8⟩ := h
  exact ⟨a, a', h1, h2, h3, h4, hd, h6, h7, h8⟩
theorem J.zero (h : J e us 0 s1 s2) (hu : HdOk us) : peek s1 = e ∧ ∃ x r, us = x :: r ∧ x.kind ≠ 5 ∧ (x.kind = 1 → x.text ≠ Sd.sImpl) ∧ peek s2 = x := by
  obtain ⟨a, a', h1, h2, h3, h4, -⟩ := h
  obtain rfl := List.eq_nil_of_length_eq_zero h1
  have : a' = [] := by cases a' with
    | nil => rfl
    | cons _ _ => simp at h2
  subst this
  obtain ⟨x, r, rfl, hx⟩ := hu
  refine ⟨by unfold peek; rw [h3]; rfl, x, r, rfl, hx.1, hx.2, by unfold peek; rw [h4]; rfl⟩
theorem J.peek (h : J e us (m + 1) s1 s2) : (peek s1).kind = (peek s2).kind ∧ (peek s1).text = (peek s2).text := by
  obtain ⟨a, a', h1, h2, h3, h4, -⟩ := h
  cases a with
  | nil => simp at h1
  | cons x a => cases a' with
    | nil => simp at h2
    | cons y a' =>
      simp only [List.map_cons, List.cons.injEq, ktx, Prod.mk.injEq] at h2
      unfold Rd.peek
      rw [h3, h4]
      exact h2.1
theorem J.next (h : J e us (m + 1) s1 s2) (hk : (Rd.peek s1).kind ≠ 0) : J e us m (next s1) (next s2) := by
  have hp := h.peek
  obtain ⟨a, a', h1, h2, h3, h4, h5, h6, h7, h8⟩ := h
  unfold Rd.next
  rw [if_pos ⟨h6, hk⟩, if_pos ⟨h7, by rw [← hp.1]; exact hk⟩]
  cases a with
  | nil => simp at h1
  | cons x a => cases a' with
    | nil => simp at h2
    | cons y a' =>
      simp only [List.map_cons, List.cons.injEq] at h2
      exact ⟨a, a', by simpa using h1, h2.2, by show s1.rest.drop 1 = _; rw [h3]; rfl, by show s2.rest.drop 1 = _; rw [h4]; rfl, h5, h6, h7, fun t ht => h8 t (List.mem_cons_of_mem _ ht)⟩
theorem J.isS (h : J e us m s1 s2) (he : e.kind = 0) (hu : HdOk us) (c : List UInt8) : Rd.isS s1 c = Rd.isS s2 c := by
  cases m with
  | zero =>
    obtain ⟨p1, x, r, -, h5, -, p2⟩ := h.zero hu
    unfold Rd.isS
    rw [p1, p2, he]
    simp [h5]
  | succ m =>
    unfold Rd.isS
    rw [h.e1, h.e2, h.peek.1, h.peek.2]
theorem J.isW (h : J e us (m + 1) s1 s2) (ws : List (List UInt8)) : Rd.isW s1 ws = Rd.isW s2 ws := by
  unfold Rd.isW Rd.isN
  rw [h.e1, h.e2, h.peek.1, h.peek.2]
theorem J.isN (h : J e us (m + 1) s1 s2) : Rd.isN s1 = Rd.isN s2 := by
  unfold Rd.isN
  rw [h.e1, h.e2, h.peek.1]
theorem J.sign (h : J e us m s1 s2) (he : e.kind = 0) (hu : HdOk us) {c : List UInt8} (hs : Rd.isS s1 c = true) : ∃ k, m = k + 1 ∧ J e us k (Rd.next s1) (Rd.next s2) := by
  cases m with
  | zero =>
    obtain ⟨p1, -⟩ := h.zero hu
    have := isS_parts hs
    rw [p1, he] at this
    omega
  | succ m =>
    have := isS_parts hs
    exact ⟨m, rfl, h.next (by omega)⟩
theorem J.name (h : J e us m s1 s2) (he : e.kind = 0) (hu : HdOk us) (hz : (Rd.name s1).1.err = 0) : ∃ k, m = k + 1 ∧ J e us k (Rd.name s1).1 (Rd.name s2).1 ∧ (Rd.name s1).2 = (Rd.name s2).2 := by
  cases m with
  | zero =>
    obtain ⟨p1, -⟩ := h.zero hu
    unfold Rd.name Rd.isN at hz
    rw [p1, he] at hz
    simp at hz
    exact absurd hz wrong_bad
  | succ m =>
    unfold Rd.name at hz ⊢
    rw [← h.isN]
    split
    · rename_i hn
      have := isN_parts hn
      exact ⟨m, rfl, h.next (by omega), h.peek.2⟩
    · rename_i hn
      rw [if_neg hn] at hz
      exact absurd hz wrong_bad
theorem J.want (h : J e us m s1 s2) (he : e.kind = 0) (hu : HdOk us) {c : List UInt8} (hz : (Rd.want c s1).err = 0) : ∃ k, m = k + 1 ∧ J e us k (Rd.want c s1) (Rd.want c s2) := by
  unfold Rd.want at hz ⊢
  rw [← h.isS he hu]
  split
  · rename_i hs; exact h.sign he hu hs
  · rename_i hs; rw [if_neg hs] at hz; exact absurd hz wrong_bad
theorem J.take (h : J e us m s1 s2) (he : e.kind = 0) (hu : HdOk us) (c : List UInt8) : ∃ k, k ≤ m ∧ J e us k (Rd.take c s1) (Rd.take c s2) := by
  unfold Rd.take
  rw [← h.isS he hu]
  split
  · rename_i hs
    obtain ⟨k, hk, hj⟩ := h.sign he hu hs
    exact ⟨k, by omega, hj⟩
  · exact ⟨m, Nat.le_refl _, h⟩
theorem J.down (h : J e us m s1 s2) (he : e.kind = 0) (hu : HdOk us) {c : List UInt8} (hz : (Rd.down c s1).err = 0) : ∃ k, m = k + 1 ∧ J e us k (Rd.down c s1) (Rd.down c s2) := by
  unfold Rd.down at hz ⊢
  dsimp only at hz ⊢
  rw [← h.isS he hu, ← h.deep]
  by_cases hd : Rd.isS s1 c = true ∧ s1.deep = 16
  · rw [if_pos hd] at hz
    have hb : (fail 42 s1).err ≠ 0 := by unfold fail; rw [if_pos h.e1]; simp
    have := (ok_want c (fail 42 s1)).err hb
    rw [this] at hz
    exact absurd hz hb
  · rw [if_neg hd, if_neg hd] at *
    obtain ⟨k, hk, hj⟩ := h.want he hu hz
    exact ⟨k, hk, hj.setDeep (by rw [hj.deep])⟩
theorem J.up (h : J e us m s1 s2) (he : e.kind = 0) (hu : HdOk us) {c : List UInt8} (hz : (Rd.up c s1).err = 0) : ∃ k, m = k + 1 ∧ J e us k (Rd.up c s1) (Rd.up c s2) := by
  obtain ⟨k, hk, hj⟩ := h.want he hu (c := c) hz
  exact ⟨k, hk, hj.setDeep (by rw [hj.deep])⟩
end
/-- A reading function on both: what it reads is the same to u. -/
def JF {α β : Type} (e : Tok) (us : List Tok) (f1 f2 : St → St × α) (u : α → β) (m : Nat) : Prop :=
  ∀ s1 s2, J e us m s1 s2 → (f1 s1).1.err = 0 → ∃ k, k < m ∧ J e us k (f1 s1).1 (f2 s2).1 ∧ u (f1 s1).2 = u (f2 s2).2
section
variable {e : Tok} {us : List Tok}
theorem err_back {a b : St} (h : Ok a b) (hb : b.err = 0) : a.err = 0 := by
  by_cases h0 : a.err = 0
  · exact h0
  · have := h.err h0; rw [this] at hb; exact absurd hb h0
theorem loop_j {α β : Type} (he : e.kind = 0) (hu : HdOk us) (c : List UInt8) {f1 f2 : St → St × α} (u : α → β) (ho : ∀ s, Ok s (f1 s).1) {M : Nat} (hf : ∀ m, m ≤ M → JF e us f1 f2 u m) :
    ∀ (n1 n2 m : Nat) (s1 s2 : St) (o1 o2 : List α), m ≤ M → J e us m s1 s2 → o1.map u = o2.map u → m < n1 → m < n2 → (loop c f1 n1 s1 o1).1.err = 0 →
      ∃ k, k ≤ m ∧ J e us k (loop c f1 n1 s1 o1).1 (loop c f2 n2 s2 o2).1 ∧ (loop c f1 n1 s1 o1).2.map u = (loop c f2 n2 s2 o2).2.map u
  | 0, _, _, _, _, _, _, _, _, _, h, _, _ => by omega
  | _ + 1, 0, _, _, _, _, _, _, _, _, _, h, _ => by omega
  | n1 + 1, n2 + 1, m, s1, s2, o1, o2, hm, hj, hoo, h1, h2, hz => by
    unfold loop at hz ⊢
    rw [hj.e1, hj.e2, ← hj.isS he hu]
    rw [hj.e1] at hz
    by_cases hs : isS s1 c = false
    · rw [if_pos ⟨rfl, hs⟩] at hz
      rw [if_pos ⟨rfl, hs⟩, if_pos ⟨rfl, hs⟩]
      have hz1 := err_back (ok_loop c f1 ho n1 _ _) hz
      obtain ⟨k, hk, hj2, hu2⟩ := hf m hm s1 s2 hj hz1
      obtain ⟨k2, hk2, hj3, hu3⟩ := loop_j he hu c u ho hf n1 n2 k _ _ (o1 ++ [(f1 s1).2]) (o2 ++ [(f2 s2).2]) (by omega) hj2 (by rw [List.map_append, List.map_append, hoo]; simp [hu2]) (by omega) (by omega) hz
      exact ⟨k2, by omega, hj3, hu3⟩
    · rw [if_neg (fun x => hs x.2), if_neg (fun x => hs x.2)]
      exact ⟨m, Nat.le_refl _, hj, hoo⟩
theorem loop1_j {α β : Type} (he : e.kind = 0) (hu : HdOk us) (c : List UInt8) {f1 f2 : St → St × α} (u : α → β) (ho : ∀ s, Ok s (f1 s).1) {M : Nat} (hf : ∀ m, m ≤ M → JF e us f1 f2 u m)
    {n1 n2 m : Nat} {s1 s2 : St} (hm : m ≤ M) (hj : J e us m s1 s2) (h1 : m < n1) (h2 : m < n2) (hz : (loop1 c f1 n1 s1).1.err = 0) :
      ∃ k, k < m ∧ J e us k (loop1 c f1 n1 s1).1 (loop1 c f2 n2 s2).1 ∧ (loop1 c f1 n1 s1).2.map u = (loop1 c f2 n2 s2).2.map u := by
  unfold loop1 at hz ⊢
  have hz1 := err_back (ok_loop c f1 ho n1 _ _) hz
  obtain ⟨k, hk, hj2, hu2⟩ := hf m hm s1 s2 hj hz1
  obtain ⟨k2, hk2, hj3, hu3⟩ := loop_j he hu c u ho hf n1 n2 k _ _ [(f1 s1).2] [(f2 s2).2] (by omega) hj2 (by simp [hu2]) (by omega) (by omega) hz
  exact ⟨k2, by omega, hj3, hu3⟩
theorem argOf_j (he : e.kind = 0) (hu : HdOk us) {f1 f2 : St → St × V} (ho : ∀ s, Ok s (f1 s).1) {m : Nat} (hf : ∀ k, k < m → JF e us f1 f2 V.un k) : JF e us (argOf f1) (argOf f2) A.un m := by
  intro s1 s2 hj hz
  have z2 : (want colon (name s1).1).err = 0 := err_back (ho _) hz
  have z1 : (name s1).1.err = 0 := err_back (ok_want colon _) z2
  obtain ⟨k, rfl, hj1, hn⟩ := hj.name he hu z1
  obtain ⟨k, rfl, hj2⟩ := hj1.want he hu z2
  obtain ⟨k2, hk2, hj3, hv⟩ := hf k (by omega) _ _ hj2 hz
  refine ⟨k2, by omega, hj3, ?_⟩
  show A.un (.mk (name s1).2 (f1 (want colon (name s1).1)).2 _) = A.un (.mk (name s2).2 (f2 (want colon (name s2).1)).2 _)
  unfold A.un
  rw [hn, hv]
theorem value_j (he : e.kind = 0) (hu : HdOk us) (fixed : Bool) : ∀ (M m n1 n2 : Nat), m ≤ M → m < n1 → m < n2 → JF e us (value fixed n1) (value fixed n2) V.un m
  | M, m, 0, _, _, h, _ => by omega
  | M, m, _ + 1, 0, _, _, h => by omega
  | 0, m, n1 + 1, n2 + 1, hm, h1, h2 => by
    obtain rfl : m = 0 := by omega
    intro s1 s2 hj hz
    exfalso
    obtain ⟨p1, -⟩ := hj.zero hu
    have hS : ∀ c, isS s1 c = false := fun c => by unfold isS; rw [p1, he]; simp
    have hN : isN s1 = false := by unfold isN; rw [p1, he]; simp
    have hW : ∀ ws, isW s1 ws = false := fun ws => by unfold isW; rw [hN]; rfl
    unfold value at hz
    dsimp only at hz
    rw [hS, hS, hS, hW, hW, hN, p1, he] at hz
    simp at hz
    exact absurd hz wrong_bad
  | M + 1, m, n1 + 1, n2 + 1, hm, h1, h2 => by
    intro s1 s2 hj hz
    cases m with
    | zero => exact value_j he hu fixed 0 0 (n1 + 1) (n2 + 1) (Nat.le_refl _) (by omega) (by omega) s1 s2 hj hz
    | succ m =>
    have ih : ∀ k, k ≤ m → JF e us (value fixed n1) (value fixed n2) V.un k := fun k hk => value_j he hu fixed M k n1 n2 (by omega) (by omega) (by omega)
    have hp := hj.peek
    have nk : ∀ (k : Nat) (t1 t2 : List UInt8), t1 = t2 → (peek s1).kind ≠ 0 → ∃ j, j < m + 1 ∧ J e us j (next s1) (next s2) ∧ V.un (.mk k t1 [] [] (peek s1).at_) = V.un (.mk k t2 [] [] (peek s2).at_) := fun k t1 t2 ht hk => ⟨m, by omega, hj.next hk, by rw [ht]; unfold V.un; rfl⟩
    unfold value at hz ⊢
    dsimp only at hz ⊢
    rw [← hj.isS he hu, ← hj.isS he hu, ← hj.isS he hu, ← hj.isW, ← hj.isW, ← hj.isN, ← hp.1, ← hp.2]
    by_cases c1 : isS s1 dollar = true
    · rw [if_pos c1] at hz
      rw [if_pos c1, if_pos c1]
      cases fixed with
      | true =>
        have hb : (wrong s1).err ≠ 0 := wrong_bad
        simp only [if_true] at hz
        rw [next_err hb, name_err hb] at hz
        exact absurd hz hb
      | false =>
        simp only [Bool.false_eq_true, if_false] at hz ⊢
        obtain ⟨k, hk, hj2⟩ := hj.sign he hu c1
        obtain ⟨k2, rfl, hj3, ht⟩ := hj2.name he hu hz
        exact ⟨k2, by omega, hj3, by rw [ht]; unfold V.un; rfl⟩
    rw [if_neg c1] at hz
    rw [if_neg c1, if_neg c1]
    by_cases c2 : isS s1 lbrk = true
    · rw [if_pos c2] at hz
      rw [if_pos c2, if_pos c2]
      have z2 := err_back (ok_want rbrk _) (show (want rbrk _).err = 0 from hz)
      have z1 := err_back (ok_loop rbrk _ (ok_value fixed n1) _ _ _) z2
      obtain ⟨k, hk, hj2⟩ := hj.down he hu z1
      obtain ⟨k2, hk2, hj3, hl⟩ := loop_j he hu rbrk V.un (ok_value fixed n1) ih ((down lbrk s1).rest.length + 1) ((down lbrk s2).rest.length + 1) k _ _ [] [] (by omega) hj2 rfl (by have := hj2.len; omega) (by have := hj2.len; omega) z2
      obtain ⟨k3, hk3, hj4⟩ := hj3.up he hu hz
      exact ⟨k3, by omega, hj4, by unfold V.un; rw [V.uns_map, V.uns_map, hl]⟩
    rw [if_neg c2] at hz
    rw [if_neg c2, if_neg c2]
    by_cases c3 : isS s1 lbrc = true
    · rw [if_pos c3] at hz
      rw [if_pos c3, if_pos c3]
      have z2 := err_back (ok_want rbrc _) (show (want rbrc _).err = 0 from hz)
      have z1 := err_back (ok_loop rbrc _ (ok_argOf _ (ok_value fixed n1)) _ _ _) z2
      obtain ⟨k, hk, hj2⟩ := hj.down he hu z1
      obtain ⟨k2, hk2, hj3, hl⟩ := loop_j he hu rbrc A.un (ok_argOf _ (ok_value fixed n1)) (M := m) (fun q hq => argOf_j he hu (ok_value fixed n1) (fun k hk => ih k (by omega))) ((down lbrc s1).rest.length + 1) ((down lbrc s2).rest.length + 1) k _ _ [] [] (by omega) hj2 rfl (by have := hj2.len; omega) (by have := hj2.len; omega) z2
      obtain ⟨k3, hk3, hj4⟩ := hj3.up he hu hz
      exact ⟨k3, by omega, hj4, by unfold V.un; rw [A.uns_map, A.uns_map, hl]⟩
    rw [if_neg c3] at hz
    rw [if_neg c3, if_neg c3]
    by_cases c4 : (peek s1).kind = 2
    · rw [if_pos c4, if_pos c4]; exact nk 2 _ _ rfl (by omega)
    rw [if_neg c4] at hz
    rw [if_neg c4, if_neg c4]
    by_cases c5 : (peek s1).kind = 3
    · rw [if_pos c5, if_pos c5]; exact nk 3 _ _ rfl (by omega)
    rw [if_neg c5] at hz
    rw [if_neg c5, if_neg c5]
    by_cases c6 : (peek s1).kind = 4
    · rw [if_pos c6, if_pos c6]; exact nk 4 _ _ rfl (by omega)
    rw [if_neg c6] at hz
    rw [if_neg c6, if_neg c6]
    by_cases c7 : isW s1 [sNull] = true
    · rw [if_pos c7, if_pos c7]; exact nk 6 _ _ rfl (by have := isW_parts c7; omega)
    rw [if_neg c7] at hz
    rw [if_neg c7, if_neg c7]
    by_cases c8 : isW s1 [sTrue, sFalse] = true
    · rw [if_pos c8, if_pos c8]; exact nk 5 _ _ rfl (by have := isW_parts c8; omega)
    rw [if_neg c8] at hz
    rw [if_neg c8, if_neg c8]
    by_cases c9 : isN s1 = true
    · rw [if_pos c9, if_pos c9]; exact nk 7 _ _ rfl (by have := isN_parts c9; omega)
    rw [if_neg c9] at hz
    exact absurd hz wrong_bad
theorem type_j (he : e.kind = 0) (hu : HdOk us) : ∀ (m n1 n2 : Nat), m < n1 → m < n2 → JF e us (type n1) (type n2) id m
  | m, 0, _, h, _ => by omega
  | m, _ + 1, 0, _, h => by omega
  | m, n1 + 1, n2 + 1, h1, h2 => by
    intro s1 s2 hj hz
    have hz' : (bangOf (typeCore (type n1) s1)).1.err = 0 := hz
    have z1 := err_back (ok_bang _) hz'
    have hc : ∃ k, k < m ∧ J e us k (typeCore (type n1) s1).1 (typeCore (type n2) s2).1 ∧ (typeCore (type n1) s1).2 = (typeCore (type n2) s2).2 := by
      unfold typeCore at z1 ⊢
      rw [← hj.isS he hu]
      by_cases c1 : isS s1 lbrk = true
      · rw [if_pos c1] at z1
        rw [if_pos c1, if_pos c1]
        have z2 := err_back (ok_want rbrk _) (show (want rbrk _).err = 0 from z1)
        have z3 := err_back (ok_type n1 _) z2
        obtain ⟨k, rfl, hj2⟩ := hj.down he hu z3
        obtain ⟨k2, hk2, hj3, ht⟩ := type_j he hu k n1 n2 (by omega) (by omega) _ _ hj2 z2
        obtain ⟨k3, rfl, hj4⟩ := hj3.up he hu z1
        have ht' : (type n1 (down lbrk s1)).2 = (type n2 (down lbrk s2)).2 := ht
        exact ⟨k3, by omega, hj4, by show lbrk ++ _ ++ rbrk = lbrk ++ _ ++ rbrk; rw [ht']⟩
      · rw [if_neg c1] at z1
        rw [if_neg c1, if_neg c1]
        obtain ⟨k, rfl, hj2, ht⟩ := hj.name he hu z1
        exact ⟨k, by omega, hj2, ht⟩
    obtain ⟨k, hk, hj2, ht⟩ := hc
    show ∃ k, k < m ∧ J e us k (bangOf (typeCore (type n1) s1)).1 (bangOf (typeCore (type n2) s2)).1 ∧ (bangOf (typeCore (type n1) s1)).2 = (bangOf (typeCore (type n2) s2)).2
    unfold bangOf
    rw [← hj2.isS he hu]
    split
    · rename_i hs
      obtain ⟨k2, rfl, hj3⟩ := hj2.sign he hu hs
      exact ⟨k2, by omega, hj3, by rw [ht]⟩
    · exact ⟨k, hk, hj2, ht⟩
end
end Rd
namespace Sd
open Rd
open Lx (Tok)
def In.un (x : In) : In := { x with dflt := x.dflt.un, at_ := 0 }
def Fd.un (x : Fd) : Fd := { x with args := x.args.map In.un, at_ := 0 }
def Td.un (x : Td) : Td := { x with fields := x.fields.map Fd.un, inputs := x.inputs.map In.un, at_ := 0 }
section
variable {e : Tok} {us : List Tok}
/-- A string, and a name. -/
theorem told_name_j (he : e.kind = 0) (hu : HdOk us) {m : Nat} {s1 s2 : St} (h : J e us m s1 s2) (hz : (name (told s1)).1.err = 0) :
    ∃ k, k < m ∧ J e us k (name (told s1)).1 (name (told s2)).1 ∧ (name (told s1)).2 = (name (told s2)).2 := by
  cases m with
  | zero =>
    obtain ⟨p1, -⟩ := h.zero hu
    exfalso
    unfold told at hz
    rw [p1, he, if_neg (by decide)] at hz
    obtain ⟨k, hk, -⟩ := h.name he hu hz
    omega
  | succ m =>
    unfold told at hz ⊢
    rw [← h.peek.1]
    split
    · rename_i hk
      rw [if_pos hk] at hz
      obtain ⟨k, rfl, hj, ht⟩ := (h.next (by omega)).name he hu hz
      exact ⟨k, by omega, hj, ht⟩
    · rename_i hk
      rw [if_neg hk] at hz
      obtain ⟨k, hk, hj, ht⟩ := h.name he hu hz
      exact ⟨k, by omega, hj, ht⟩
theorem dflt_j (he : e.kind = 0) (hu : HdOk us) {m n1 n2 : Nat} {s1 s2 : St} (h1 : m < n1) (h2 : m < n2) (h : J e us m s1 s2) (hz : (dflt n1 s1).1.err = 0) :
    ∃ k, k ≤ m ∧ J e us k (dflt n1 s1).1 (dflt n2 s2).1 ∧ (dflt n1 s1).2.un = (dflt n2 s2).2.un := by
  unfold dflt at hz ⊢
  rw [← h.isS he hu]
  split
  · rename_i hs
    rw [if_pos hs] at hz
    obtain ⟨k, rfl, hj⟩ := h.sign he hu hs
    obtain ⟨k2, hk2, hj2, hv⟩ := value_j he hu true k k n1 n2 (Nat.le_refl _) (by omega) (by omega) _ _ hj hz
    exact ⟨k2, by omega, hj2, hv⟩
  · exact ⟨m, Nat.le_refl _, h, rfl⟩
theorem input_j (he : e.kind = 0) (hu : HdOk us) {m n1 n2 : Nat} (h1 : m < n1) (h2 : m < n2) : JF e us (input n1) (input n2) In.un m := by
  intro s1 s2 hj hz
  have z3 := err_back (ok_dflt n1 _) (show (dflt n1 _).1.err = 0 from hz)
  have z2 := err_back (ok_type n1 _) z3
  have z1 := err_back (ok_want colon _) z2
  obtain ⟨k, hk, hj1, hn⟩ := told_name_j he hu hj z1
  obtain ⟨k2, rfl, hj2⟩ := hj1.want he hu z2
  obtain ⟨k3, hk3, hj3, ht⟩ := type_j he hu k2 n1 n2 (by omega) (by omega) _ _ hj2 z3
  obtain ⟨k4, hk4, hj4, hd⟩ := dflt_j he hu (n1 := n1) (n2 := n2) (by omega) (by omega) hj3 hz
  refine ⟨k4, by omega, hj4, ?_⟩
  unfold input In.un
  simp only [id] at ht
  simp only [hn, ht, hd, hj3.isS he hu]
theorem between_j {α β : Type} (he : e.kind = 0) (hu : HdOk us) (c c2 : List UInt8) {f1 f2 : St → St × α} (u : α → β) (ho : ∀ s, Ok s (f1 s).1) {m n1 n2 : Nat} (h1 : m < n1) (h2 : m < n2)
    (hf : ∀ k, k ≤ m → JF e us f1 f2 u k) {s1 s2 : St} (h : J e us m s1 s2) (hz : (between c c2 f1 n1 s1).1.err = 0) :
    ∃ k, k ≤ m ∧ J e us k (between c c2 f1 n1 s1).1 (between c c2 f2 n2 s2).1 ∧ (between c c2 f1 n1 s1).2.map u = (between c c2 f2 n2 s2).2.map u := by
  unfold between at hz ⊢
  rw [← h.isS he hu]
  split
  · rename_i hs
    rw [if_pos hs] at hz
    have z1 := err_back (ok_want c2 _) (show (want c2 _).err = 0 from hz)
    obtain ⟨k, rfl, hj⟩ := h.sign he hu hs
    obtain ⟨k2, hk2, hj2, hl⟩ := loop1_j he hu c2 u ho (M := k) (fun q hq => hf q (by omega)) (n1 := n1) (n2 := n2) (Nat.le_refl _) hj (by omega) (by omega) z1
    obtain ⟨k3, rfl, hj3⟩ := hj2.want he hu hz
    exact ⟨k3, by omega, hj3, hl⟩
  · exact ⟨m, Nat.le_refl _, h, rfl⟩
theorem field_j (he : e.kind = 0) (hu : HdOk us) {m n1 n2 : Nat} (h1 : m < n1) (h2 : m < n2) : JF e us (field n1) (field n2) Fd.un m := by
  intro s1 s2 hj hz
  have z3 := err_back (ok_type n1 _) (show (type n1 _).1.err = 0 from hz)
  have z2 := err_back (ok_want colon _) z3
  have z1 := err_back (ok_between lpar rpar (input n1) (ok_input n1) n1 _) z2
  obtain ⟨k, hk, hj1, hn⟩ := told_name_j he hu hj z1
  obtain ⟨k2, hk2, hj2, ha⟩ := between_j he hu lpar rpar In.un (ok_input n1) (n1 := n1) (n2 := n2) (by omega) (by omega) (fun q hq => input_j he hu (n1 := n1) (n2 := n2) (by omega) (by omega)) hj1 z2
  obtain ⟨k3, rfl, hj3⟩ := hj2.want he hu z3
  obtain ⟨k4, hk4, hj4, ht⟩ := type_j he hu k3 n1 n2 (by omega) (by omega) _ _ hj3 hz
  refine ⟨k4, by omega, hj4, ?_⟩
  unfold field Fd.un
  simp only [id] at ht
  simp only [hn, ht, ha]
theorem member_j (he : e.kind = 0) (hu : HdOk us) {m : Nat} : JF e us member member id m := by
  intro s1 s2 hj hz
  unfold member at hz ⊢
  by_cases hw : isW (told s1) [sTrue, sFalse, sNull] = true
  · rw [if_pos hw] at hz
    have hb : (wrong (told s1)).err ≠ 0 := wrong_bad
    rw [name_err hb] at hz
    exact absurd hz hb
  · rw [if_neg hw] at hz
    have hw2 : ¬ isW (told s2) [sTrue, sFalse, sNull] = true := by
      cases m with
      | zero =>
        obtain ⟨k, hk, -⟩ := told_name_j he hu hj hz
        omega
      | succ m =>
        unfold told at hz hw ⊢
        rw [← hj.peek.1]
        split
        · rename_i hk
          rw [if_pos hk] at hw hz
          have hj2 := hj.next (by omega)
          cases m with
          | zero =>
            obtain ⟨k, hk, -⟩ := hj2.name he hu hz
            omega
          | succ m => rw [← hj2.isW]; exact hw
        · rename_i hk
          rw [if_neg hk] at hw
          rw [← hj.isW]; exact hw
    rw [if_neg hw, if_neg hw2]
    obtain ⟨k, hk, hj1, hn⟩ := told_name_j he hu hj hz
    exact ⟨k, hk, hj1, hn⟩
theorem namesGo_j (he : e.kind = 0) (hu : HdOk us) (c : List UInt8) : ∀ (n1 n2 m : Nat) (s1 s2 : St) (o : List (List UInt8)), J e us m s1 s2 → m < n1 → m < n2 → (namesGo c n1 s1 o).1.err = 0 →
    ∃ k, k ≤ m ∧ J e us k (namesGo c n1 s1 o).1 (namesGo c n2 s2 o).1 ∧ (namesGo c n1 s1 o).2 = (namesGo c n2 s2 o).2
  | 0, _, _, _, _, _, _, h, _, _ => by omega
  | _ + 1, 0, _, _, _, _, _, _, h, _ => by omega
  | n1 + 1, n2 + 1, m, s1, s2, o, hj, h1, h2, hz => by
    unfold namesGo at hz ⊢
    rw [← hj.isS he hu]
    split
    · rename_i hs
      rw [if_pos hs] at hz
      have z1 : (name (next s1)).1.err = 0 := err_back (ok_namesGo c n1 _ _) hz
      obtain ⟨k, rfl, hj2⟩ := hj.sign he hu hs
      obtain ⟨k2, rfl, hj3, hn⟩ := hj2.name he hu z1
      rw [hn] at hz ⊢
      obtain ⟨k3, hk3, hj4, hl⟩ := namesGo_j he hu c n1 n2 k2 _ _ _ hj3 (by omega) (by omega) hz
      exact ⟨k3, by omega, hj4, hl⟩
    · exact ⟨m, Nat.le_refl _, hj, rfl⟩
theorem names_j (he : e.kind = 0) (hu : HdOk us) (c : List UInt8) {m : Nat} : JF e us (names c) (names c) id m := by
  intro s1 s2 hj hz
  unfold names at hz ⊢
  have z1 : (name (take c s1)).1.err = 0 := err_back (ok_namesGo c _ _ _) hz
  obtain ⟨k, hk, hj1⟩ := hj.take he hu c
  obtain ⟨k2, rfl, hj2, hn⟩ := hj1.name he hu z1
  rw [hn] at hz ⊢
  obtain ⟨k3, hk3, hj3, hl⟩ := namesGo_j he hu c _ ((name (take c s2)).1.rest.length + 1) k2 _ _ _ hj2 (by have := hj2.len; omega) (by have := hj2.len; omega) hz
  exact ⟨k3, by omega, hj3, hl⟩
theorem impl_j (he : e.kind = 0) (hu : HdOk us) {m : Nat} {s1 s2 : St} (h : J e us m s1 s2) (hz : (impl s1).1.err = 0) :
    ∃ k, k ≤ m ∧ J e us k (impl s1).1 (impl s2).1 ∧ (impl s1).2 = (impl s2).2 := by
  have hw : isW s1 [sImpl] = isW s2 [sImpl] := by
    cases m with
    | zero =>
      obtain ⟨p1, x, r, -, -, h1, p2⟩ := h.zero hu
      unfold isW isN
      rw [p1, p2, he]
      by_cases hx : x.kind = 1
      · simp [h1 hx]
      · simp [hx]
    | succ m => exact h.isW _
  unfold impl at hz ⊢
  rw [← hw]
  split
  · rename_i hs
    rw [if_pos hs] at hz
    have hp := isW_parts hs
    cases m with
    | zero =>
      obtain ⟨p1, -⟩ := h.zero hu
      rw [p1, he] at hp
      omega
    | succ m =>
      obtain ⟨k, hk, hj, hl⟩ := names_j he hu amp _ _ (h.next (by omega)) hz
      exact ⟨k, by omega, hj, hl⟩
  · exact ⟨m, Nat.le_refl _, h, rfl⟩
theorem body_j (he : e.kind = 0) (hu : HdOk us) {m n1 n2 : Nat} (h1 : m < n1) (h2 : m < n2) (k : Nat) (nm : List UInt8) (a1 a2 : Nat) {s1 s2 : St} (h : J e us m s1 s2) (hz : (body n1 k nm a1 s1).1.err = 0) :
    ∃ q, q ≤ m ∧ J e us q (body n1 k nm a1 s1).1 (body n2 k nm a2 s2).1 ∧ (body n1 k nm a1 s1).2.un = (body n2 k nm a2 s2).2.un := by
  unfold body at hz ⊢
  split
  · rename_i hk
    rw [if_pos hk] at hz
    have z1 := err_back (ok_between lbrc rbrc (field n1) (ok_field n1) n1 _) hz
    obtain ⟨q, hq, hj, hi⟩ := impl_j he hu h z1
    obtain ⟨q2, hq2, hj2, hf⟩ := between_j he hu lbrc rbrc Fd.un (ok_field n1) (n1 := n1) (n2 := n2) (by omega) (by omega) (fun r hr => field_j he hu (n1 := n1) (n2 := n2) (by omega) (by omega)) hj hz
    exact ⟨q2, by omega, hj2, by unfold Td.un; simp only [hi, hf]⟩
  rename_i hk
  rw [if_neg hk] at hz
  split
  · rename_i hk
    rw [if_pos hk] at hz
    rw [← h.isS he hu]
    split
    · rename_i hs
      rw [if_pos hs] at hz
      obtain ⟨q, rfl, hj⟩ := h.sign he hu hs
      obtain ⟨q2, hq2, hj2, hn⟩ := names_j he hu bar _ _ hj hz
      simp only [id] at hn
      exact ⟨q2, by omega, hj2, by unfold Td.un; simp only [hn]⟩
    · exact ⟨m, Nat.le_refl _, h, rfl⟩
  rename_i hk
  rw [if_neg hk] at hz
  split
  · rename_i hk
    rw [if_pos hk] at hz
    obtain ⟨q2, hq2, hj2, hf⟩ := between_j he hu lbrc rbrc id ok_member (n1 := n1) (n2 := n2) (by omega) (by omega) (fun r hr => member_j he hu) h hz
    simp only [List.map_id] at hf
    exact ⟨q2, by omega, hj2, by unfold Td.un; simp only [hf]⟩
  rename_i hk
  rw [if_neg hk] at hz
  split
  · rename_i hk
    rw [if_pos hk] at hz
    obtain ⟨q2, hq2, hj2, hf⟩ := between_j he hu lbrc rbrc In.un (ok_input n1) (n1 := n1) (n2 := n2) (by omega) (by omega) (fun r hr => input_j he hu (n1 := n1) (n2 := n2) (by omega) (by omega)) h hz
    exact ⟨q2, by omega, hj2, by unfold Td.un; simp only [hf]⟩
  · exact ⟨m, Nat.le_refl _, h, rfl⟩
theorem def_j (he : e.kind = 0) (hu : HdOk us) {m n1 n2 : Nat} (h1 : m < n1) (h2 : m < n2) : JF e us (def_ n1) (def_ n2) Td.un m := by
  intro s1 s2 hj hz
  unfold def_ at hz ⊢
  dsimp only at hz ⊢
  -- the word is one
  by_cases hw : isW (told s1) words = true
  · rw [if_pos hw] at hz
    rw [if_pos hw]
    have hp := isW_parts hw
    -- behind the string
    have hm : ∃ k, k + 1 ≤ m ∧ J e us (k + 1) (told s1) (told s2) := by
      cases m with
      | zero =>
        obtain ⟨p1, -⟩ := hj.zero hu
        unfold told at hp
        rw [p1, he, if_neg (by decide), p1, he] at hp
        omega
      | succ m =>
        unfold told at hp ⊢
        rw [← hj.peek.1]
        split
        · rename_i hk
          rw [if_pos hk] at hp
          have hj2 := hj.next (by omega)
          cases m with
          | zero =>
            obtain ⟨p1, -⟩ := hj2.zero hu
            rw [p1, he] at hp
            omega
          | succ m => exact ⟨m, by omega, hj2⟩
        · exact ⟨m, by omega, hj⟩
    obtain ⟨k, hk, hj1⟩ := hm
    rw [← hj1.isW, if_pos hw, ← hj1.peek.2]
    have z1 := err_back (ok_body n1 _ _ _ _) hz
    obtain ⟨k2, rfl, hj2, hn⟩ := (hj1.next (by omega)).name he hu z1
    rw [hn] at hz ⊢
    obtain ⟨q, hq, hj3, hb⟩ := body_j he hu (n1 := n1) (n2 := n2) (by omega) (by omega) (kindOf (peek (told s1)).text) (name (next (told s2))).2 (peek (told s1)).at_ (peek (told s2)).at_ hj2 hz
    exact ⟨q, by omega, hj3, hb⟩
  · rw [if_neg hw] at hz
    have hb : (wrong (told s1)).err ≠ 0 := wrong_bad
    rw [next_err hb, name_err hb] at hz
    have := (ok_body n1 (kindOf (peek (wrong (told s1))).text) [] (peek (wrong (told s1))).at_ (wrong (told s1))).err hb
    rw [this] at hz
    exact absurd hz hb
theorem defs_succ (n k : Nat) (s : St) (out : List Td) : defs n (k + 1) s out = if s.err = 0 ∧ (peek s).kind ≠ 0 then defs n k (def_ n s).1 (out ++ [(def_ n s).2]) else (s, out) := by rw [defs]
theorem ok_defs (n : Nat) : ∀ (k : Nat) (s : St) (out : List Td), Ok s (defs n k s out).1
  | 0, s, out => by rw [defs]; exact Ok.refl s
  | k + 1, s, out => by
    rw [defs_succ]
    split
    · exact (ok_def n s).trans (ok_defs n k _ _)
    · exact Ok.refl s
theorem defs_deep (n : Nat) : ∀ (k : Nat) (s : St) (out : List Td), (defs n k s out).1.deep = s.deep
  | 0, s, out => by rw [defs]
  | k + 1, s, out => by
    rw [defs_succ]
    split
    · rw [defs_deep n k, def_deep]
    · rfl
/-- All definitions of the one; what the other does behind them. -/
theorem defs_j (he : e.kind = 0) (hu : HdOk us) {n1 n2 : Nat} : ∀ (k1 m : Nat) (s1 s2 : St) (o1 o2 : List Td), J e us m s1 s2 → m < n1 → m < n2 → m < k1 → (defs n1 k1 s1 o1).1.err = 0 →
    ∃ k x y s, k ≤ m ∧ J e us 0 (defs n1 k1 s1 o1).1 s ∧ (defs n1 k1 s1 o1).2 = o1 ++ x ∧ x.map Td.un = y.map Td.un ∧ ∀ k2, m ≤ k2 → defs n2 k2 s2 o2 = defs n2 (k2 - k) s (o2 ++ y)
  | 0, _, _, _, _, _, _, _, _, h, _ => by omega
  | k1 + 1, m, s1, s2, o1, o2, hj, h1, h2, h3, hz => by
    rw [defs_succ] at hz ⊢
    by_cases hk : s1.err = 0 ∧ (peek s1).kind ≠ 0
    · rw [if_pos hk] at hz
      rw [if_pos hk]
      have z1 : (def_ n1 s1).1.err = 0 := err_back (ok_defs n1 k1 _ _) hz
      obtain ⟨q, hq, hj2, hd⟩ := def_j he hu (n1 := n1) (n2 := n2) h1 h2 s1 s2 hj z1
      obtain ⟨k, x, y, s, r1, r2, r3, r4, r5⟩ := defs_j he hu (n2 := n2) k1 q _ (def_ n2 s2).1 (o1 ++ [(def_ n1 s1).2]) (o2 ++ [(def_ n2 s2).2]) hj2 (by omega) (by omega) (by omega) hz
      have hk2 : (peek s2).kind ≠ 0 := by
        cases m with
        | zero =>
          obtain ⟨p1, -⟩ := hj.zero hu
          rw [p1, he] at hk
          exact absurd rfl hk.2
        | succ m => rw [← hj.peek.1]; exact hk.2
      refine ⟨k + 1, (def_ n1 s1).2 :: x, (def_ n2 s2).2 :: y, s, by omega, r2, by rw [r3]; simp, by simp [hd, r4], fun k2 hk2' => ?_⟩
      obtain ⟨j, rfl⟩ : ∃ j, k2 = j + 1 := ⟨k2 - 1, by omega⟩
      have r6 := r5 j (by omega)
      rw [defs_succ, if_pos ⟨hj.e2, hk2⟩]
      rw [r6, List.append_assoc, show j + 1 - (k + 1) = j - k by omega]
      rfl
    · rw [if_neg hk]
      have hk0 : (peek s1).kind = 0 := by
        by_cases h0 : (peek s1).kind = 0
        · exact h0
        · exact absurd ⟨hj.e1, h0⟩ hk
      have hm0 : m = 0 := by
        cases m with
        | zero => rfl
        | succ m =>
          obtain ⟨a, a', j1, j2, j3, j4, j5, j6, j7, j8⟩ := hj
          cases a with
          | nil => simp at j1
          | cons x a =>
            unfold peek at hk0
            rw [j3] at hk0
            exact absurd hk0 (j8 x (by simp))
      subst hm0
      exact ⟨0, [], [], s2, Nat.le_refl _, hj, by simp, rfl, fun k2 _ => by simp⟩
end
theorem parse_from {l : List UInt8} (h : (parse l).1.err = 0) : (begin_ l).err = 0 ∧ parse l = defs ((begin_ l).rest.length + 1) ((begin_ l).rest.length + 1 + 1) (begin_ l) [] ∧ ((peek (begin_ l)).kind = 4 ∨ ((peek (begin_ l)).kind = 1 ∧ (peek (begin_ l)).text ∈ words)) := by
  unfold parse at h ⊢
  dsimp only at h ⊢
  by_cases he : (begin_ l).err = 0
  · rw [if_pos he] at h
    rw [if_pos he]
    have z1 : (def_ ((begin_ l).rest.length + 1) (begin_ l)).1.err = 0 := err_back (ok_defs _ _ _ _) h
    have hw : isW (told (begin_ l)) words = true := by
      by_cases hw : isW (told (begin_ l)) words = true
      · exact hw
      · exfalso
        unfold def_ at z1
        dsimp only at z1
        rw [if_neg hw] at z1
        have hb : (wrong (told (begin_ l))).err ≠ 0 := wrong_bad
        rw [next_err hb, name_err hb] at z1
        have := (ok_body ((begin_ l).rest.length + 1) (kindOf (peek (wrong (told (begin_ l)))).text) [] (peek (wrong (told (begin_ l)))).at_ (wrong (told (begin_ l)))).err hb
        rw [this] at z1
        exact absurd z1 hb
    have hp := isW_parts hw
    have hk : (peek (begin_ l)).kind = 4 ∨ ((peek (begin_ l)).kind = 1 ∧ (peek (begin_ l)).text ∈ words) := by
      by_cases h4 : (peek (begin_ l)).kind = 4
      · exact .inl h4
      · unfold told at hp
        rw [if_neg h4] at hp
        refine .inr ⟨hp.2.1, ?_⟩
        rcases hp.2.2 with h | h
        · exact h
        · exact absurd h (by decide)
    refine ⟨he, ?_, hk⟩
    conv => rhs; rw [defs_succ, if_pos ⟨he, by rcases hk with h | h <;> omega⟩]
    rfl
  · rw [if_neg he] at h
    exact absurd h he
theorem begin_ok {l : List UInt8} (h : (begin_ l).err = 0) (hc : ∀ a c, Lx.lex l = .err a c → c ≠ 0) : ∃ ts, Lx.lex l = .ok ts ∧ begin_ l = ⟨ts, 0, 0, 0⟩ := by
  unfold begin_ at h ⊢
  cases hl : Lx.lex l with
  | ok ts => exact ⟨ts, rfl, by rfl⟩
  | err a c =>
    rw [hl] at h
    exact absurd h (hc a c hl)
/-- Types of two texts, one behind the other. -/
theorem parse_join {s t : List UInt8} (hs : (parse s).1.err = 0) (ht : (parse t).1.err = 0) (hb : Lx.bom t = false) (hl : s.length + t.length + 1 ≤ 4096) :
    (parse (s ++ 10 :: t)).1.err = 8 ∨ ((parse (s ++ 10 :: t)).1.err = 0 ∧ (parse (s ++ 10 :: t)).2.map Td.un = ((parse s).2 ++ (parse t).2).map Td.un) := by
  obtain ⟨e1, p1, -⟩ := parse_from hs
  obtain ⟨e2, p2, hh⟩ := parse_from ht
  obtain ⟨ts, l1, b1⟩ := begin_ok e1 (fun a c => Lx.lex_err)
  obtain ⟨us, l2, b2⟩ := begin_ok e2 (fun a c => Lx.lex_err)
  obtain ⟨pre, q1, k1, ⟨pu, q2, k2⟩, hj⟩ := Lx.lex_join l1 l2 hb hl
  rcases hj with hj | ⟨a, hj⟩
  · right
    have b3 : begin_ (s ++ 10 :: t) = ⟨pre ++ us.map (Lx.shift (s.length + 1)), 0, 0, 0⟩ := by unfold begin_; rw [hj]
    rw [b1] at p1 e1
    rw [b2] at p2 e2 hh
    rw [p1] at hs
    rw [p2] at ht
    subst q1
    have huN : HdOk (us.map (Lx.shift (s.length + 1))) := by
      cases us with
      | nil => cases pu <;> simp at q2
      | cons x r =>
        refine ⟨Lx.shift (s.length + 1) x, r.map (Lx.shift (s.length + 1)), rfl, ?_, ?_⟩
        · show x.kind ≠ 5
          have : x.kind = 4 ∨ (x.kind = 1 ∧ x.text ∈ words) := hh
          omega
        · intro hx1
          have h1 : x.kind = 1 := hx1
          have : x.kind = 4 ∨ (x.kind = 1 ∧ x.text ∈ words) := hh
          rcases this with h4 | ⟨-, h4⟩
          · omega
          · intro h5
            have h6 : x.text = sImpl := h5
            rw [h6] at h4
            exact absurd h4 (by decide)
    have J1 : J ⟨0, [], s.length⟩ (us.map (Lx.shift (s.length + 1))) pre.length ⟨pre ++ [⟨0, [], s.length⟩], 0, 0, 0⟩ ⟨pre ++ us.map (Lx.shift (s.length + 1)), 0, 0, 0⟩ :=
      ⟨pre, pre, rfl, rfl, rfl, rfl, rfl, rfl, rfl, k1⟩
    have hul : us.length = pu.length + 1 := by rw [q2]; simp
    obtain ⟨N, hN⟩ : ∃ N, N = (begin_ (s ++ 10 :: t)).rest.length + 1 := ⟨_, rfl⟩
    have hN2 : N = pre.length + us.length + 1 := by rw [hN, b3]; simp
    obtain ⟨k, x, y, sm, r1, r2, r3, r4, r5⟩ := defs_j (n2 := N) (o2 := []) (s2 := ⟨pre ++ us.map (Lx.shift (s.length + 1)), 0, 0, 0⟩) rfl huN _ _ _ [] J1 (by simp; omega) (by omega) (by simp <;> omega) hs
    have hrm : sm.rest = us.map (Lx.shift (s.length + 1)) := by
      obtain ⟨a, a', j1, j2, j3, j4, -⟩ := r2
      obtain rfl := List.eq_nil_of_length_eq_zero j1
      cases a' with
      | nil => exact j4
      | cons _ _ => simp at j2
    have hdm : sm.deep = 0 := by rw [← r2.deep, defs_deep]
    have J2 : J ⟨0, [], t.length⟩ [Lx.shift (s.length + 1) ⟨0, [], t.length⟩] pu.length ⟨us, 0, 0, 0⟩ sm := by
      refine ⟨pu, pu.map (Lx.shift (s.length + 1)), rfl, ?_, q2, ?_, hdm.symm, rfl, r2.e2, k2⟩
      · rw [List.map_map]; rfl
      · rw [hrm, q2, List.map_append]; rfl
    have r6 := r5 (N + 1) (by omega)
    obtain ⟨k', x', y', sf, t1, t2, t3, t4, t5⟩ := defs_j (n2 := N) (o2 := [] ++ y) (s2 := sm) rfl ⟨_, [], rfl, by show (0 : Nat) ≠ 5; omega, fun h => by cases h⟩ _ _ _ [] J2 (by show _ < us.length + 1; omega) (by omega) (by show _ < us.length + 1 + 1; omega) ht
    have t6 := t5 (N + 1 - k) (by omega)
    have hkf : (peek sf).kind = 0 := by
      obtain ⟨a, a', j1, j2, j3, j4, -⟩ := t2
      obtain rfl := List.eq_nil_of_length_eq_zero j1
      cases a' with
      | nil => unfold peek; rw [j4]; rfl
      | cons _ _ => simp at j2
    have hfin : ∀ q o, defs N q sf o = (sf, o) := fun q o => by
      cases q with
      | zero => rfl
      | succ q => rw [defs, if_neg (fun h => h.2 hkf)]
    rw [hfin] at t6
    have hnz : (peek (begin_ (s ++ 10 :: t))).kind ≠ 0 := by
      rw [b3]
      cases pre with
      | nil =>
        exfalso
        obtain ⟨-, -, h3⟩ := parse_from (l := s) (by rw [p1]; exact hs)
        rw [b1] at h3
        have h4 : (0 : Nat) = 4 ∨ (0 : Nat) = 1 ∧ _ := h3
        omega
      | cons z pre => exact k1 z (by simp)
    have hP : parse (s ++ 10 :: t) = (sf, [] ++ y ++ y') := by
      have h0 : parse (s ++ 10 :: t) = defs N (N + 1) (begin_ (s ++ 10 :: t)) [] := by
        unfold parse
        dsimp only
        rw [if_pos (by rw [b3]), ← hN]
        conv => rhs; rw [defs, if_pos ⟨by rw [b3], hnz⟩]
        rfl
      rw [h0, b3, r6, t6]
    rw [hP]
    refine ⟨t2.e2, ?_⟩
    rw [p1, p2, r3, t3]
    simp [r4, t4]
  · left
    unfold parse begin_
    rw [hj]
    rfl
end Sd
end Go.Proofs.YtabcaljnpahgpaaGreatDoor
