/-
  A good value's words are read as the value (plain).
-/
import Derived.Test.YtabcaljnpahgpaaGreatDoorVgb
namespace Go.Proofs.YtabcaljnpahgpaaGreatDoor
set_option linter.unusedSimpArgs false
set_option linter.unusedVariables false
namespace Vl
def kts (ws : List Lx.Wd) : List (Nat × List UInt8) := ws.map fun w => (w.k, w.T)
theorem kts_app (a b : List Lx.Wd) : kts (a ++ b) = kts a ++ kts b := List.map_append
theorem toksAt_kt : ∀ (ws : List Lx.Wd) (p : Nat), (Lx.toksAt p ws).map Rd.ktx = kts ws
  | [], p => rfl
  | x :: r, p => by
    rw [Lx.toksAt, List.map_cons, toksAt_kt r]
    rfl
-- No variable in it.
mutual
def Z.nov : Z → Bool
  | .mk k _ i f _ => decide (k ≠ 1) && (Z.novs i && ZA.novs f)
def Z.novs : List Z → Bool
  | [] => true
  | x :: r => Z.nov x && Z.novs r
def ZA.nov : ZA → Bool
  | .mk _ v _ => Z.nov v
def ZA.novs : List ZA → Bool
  | [] => true
  | x :: r => ZA.nov x && ZA.novs r
end
/-- These tokens come, but for places. -/
structure At (s : Rd.St) (ks : List (Nat × List UInt8)) (rest : List Lx.Tok) : Prop where
  err : s.err = 0
  is : ∃ a, s.rest = a ++ rest ∧ a.map Rd.ktx = ks
section
variable {s : Rd.St} {k : Nat} {T : List UInt8} {ks : List (Nat × List UInt8)} {rest : List Lx.Tok}
theorem At.peek (h : At s ((k, T) :: ks) rest) : (Rd.peek s).kind = k ∧ (Rd.peek s).text = T := by
  obtain ⟨a, h1, h2⟩ := h.is
  cases a with
  | nil => cases h2
  | cons x a =>
    simp only [List.map_cons, List.cons.injEq, Rd.ktx, Prod.mk.injEq] at h2
    unfold Rd.peek
    rw [h1]
    exact h2.1
theorem At.next (h : At s ((k, T) :: ks) rest) (hk : k ≠ 0) : At (Rd.next s) ks rest := by
  have hp := h.peek
  obtain ⟨a, h1, h2⟩ := h.is
  have hn : Rd.next s = { s with rest := s.rest.drop 1 } := by unfold Rd.next; rw [if_pos ⟨h.err, by rw [hp.1]; exact hk⟩]
  rw [hn]
  cases a with
  | nil => cases h2
  | cons x a =>
    simp only [List.map_cons, List.cons.injEq] at h2
    exact ⟨h.err, a, by show s.rest.drop 1 = _; rw [h1]; rfl, h2.2⟩
theorem At.isS (h : At s ((k, T) :: ks) rest) (c : List UInt8) : Rd.isS s c = (decide (k = 5) && decide (T = c)) := by
  unfold Rd.isS
  rw [h.err, h.peek.1, h.peek.2]
  simp
theorem At.isN (h : At s ((k, T) :: ks) rest) : Rd.isN s = decide (k = 1) := by
  unfold Rd.isN
  rw [h.err, h.peek.1]
  simp
theorem At.isW (h : At s ((k, T) :: ks) rest) (ws : List (List UInt8)) : Rd.isW s ws = (decide (k = 1) && (ws.any (fun w => decide (T = w)) || ws.isEmpty)) := by
  unfold Rd.isW
  rw [h.isN, h.peek.2]
theorem At.setDeep (h : At s ks rest) (d : Int) : At { s with deep := d } ks rest := ⟨h.err, h.is⟩
theorem At.down (h : At s ((5, T) :: ks) rest) (hd : s.deep ≠ 16) : At (Rd.down T s) ks rest := by
  unfold Rd.down Rd.want
  dsimp only
  have e : (if Rd.isS s T = true ∧ s.deep = 16 then Rd.fail 42 s else s) = s := if_neg (fun e => hd e.2)
  rw [e, if_pos (by rw [h.isS]; simp)]
  exact (h.next (by decide)).setDeep _
theorem At.up (h : At s ((5, T) :: ks) rest) : At (Rd.up T s) ks rest := by
  unfold Rd.up Rd.want
  dsimp only
  rw [if_pos (by rw [h.isS]; simp)]
  exact (h.next (by decide)).setDeep _
theorem At.name (h : At s ((1, T) :: ks) rest) : At (Rd.name s).1 ks rest ∧ (Rd.name s).2 = T := by
  unfold Rd.name
  rw [if_pos (by rw [h.isN]; rfl)]
  exact ⟨h.next (by decide), h.peek.2⟩
theorem At.want (h : At s ((5, T) :: ks) rest) : At (Rd.want T s) ks rest := by
  unfold Rd.want
  rw [if_pos (by rw [h.isS]; simp)]
  exact h.next (by decide)
end
theorem ks_shut (k : Int) (g : List UInt8) (i : List Z) (f : List ZA) : kts (⟨g, 5, opn k, opn k⟩ :: (Z.wdss true i ++ (ZA.wdss true f ++ [⟨[], 5, shut k, shut k⟩]))) = (5, opn k) :: (kts (Z.wdss true i) ++ (kts (ZA.wdss true f) ++ [(5, shut k)])) := by
  show (5, opn k) :: kts _ = _
  rw [kts_app, kts_app]; rfl
/-- The first of a value's words shuts nothing. -/
theorem wds_first {z : Z} {deep : Nat} (h : z.good deep = true) (g : List UInt8) : ∃ k T r, kts (Z.wds g z) = (k, T) :: r ∧ (k = 5 → T ≠ [93] ∧ T ≠ [125]) ∧ k ≠ 0 := by
  cases z with
  | mk k t i f a =>
  rw [Z.wds]
  split
  · refine ⟨5, opn k, _, ks_shut k g i f, fun _ => ?_, by decide⟩
    unfold opn
    split <;> decide
  · unfold leafW
    split
    · exact ⟨5, [36], _, rfl, fun _ => by decide, by decide⟩
    split
    · exact ⟨2, t, _, rfl, fun e => (by cases e), by decide⟩
    split
    · exact ⟨3, t, _, rfl, fun e => (by cases e), by decide⟩
    split
    · exact ⟨4, t, _, rfl, fun e => (by cases e), by decide⟩
    split
    · exact ⟨1, t, _, rfl, fun e => (by cases e), by decide⟩
    split
    · exact ⟨1, Rd.sNull, _, rfl, fun e => (by cases e), by decide⟩
    · exact ⟨1, t, _, rfl, fun e => (by cases e), by decide⟩
theorem parts_leaf {k : Int} {i : List Z} {f : List ZA} (h : parts k i.length f.length = true) (hk : ¬ many k) : i = [] ∧ f = [] := by
  unfold many at hk
  unfold parts at h
  simp only [Bool.and_eq_true, Bool.or_eq_true, decide_eq_true_eq] at h
  exact ⟨List.eq_nil_of_length_eq_zero (by omega), List.eq_nil_of_length_eq_zero (by omega)⟩
theorem same_leaf (k : Nat) (t : List UInt8) (p : Nat) (a : Int) : (ofV (.mk k t [] [] p)).same (.mk k t [] [] a) = true := by
  rw [ofV, Z.same, ofVs, ofAs, Z.sames, ZA.sames]; simp
theorem value_leaf {fixed : Bool} {k : Int} {t g : List UInt8} {a : Int} {n : Nat} {s : Rd.St} {ks : List (Nat × List UInt8)} {rest : List Lx.Tok} (h17 : 1 ≤ k ∧ k ≤ 7) (hg : (leaf k t).1 = true) (hv : fixed = true → k ≠ 1)
    (h : At s (kts (leafW g k t) ++ ks) rest) : At (Rd.value fixed (n + 1) s).1 ks rest ∧ (ofV (Rd.value fixed (n + 1) s).2).same (.mk k t [] [] a) = true := by
  have hk : k = 1 ∨ k = 2 ∨ k = 3 ∨ k = 4 ∨ k = 5 ∨ k = 6 ∨ k = 7 := by omega
  unfold Rd.value
  dsimp only
  rcases hk with rfl | rfl | rfl | rfl | rfl | rfl | rfl
  · have h : At s ((5, [36]) :: (1, t) :: ks) rest := h
    rw [if_pos (by rw [h.isS]; rfl)]
    cases fixed with
    | true => exact absurd rfl (hv rfl)
    | false =>
      simp only [Bool.false_eq_true, if_false]
      have h2 := (h.next (by decide)).name
      refine ⟨h2.1, ?_⟩
      rw [h2.2]
      exact same_leaf 1 t _ a
  · have h : At s ((2, t) :: ks) rest := h
    rw [if_neg (by rw [h.isS]; simp), if_neg (by rw [h.isS]; simp), if_neg (by rw [h.isS]; simp), if_pos h.peek.1]
    refine ⟨h.next (by decide), ?_⟩
    rw [h.peek.2]
    exact same_leaf 2 t _ a
  · have h : At s ((3, t) :: ks) rest := h
    rw [if_neg (by rw [h.isS]; simp), if_neg (by rw [h.isS]; simp), if_neg (by rw [h.isS]; simp), if_neg (by rw [h.peek.1]; decide), if_pos h.peek.1]
    refine ⟨h.next (by decide), ?_⟩
    rw [h.peek.2]
    exact same_leaf 3 t _ a
  · have h : At s ((4, t) :: ks) rest := h
    rw [if_neg (by rw [h.isS]; simp), if_neg (by rw [h.isS]; simp), if_neg (by rw [h.isS]; simp), if_neg (by rw [h.peek.1]; decide), if_neg (by rw [h.peek.1]; decide), if_pos h.peek.1]
    refine ⟨h.next (by decide), ?_⟩
    rw [h.peek.2]
    exact same_leaf 4 t _ a
  · have h : At s ((1, t) :: ks) rest := h
    have hg : (decide (t = Rd.sTrue) || decide (t = Rd.sFalse)) = true := hg
    have hn : t ≠ Rd.sNull := by
      rw [Bool.or_eq_true, decide_eq_true_eq, decide_eq_true_eq] at hg
      rcases hg with rfl | rfl <;> decide
    rw [if_neg (by rw [h.isS]; simp), if_neg (by rw [h.isS]; simp), if_neg (by rw [h.isS]; simp), if_neg (by rw [h.peek.1]; decide), if_neg (by rw [h.peek.1]; decide), if_neg (by rw [h.peek.1]; decide), if_neg (by rw [h.isW]; simp [hn]), if_pos (by rw [h.isW]; simpa using hg)]
    refine ⟨h.next (by decide), ?_⟩
    rw [h.peek.2]
    exact same_leaf 5 t _ a
  · have h : At s ((1, Rd.sNull) :: ks) rest := h
    have hg : decide (t = []) = true := hg
    rw [decide_eq_true_eq] at hg
    subst hg
    rw [if_neg (by rw [h.isS]; simp), if_neg (by rw [h.isS]; simp), if_neg (by rw [h.isS]; simp), if_neg (by rw [h.peek.1]; simp), if_neg (by rw [h.peek.1]; simp), if_neg (by rw [h.peek.1]; simp), if_pos (by rw [h.isW]; simp)]
    exact ⟨h.next (by simp), same_leaf 6 [] _ a⟩
  · have h : At s ((1, t) :: ks) rest := h
    have hg : (Lx.isName t && (decide (t ≠ Rd.sTrue) && (decide (t ≠ Rd.sFalse) && decide (t ≠ Rd.sNull)))) = true := hg
    simp only [Bool.and_eq_true, decide_eq_true_eq] at hg
    rw [if_neg (by rw [h.isS]; simp), if_neg (by rw [h.isS]; simp), if_neg (by rw [h.isS]; simp), if_neg (by rw [h.peek.1]; decide), if_neg (by rw [h.peek.1]; decide), if_neg (by rw [h.peek.1]; decide), if_neg (by rw [h.isW]; simp [hg.2.2.2]), if_neg (by rw [h.isW]; simp [hg.2.1, hg.2.2.1]), if_pos (by rw [h.isN]; rfl)]
    refine ⟨h.next (by decide), ?_⟩
    rw [h.peek.2]
    exact same_leaf 7 t _ a
theorem ofVs_app (a b : List Rd.V) : ofVs (a ++ b) = ofVs a ++ ofVs b := by rw [ofVs_map, ofVs_map, ofVs_map, List.map_append]
theorem kts_len_app (a b : List Lx.Wd) : (kts (a ++ b)).length = (kts a).length + (kts b).length := by rw [kts_app, List.length_append]
theorem down_deep (c : List UInt8) (s : Rd.St) : (Rd.down c s).deep = s.deep + 1 := Rd.down_deep c s
theorem At.len {s : Rd.St} {ks : List (Nat × List UInt8)} {rest : List Lx.Tok} (h : At s ks rest) : ks.length ≤ s.rest.length := by
  obtain ⟨a, h1, h2⟩ := h.is
  rw [h1, ← h2, List.length_map, List.length_append]; omega
mutual
theorem value_at : ∀ (z : Z) (deep : Nat) (g : List UInt8) (fixed : Bool) (n : Nat) (s : Rd.St) (ks : List (Nat × List UInt8)) (rest : List Lx.Tok), z.good deep = true → (fixed = true → z.nov = true) → At s (kts (Z.wds g z) ++ ks) rest → s.deep = deep → (kts (Z.wds g z)).length < n →
    At (Rd.value fixed n s).1 ks rest ∧ (ofV (Rd.value fixed n s).2).same z = true
  | z, deep, g, fixed, 0, s, ks, rest, h, hv, hat, hd, hn => by omega
  | .mk k t i f a, deep, g, fixed, n + 1, s, ks, rest, h, hv, hat, hd, hn => by
    rw [Z.good, Bool.and_eq_true] at h
    have hv' : fixed = true → k ≠ 1 ∧ Z.novs i = true ∧ ZA.novs f = true := fun e => by
      have := hv e
      rw [Z.nov] at this
      simpa using this
    by_cases hm : many k
    · rw [if_neg (by unfold many at hm; omega), if_pos hm] at h
      simp only [Bool.and_eq_true, decide_eq_true_eq] at h
      obtain ⟨hp, ⟨rfl, hd16⟩, hi, hf⟩ := h
      rw [Z.wds, if_pos hm, ks_shut] at hat hn
      have hat : At s ((5, opn k) :: ((kts (Z.wdss true i) ++ (kts (ZA.wdss true f) ++ [(5, shut k)])) ++ ks)) rest := hat
      simp only [List.length_cons, List.length_append, List.length_nil] at hn
      unfold Rd.value
      dsimp only
      rw [if_neg (by rw [hat.isS]; unfold opn; split <;> decide)]
      have hp' := hp
      unfold parts at hp
      unfold many at hm
      simp only [Bool.and_eq_true, Bool.or_eq_true, decide_eq_true_eq] at hp
      rcases hm with rfl | rfl
      · obtain rfl : f = [] := List.eq_nil_of_length_eq_zero (by omega)
        rw [ZA.wdss] at hat
        have hat : At s ((5, Rd.lbrk) :: (kts (Z.wdss true i) ++ ((5, Rd.rbrk) :: ks))) rest := by
          have e : (kts (Z.wdss true i) ++ (kts [] ++ [(5, shut 8)])) ++ ks = kts (Z.wdss true i) ++ ((5, Rd.rbrk) :: ks) := by simp [kts, shut, Rd.rbrk]
          rw [e] at hat; exact hat
        rw [if_pos (by rw [hat.isS]; rfl)]
        have h1 := hat.down (by omega)
        have hl := h1.len
        rw [List.length_append] at hl
        obtain ⟨h2, vs, e2, h3⟩ := loop_at i (deep + 1) true fixed n _ Rd.rbrk ks rest [] hi (fun e => (hv' e).2.1) h1 (by rw [down_deep]; omega) (by omega) (by decide) ((Rd.down Rd.lbrk s).rest.length + 1) (by omega)
        refine ⟨h2.up, ?_⟩
        show (ofV (.mk 8 [] _ [] _)).same _ = true
        rw [e2, List.nil_append, ofV, Z.same, h3, ofAs, ZA.sames]
        simp
      · obtain rfl : i = [] := List.eq_nil_of_length_eq_zero (by omega)
        rw [Z.wdss] at hat
        have hat : At s ((5, Rd.lbrc) :: (kts (ZA.wdss true f) ++ ((5, Rd.rbrc) :: ks))) rest := by
          have e : (kts [] ++ (kts (ZA.wdss true f) ++ [(5, shut 9)])) ++ ks = kts (ZA.wdss true f) ++ ((5, Rd.rbrc) :: ks) := by simp [kts, shut, Rd.rbrc]
          rw [e] at hat; exact hat
        rw [if_neg (by rw [hat.isS]; decide), if_pos (by rw [hat.isS]; rfl)]
        have h1 := hat.down (by omega)
        have hl := h1.len
        rw [List.length_append] at hl
        obtain ⟨h2, vs, e2, h3⟩ := loopA_at f (deep + 1) true fixed n _ Rd.rbrc ks rest [] hf (fun e => (hv' e).2.2) h1 (by rw [down_deep]; omega) (by omega) (by decide) ((Rd.down Rd.lbrc s).rest.length + 1) (by omega)
        refine ⟨h2.up, ?_⟩
        show (ofV (.mk 9 [] [] _ _)).same _ = true
        rw [e2, List.nil_append, ofV, Z.same, h3, ofVs, Z.sames]
        simp
    · rw [if_neg hm] at h
      obtain ⟨rfl, rfl⟩ := parts_leaf h.1 hm
      by_cases h17 : 1 ≤ k ∧ k ≤ 7
      · rw [if_pos h17] at h
        rw [Z.wds, if_neg hm] at hat
        exact value_leaf h17 h.2 (fun e => (hv' e).1) hat
      · rw [if_neg h17] at h
        cases h.2
theorem loop_at : ∀ (r : List Z) (deep : Nat) (b : Bool) (fixed : Bool) (n : Nat) (s : Rd.St) (c : List UInt8) (ks : List (Nat × List UInt8)) (rest : List Lx.Tok) (out : List Rd.V), Z.goods deep r = true → (fixed = true → Z.novs r = true) → At s (kts (Z.wdss b r) ++ (5, c) :: ks) rest → s.deep = deep → (kts (Z.wdss b r)).length < n → (c = [93] ∨ c = [125]) →
    ∀ m, (kts (Z.wdss b r)).length < m → At (Rd.loop c (Rd.value fixed n) m s out).1 ((5, c) :: ks) rest ∧ ∃ vs, (Rd.loop c (Rd.value fixed n) m s out).2 = out ++ vs ∧ Z.sames (ofVs vs) r = true
  | _, _, _, _, _, _, _, _, _, _, _, _, _, _, _, _, 0, h => by omega
  | [], deep, b, fixed, n, s, c, ks, rest, out, hg, hv, hat, hd, hn, hc, m + 1, hm => by
    rw [Z.wdss] at hat
    have hat : At s ((5, c) :: ks) rest := hat
    unfold Rd.loop
    rw [if_neg (fun e => by rw [hat.isS] at e; simp at e)]
    exact ⟨hat, [], by simp, by rw [ofVs, Z.sames]⟩
  | x :: r, deep, b, fixed, n, s, c, ks, rest, out, hg, hv, hat, hd, hn, hc, m + 1, hm => by
    rw [Z.goods, Bool.and_eq_true] at hg
    have hv' : (fixed = true → x.nov = true) ∧ (fixed = true → Z.novs r = true) := by
      constructor
      · intro e; have := hv e; rw [Z.novs, Bool.and_eq_true] at this; exact this.1
      · intro e; have := hv e; rw [Z.novs, Bool.and_eq_true] at this; exact this.2
    rw [Z.wdss, kts_app] at hn hm
    rw [Z.wdss, kts_app, List.append_assoc] at hat
    rw [List.length_append] at hn hm
    obtain ⟨k1, T1, r1, e1, h5, h0⟩ := wds_first hg.1 (gp b)
    have hl1 : 1 ≤ (kts (Z.wds (gp b) x)).length := by rw [e1]; simp
    have hat2 := hat
    rw [e1] at hat2
    have hat2 : At s ((k1, T1) :: (r1 ++ (kts (Z.wdss false r) ++ (5, c) :: ks))) rest := hat2
    have hs : Rd.isS s c = false := by
      rw [hat2.isS]
      by_cases hk : k1 = 5
      · have := h5 hk
        rcases hc with rfl | rfl
        · simp [hk, this.1]
        · simp [hk, this.2]
      · simp [hk]
    unfold Rd.loop
    rw [if_pos ⟨hat.err, hs⟩]
    obtain ⟨h2, h3⟩ := value_at x deep (gp b) fixed n s _ rest hg.1 hv'.1 hat hd (by omega)
    obtain ⟨h4, vs, e4, h6⟩ := loop_at r deep false fixed n _ c ks rest (out ++ [(Rd.value fixed n s).2]) hg.2 hv'.2 h2 (by rw [Rd.value_deep]; exact hd) (by omega) hc m (by omega)
    exact ⟨h4, (Rd.value fixed n s).2 :: vs, by rw [e4]; simp, by rw [ofVs, Z.sames, h3, h6]; rfl⟩
theorem argOf_at : ∀ (z : ZA) (deep : Nat) (g : List UInt8) (fixed : Bool) (n : Nat) (s : Rd.St) (ks : List (Nat × List UInt8)) (rest : List Lx.Tok), z.good deep = true → (fixed = true → z.nov = true) → At s (kts (ZA.wds g z) ++ ks) rest → s.deep = deep → (kts (ZA.wds g z)).length < n →
    At (Rd.argOf (Rd.value fixed n) s).1 ks rest ∧ (ofA (Rd.argOf (Rd.value fixed n) s).2).same z = true
  | .mk nm v a, deep, g, fixed, n, s, ks, rest, h, hv, hat, hd, hn => by
    rw [ZA.good, Bool.and_eq_true] at h
    rw [ZA.wds] at hat hn
    have hat : At s ((1, nm) :: (5, [58]) :: (kts (Z.wds [32] v) ++ ks)) rest := hat
    have hn : (kts (Z.wds [32] v)).length + 1 + 1 < n := hn
    have h1 := hat.name
    have h2 : At (Rd.want Rd.colon (Rd.name s).1) (kts (Z.wds [32] v) ++ ks) rest := h1.1.want
    obtain ⟨h3, h4⟩ := value_at v deep [32] fixed n _ ks rest h.2 (fun e => by have := hv e; rw [ZA.nov] at this; exact this) h2 (by rw [Rd.want_deep, Rd.name_deep]; exact hd) (by omega)
    refine ⟨h3, ?_⟩
    show (ofA (.mk (Rd.name s).2 _ _)).same _ = true
    rw [ofA, ZA.same, h1.2, h4]
    simp
theorem loopA_at : ∀ (r : List ZA) (deep : Nat) (b : Bool) (fixed : Bool) (n : Nat) (s : Rd.St) (c : List UInt8) (ks : List (Nat × List UInt8)) (rest : List Lx.Tok) (out : List Rd.A), ZA.goods deep r = true → (fixed = true → ZA.novs r = true) → At s (kts (ZA.wdss b r) ++ (5, c) :: ks) rest → s.deep = deep → (kts (ZA.wdss b r)).length < n → (c = [93] ∨ c = [125]) →
    ∀ m, (kts (ZA.wdss b r)).length < m → At (Rd.loop c (Rd.argOf (Rd.value fixed n)) m s out).1 ((5, c) :: ks) rest ∧ ∃ vs, (Rd.loop c (Rd.argOf (Rd.value fixed n)) m s out).2 = out ++ vs ∧ ZA.sames (ofAs vs) r = true
  | _, _, _, _, _, _, _, _, _, _, _, _, _, _, _, _, 0, h => by omega
  | [], deep, b, fixed, n, s, c, ks, rest, out, hg, hv, hat, hd, hn, hc, m + 1, hm => by
    rw [ZA.wdss] at hat
    have hat : At s ((5, c) :: ks) rest := hat
    unfold Rd.loop
    rw [if_neg (fun e => by rw [hat.isS] at e; simp at e)]
    exact ⟨hat, [], by simp, by rw [ofAs, ZA.sames]⟩
  | x :: r, deep, b, fixed, n, s, c, ks, rest, out, hg, hv, hat, hd, hn, hc, m + 1, hm => by
    rw [ZA.goods, Bool.and_eq_true] at hg
    have hv' : (fixed = true → x.nov = true) ∧ (fixed = true → ZA.novs r = true) := by
      constructor
      · intro e; have := hv e; rw [ZA.novs, Bool.and_eq_true] at this; exact this.1
      · intro e; have := hv e; rw [ZA.novs, Bool.and_eq_true] at this; exact this.2
    rw [ZA.wdss, kts_app] at hn hm
    rw [ZA.wdss, kts_app, List.append_assoc] at hat
    rw [List.length_append] at hn hm
    have hl1 : 1 ≤ (kts (ZA.wds (gp b) x)).length := by cases x; rw [ZA.wds]; simp [kts]
    have hs : Rd.isS s c = false := by
      cases x with
      | mk nm v a =>
        have hat2 : At s ((1, nm) :: ((5, [58]) :: (kts (Z.wds [32] v)) ++ (kts (ZA.wdss false r) ++ (5, c) :: ks))) rest := by rw [ZA.wds] at hat; exact hat
        rw [hat2.isS]; simp
    unfold Rd.loop
    rw [if_pos ⟨hat.err, hs⟩]
    obtain ⟨h2, h3⟩ := argOf_at x deep (gp b) fixed n s _ rest hg.1 hv'.1 hat hd (by omega)
    obtain ⟨h4, vs, e4, h6⟩ := loopA_at r deep false fixed n _ c ks rest (out ++ [(Rd.argOf (Rd.value fixed n) s).2]) hg.2 hv'.2 h2 (by rw [Rd.argOf_deep _ (Rd.value_deep fixed n)]; exact hd) (by omega) hc m (by omega)
    exact ⟨h4, (Rd.argOf (Rd.value fixed n) s).2 :: vs, by rw [e4]; simp, by rw [ofAs, ZA.sames, h3, h6]; rfl⟩
end
end Vl
end Go.Proofs.YtabcaljnpahgpaaGreatDoor
