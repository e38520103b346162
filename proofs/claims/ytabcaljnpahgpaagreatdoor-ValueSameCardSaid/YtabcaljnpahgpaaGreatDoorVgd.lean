/-
  What was read is good, and its words are the tokens it was read of; so its text is read as the value (plain).
-/
import Derived.Test.YtabcaljnpahgpaaGreatDoorVgc
import Derived.Test.YtabcaljnpahgpaaGreatDoorVlm
namespace Go.Proofs.YtabcaljnpahgpaaGreatDoor
set_option linter.unusedSimpArgs false
set_option linter.unusedVariables false
namespace Vl
/-- What a round of a loop reads, one behind the other. -/
def QL {α : Type} (Q : List Lx.Tok → α → Prop) : List Lx.Tok → List α → Prop
  | pre, [] => pre = []
  | pre, v :: vs => ∃ p q, pre = p ++ q ∧ Q p v ∧ QL Q q vs
/-- From this state what is read of its tokens is so. -/
def Reads_ {α : Type} (L d : Nat) (f : Rd.St → Rd.St × α) (Q : List Lx.Tok → α → Prop) : Prop :=
  ∀ s : Rd.St, s.rest.length ≤ L → s.err = 0 → s.deep = d → (∀ t ∈ s.rest, Lx.TokG t) → (f s).1.err = 0 → ∃ pre, s.rest = pre ++ (f s).1.rest ∧ Q pre (f s).2
theorem tail_tokG {s : List Lx.Tok} {pre r : List Lx.Tok} (h : ∀ t ∈ s, Lx.TokG t) (e : s = pre ++ r) : ∀ t ∈ r, Lx.TokG t := fun t ht => h t (by rw [e]; exact List.mem_append_right _ ht)
theorem loop_reads {α : Type} {L d : Nat} {f : Rd.St → Rd.St × α} {Q : List Lx.Tok → α → Prop} (ho : ∀ s, Rd.Ok s (f s).1) (hdp : ∀ s, (f s).1.deep = s.deep) (hf : Reads_ L d f Q) (c : List UInt8) : ∀ (m : Nat) (s : Rd.St) (out : List α), s.rest.length ≤ L → s.err = 0 → s.deep = d → (∀ t ∈ s.rest, Lx.TokG t) → (Rd.loop c f m s out).1.err = 0 →
    ∃ pre vs, s.rest = pre ++ (Rd.loop c f m s out).1.rest ∧ (Rd.loop c f m s out).2 = out ++ vs ∧ QL Q pre vs
  | 0, s, out, hL, h0, hd, ht, he => ⟨[], [], by rw [Rd.loop]; rfl, by rw [Rd.loop]; simp, rfl⟩
  | m + 1, s, out, hL, h0, hd, ht, he => by
    unfold Rd.loop at he ⊢
    by_cases hs : Rd.isS s c = false
    · rw [if_pos ⟨h0, hs⟩] at he
      rw [if_pos ⟨h0, hs⟩]
      have h1 := Rd.err_back (Rd.ok_loop c f ho m _ _) he
      obtain ⟨p, e1, hQ⟩ := hf s hL h0 hd ht h1
      obtain ⟨q, vs, e2, e3, hQL⟩ := loop_reads ho hdp hf c m (f s).1 (out ++ [(f s).2]) (by rw [e1, List.length_append] at hL; omega) h1 (by rw [hdp]; exact hd) (tail_tokG ht e1) he
      exact ⟨p ++ q, (f s).2 :: vs, by rw [List.append_assoc, ← e2]; exact e1, by rw [e3]; simp, p, q, rfl, hQ, hQL⟩
    · rw [if_neg (fun e => hs e.2)]
      exact ⟨[], [], rfl, by simp, rfl⟩
theorem name_reads {s : Rd.St} (h0 : s.err = 0) (he : (Rd.name s).1.err = 0) : ∃ t, s.rest = t :: (Rd.name s).1.rest ∧ t.kind = 1 ∧ t.text = (Rd.name s).2 := by
  unfold Rd.name at he ⊢
  split at he
  · rename_i hn
    rw [if_pos hn]
    obtain ⟨-, hk⟩ := Rd.isN_parts hn
    have hp := Rd.peek_head (s := s) (by omega)
    obtain ⟨r, e1, e2⟩ := hp
    refine ⟨Rd.peek s, ?_, hk, rfl⟩
    show s.rest = Rd.peek s :: (Rd.next s).rest
    unfold Rd.next
    rw [if_pos ⟨h0, by omega⟩]
    show s.rest = Rd.peek s :: s.rest.drop 1
    rw [e2]; exact e1
  · exact absurd he Rd.wrong_bad
theorem next_reads {s : Rd.St} (h0 : s.err = 0) (hk : (Rd.peek s).kind ≠ 0) : s.rest = Rd.peek s :: (Rd.next s).rest := by
  obtain ⟨r, e1, e2⟩ := Rd.peek_head (s := s) hk
  unfold Rd.next
  rw [if_pos ⟨h0, hk⟩]
  show s.rest = Rd.peek s :: s.rest.drop 1
  rw [e2]; exact e1
theorem want_reads {c : List UInt8} {s : Rd.St} (h0 : s.err = 0) (he : (Rd.want c s).err = 0) : ∃ t, s.rest = t :: (Rd.want c s).rest ∧ Rd.ktx t = (5, c) := by
  unfold Rd.want at he ⊢
  split at he
  · rename_i hs
    rw [if_pos hs]
    obtain ⟨-, hk, ht⟩ := Rd.isS_parts hs
    exact ⟨Rd.peek s, next_reads h0 (by omega), by unfold Rd.ktx; rw [hk, ht]⟩
  · exact absurd he Rd.wrong_bad
theorem down_reads {c : List UInt8} {s : Rd.St} {d : Nat} (h0 : s.err = 0) (hd : s.deep = d) (h16 : d ≤ 16) (he : (Rd.down c s).err = 0) : ∃ t, s.rest = t :: (Rd.down c s).rest ∧ Rd.ktx t = (5, c) ∧ d < 16 := by
  unfold Rd.down at he ⊢
  dsimp only at he ⊢
  by_cases hf : Rd.isS s c = true ∧ s.deep = 16
  · rw [if_pos hf] at he
    have hb : (Rd.fail 42 s).err ≠ 0 := by
      unfold Rd.fail
      rw [if_pos h0]
      exact Nat.succ_ne_zero _
    have := Rd.err_back (Rd.ok_want c _) he
    exact absurd this hb
  · rw [if_neg hf] at he ⊢
    obtain ⟨t, e, k⟩ := want_reads h0 he
    refine ⟨t, e, k, ?_⟩
    have hs : Rd.isS s c = true := by
      cases hs : Rd.isS s c with
      | true => rfl
      | false =>
        exfalso
        have he : (Rd.want c s).err = 0 := he
        unfold Rd.want at he
        rw [if_neg (by rw [hs]; simp)] at he
        exact Rd.wrong_bad he
    have : ¬ s.deep = 16 := fun e => hf ⟨hs, e⟩
    omega
/-- What is known of a value that was read. -/
def QV (fixed : Bool) (d : Nat) (pre : List Lx.Tok) (v : Rd.V) : Prop := (∀ g, pre.map Rd.ktx = kts (Z.wds g (ofV v))) ∧ (ofV v).good d = true ∧ (fixed = true → (ofV v).nov = true)
def QA (fixed : Bool) (d : Nat) (pre : List Lx.Tok) (v : Rd.A) : Prop := (∀ g, pre.map Rd.ktx = kts (ZA.wds g (ofA v))) ∧ (ofA v).good d = true ∧ (fixed = true → (ofA v).nov = true)
theorem ql_v {fixed : Bool} {d : Nat} : ∀ (vs : List Rd.V) (pre : List Lx.Tok) (b : Bool), QL (QV fixed d) pre vs → pre.map Rd.ktx = kts (Z.wdss b (ofVs vs)) ∧ Z.goods d (ofVs vs) = true ∧ (fixed = true → Z.novs (ofVs vs) = true)
  | [], pre, b, h => by
    have h : pre = [] := h
    subst h
    rw [ofVs, Z.wdss, Z.goods, Z.novs]; exact ⟨rfl, rfl, fun _ => rfl⟩
  | v :: vs, pre, b, h => by
    obtain ⟨p, q, rfl, ⟨h1, h2, h3⟩, h4⟩ := h
    obtain ⟨h5, h6, h7⟩ := ql_v vs q false h4
    rw [ofVs, Z.wdss, Z.goods, Z.novs, kts_app, List.map_append, h1 (gp b), h5, h2, h6]
    exact ⟨rfl, rfl, fun e => by rw [h3 e, h7 e]; rfl⟩
theorem ql_a {fixed : Bool} {d : Nat} : ∀ (vs : List Rd.A) (pre : List Lx.Tok) (b : Bool), QL (QA fixed d) pre vs → pre.map Rd.ktx = kts (ZA.wdss b (ofAs vs)) ∧ ZA.goods d (ofAs vs) = true ∧ (fixed = true → ZA.novs (ofAs vs) = true)
  | [], pre, b, h => by
    have h : pre = [] := h
    subst h
    rw [ofAs, ZA.wdss, ZA.goods, ZA.novs]; exact ⟨rfl, rfl, fun _ => rfl⟩
  | v :: vs, pre, b, h => by
    obtain ⟨p, q, rfl, ⟨h1, h2, h3⟩, h4⟩ := h
    obtain ⟨h5, h6, h7⟩ := ql_a vs q false h4
    rw [ofAs, ZA.wdss, ZA.goods, ZA.novs, kts_app, List.map_append, h1 (gp b), h5, h2, h6]
    exact ⟨rfl, rfl, fun e => by rw [h3 e, h7 e]; rfl⟩
theorem isName_of {t : List UInt8} (h : Lx.isLetter (Lx.hd t) = true ∧ ∀ c ∈ t, Lx.isWord c = true) : Lx.isName t = true := by
  unfold Lx.isName
  rw [Bool.and_eq_true, List.all_eq_true]
  exact h
theorem arg_reads {fixed : Bool} {L d n : Nat} (hv : Reads_ L d (Rd.value fixed n) (QV fixed d)) : Reads_ L d (Rd.argOf (Rd.value fixed n)) (QA fixed d) := by
  intro s hL h0 hd ht he
  have z2 : (Rd.want Rd.colon (Rd.name s).1).err = 0 := Rd.err_back (Rd.ok_value fixed n _) he
  have z1 : (Rd.name s).1.err = 0 := Rd.err_back (Rd.ok_want Rd.colon _) z2
  obtain ⟨t, e1, hk, htx⟩ := name_reads h0 z1
  obtain ⟨t2, e2, hk2⟩ := want_reads z1 z2
  obtain ⟨p, e3, hw, hg, hn⟩ := hv _ (by rw [e1, e2] at hL; simp at hL; omega) z2 (by rw [Rd.want_deep, Rd.name_deep]; exact hd) (fun x hx => ht x (by rw [e1, e2]; simp [hx])) he
  refine ⟨t :: t2 :: p, ?_, fun g => ?_, ?_, fun e => ?_⟩
  · rw [e1, e2, e3]; rfl
  · show _ = kts (ZA.wds g (ofA (.mk (Rd.name s).2 _ _)))
    rw [ofA, ZA.wds, List.map_cons, List.map_cons, hw [32], hk2]
    unfold Rd.ktx
    rw [hk, htx]
    rfl
  · show (ofA (.mk (Rd.name s).2 _ _)).good d = true
    rw [ofA, ZA.good, hg, ← htx, isName_of ((ht t (by rw [e1]; simp)).1 hk)]
    rfl
  · show (ofA (.mk (Rd.name s).2 _ _)).nov = true
    rw [ofA, ZA.nov]; exact hn e
theorem leaf_reads {fixed : Bool} {d : Nat} {s : Rd.St} (k : Nat) (t : List UInt8) (a : Nat) (h0 : s.err = 0) (hk : (Rd.peek s).kind ≠ 0) (hw : ∀ g, [Rd.ktx (Rd.peek s)] = kts (leafW g k t)) (h17 : 2 ≤ (k : Int) ∧ (k : Int) ≤ 7) (hg : (leaf k t).1 = true) :
    ∃ pre, s.rest = pre ++ (Rd.next s).rest ∧ QV fixed d pre (.mk k t [] [] a) := by
  have hm : ¬ many (k : Int) := by unfold many; omega
  refine ⟨[Rd.peek s], next_reads h0 hk, fun g => ?_, ?_, fun e => ?_⟩
  · rw [ofV, Z.wds, if_neg hm]
    exact hw g
  · rw [ofV, ofVs, ofAs, Z.good, if_pos (by omega), hg]
    unfold parts
    simp
  · rw [ofV, ofVs, ofAs, Z.nov, Z.novs, ZA.novs]
    simp
    omega
theorem value_reads (fixed : Bool) : ∀ (n d : Nat), d ≤ 16 → Reads_ n d (Rd.value fixed (n + 1)) (QV fixed d)
  | n, d, hd16 => by
    intro s hL h0 hd ht he
    unfold Rd.value at he ⊢
    dsimp only at he ⊢
    by_cases c1 : Rd.isS s Rd.dollar = true
    · rw [if_pos c1] at he ⊢
      obtain ⟨-, hk, htx⟩ := Rd.isS_parts c1
      cases fixed with
      | true =>
        simp only [if_true] at he
        have hb : (Rd.wrong s).err ≠ 0 := Rd.wrong_bad
        rw [Rd.next_err hb, Rd.name_err hb] at he
        exact absurd he hb
      | false =>
        simp only [Bool.false_eq_true, if_false] at he ⊢
        have e1 := next_reads h0 (s := s) (by omega)
        have hn0 : (Rd.next s).err = 0 := (Rd.next_kind h0 (by omega)).2
        obtain ⟨t, e2, hk2, htx2⟩ := name_reads hn0 he
        refine ⟨[Rd.peek s, t], by rw [e1, e2]; rfl, fun g => ?_, ?_, fun e => by cases e⟩
        · rw [ofV, Z.wds, if_neg (by unfold many; omega)]
          unfold leafW
          rw [if_pos (by rfl)]
          simp only [List.map_cons, List.map_nil, Rd.ktx, hk, htx, hk2, htx2]
          rfl
        · rw [ofV, ofVs, ofAs, Z.good, if_pos (by decide)]
          unfold leaf
          rw [if_pos (by rfl), ← htx2, isName_of ((ht t (by rw [e1, e2]; simp)).1 hk2)]
          rfl
    rw [if_neg c1] at he ⊢
    by_cases c2 : Rd.isS s Rd.lbrk = true
    · rw [if_pos c2] at he ⊢
      have z2 : (Rd.loop Rd.rbrk (Rd.value fixed n) ((Rd.down Rd.lbrk s).rest.length + 1) (Rd.down Rd.lbrk s) []).1.err = 0 := Rd.err_back (Rd.ok_want Rd.rbrk _) (show (Rd.want Rd.rbrk _).err = 0 from he)
      have z1 : (Rd.down Rd.lbrk s).err = 0 := Rd.err_back (Rd.ok_loop Rd.rbrk _ (Rd.ok_value fixed n) _ _ _) z2
      obtain ⟨t, e1, hk, hlt⟩ := down_reads h0 hd hd16 z1
      have hL1 : (Rd.down Rd.lbrk s).rest.length + 1 ≤ n := by rw [e1] at hL; simpa using hL
      have hrd : Reads_ (n - 1) (d + 1) (Rd.value fixed n) (QV fixed (d + 1)) := by
        cases n with
        | zero => omega
        | succ n => exact value_reads fixed n (d + 1) (by omega)
      obtain ⟨p, vs, e2, e3, hQ⟩ := loop_reads (Rd.ok_value fixed n) (Rd.value_deep fixed n) hrd Rd.rbrk _ _ _ (by omega) z1 (by rw [Rd.down_deep, hd]; rfl) (fun x hx => ht x (by rw [e1]; simp [hx])) z2
      obtain ⟨t3, e4, hk3⟩ := want_reads z2 (show (Rd.want Rd.rbrk _).err = 0 from he)
      rw [List.nil_append] at e3
      obtain ⟨q1, q2, q3⟩ := ql_v vs p true hQ
      refine ⟨t :: (p ++ [t3]), ?_, fun g => ?_, ?_, fun e => ?_⟩
      · refine e1.trans ((congrArg (t :: ·) (e2.trans (congrArg (p ++ ·) e4))).trans ?_)
        show _ = _ ++ (Rd.want Rd.rbrk _).rest
        simp
      · rw [e3, ofV, Z.wds, if_pos (.inl rfl), ks_shut, ofAs, ZA.wdss, List.map_cons, List.map_append, hk, q1, List.map_cons, hk3]
        rfl
      · rw [e3, ofV, ofAs, Z.good, if_neg (by omega), if_pos (.inl rfl), q2, ZA.goods]
        have : decide (d < 16) = true := decide_eq_true hlt
        rw [this]
        unfold parts
        simp
      · rw [e3, ofV, ofAs, Z.nov, q3 e, ZA.novs]; rfl
    rw [if_neg c2] at he ⊢
    by_cases c3 : Rd.isS s Rd.lbrc = true
    · rw [if_pos c3] at he ⊢
      have z2 : (Rd.loop Rd.rbrc (Rd.argOf (Rd.value fixed n)) ((Rd.down Rd.lbrc s).rest.length + 1) (Rd.down Rd.lbrc s) []).1.err = 0 := Rd.err_back (Rd.ok_want Rd.rbrc _) (show (Rd.want Rd.rbrc _).err = 0 from he)
      have z1 : (Rd.down Rd.lbrc s).err = 0 := Rd.err_back (Rd.ok_loop Rd.rbrc _ (Rd.ok_argOf _ (Rd.ok_value fixed n)) _ _ _) z2
      obtain ⟨t, e1, hk, hlt⟩ := down_reads h0 hd hd16 z1
      have hL1 : (Rd.down Rd.lbrc s).rest.length + 1 ≤ n := by rw [e1] at hL; simpa using hL
      have hrd : Reads_ (n - 1) (d + 1) (Rd.argOf (Rd.value fixed n)) (QA fixed (d + 1)) := by
        cases n with
        | zero => omega
        | succ n => exact arg_reads (value_reads fixed n (d + 1) (by omega))
      obtain ⟨p, vs, e2, e3, hQ⟩ := loop_reads (Rd.ok_argOf _ (Rd.ok_value fixed n)) (Rd.argOf_deep _ (Rd.value_deep fixed n)) hrd Rd.rbrc _ _ _ (by omega) z1 (by rw [Rd.down_deep, hd]; rfl) (fun x hx => ht x (by rw [e1]; simp [hx])) z2
      obtain ⟨t3, e4, hk3⟩ := want_reads z2 (show (Rd.want Rd.rbrc _).err = 0 from he)
      rw [List.nil_append] at e3
      obtain ⟨q1, q2, q3⟩ := ql_a vs p true hQ
      refine ⟨t :: (p ++ [t3]), ?_, fun g => ?_, ?_, fun e => ?_⟩
      · refine e1.trans ((congrArg (t :: ·) (e2.trans (congrArg (p ++ ·) e4))).trans ?_)
        show _ = _ ++ (Rd.want Rd.rbrc _).rest
        simp
      · rw [e3, ofV, Z.wds, if_pos (.inr rfl), ks_shut, ofVs, Z.wdss, List.map_cons, List.map_append, hk, q1, List.map_cons, hk3]
        rfl
      · rw [e3, ofV, ofVs, Z.good, if_neg (by omega), if_pos (.inr rfl), q2, Z.goods]
        have : decide (d < 16) = true := decide_eq_true hlt
        rw [this]
        unfold parts
        simp
      · rw [e3, ofV, ofVs, Z.nov, q3 e, Z.novs]; rfl
    rw [if_neg c3] at he ⊢
    have hpk : (Rd.peek s).kind ≠ 0 → Lx.TokG (Rd.peek s) := fun hk => ht _ (by rw [next_reads h0 hk]; simp)
    by_cases c4 : (Rd.peek s).kind = 2
    · rw [if_pos c4] at he ⊢
      have hg := (hpk (by omega)).2.1 (.inl c4)
      rw [c4] at hg
      exact leaf_reads 2 _ _ h0 (by omega) (fun g => by unfold Rd.ktx; rw [c4]; rfl) (by decide) (show one _ 2 = true from one_of hg.1 hg.2)
    rw [if_neg c4] at he ⊢
    by_cases c5 : (Rd.peek s).kind = 3
    · rw [if_pos c5] at he ⊢
      have hg := (hpk (by omega)).2.1 (.inr c5)
      rw [c5] at hg
      exact leaf_reads 3 _ _ h0 (by omega) (fun g => by unfold Rd.ktx; rw [c5]; rfl) (by decide) (show one _ 3 = true from one_of hg.1 hg.2)
    rw [if_neg c5] at he ⊢
    by_cases c6 : (Rd.peek s).kind = 4
    · rw [if_pos c6] at he ⊢
      exact leaf_reads 4 _ _ h0 (by omega) (fun g => by unfold Rd.ktx; rw [c6]; rfl) (by decide) (show Lx.valid _ = true from (hpk (by omega)).2.2 c6)
    rw [if_neg c6] at he ⊢
    by_cases c7 : Rd.isW s [Rd.sNull] = true
    · rw [if_pos c7] at he ⊢
      obtain ⟨-, hk, htx⟩ := Rd.isW_parts c7
      have htx : (Rd.peek s).text = Rd.sNull := by
        rcases htx with h | h
        · exact List.mem_singleton.1 h
        · cases h
      exact leaf_reads 6 _ _ h0 (by omega) (fun g => by unfold Rd.ktx; rw [hk, htx]; rfl) (by decide) rfl
    rw [if_neg c7] at he ⊢
    by_cases c8 : Rd.isW s [Rd.sTrue, Rd.sFalse] = true
    · rw [if_pos c8] at he ⊢
      obtain ⟨-, hk, htx⟩ := Rd.isW_parts c8
      have htx : (Rd.peek s).text = Rd.sTrue ∨ (Rd.peek s).text = Rd.sFalse := by
        rcases htx with h | h
        · simpa using h
        · cases h
      refine leaf_reads 5 _ _ h0 (by omega) (fun g => by unfold Rd.ktx; rw [hk]; rfl) (by decide) ?_
      show (decide _ || decide _) = true
      rw [Bool.or_eq_true, decide_eq_true_eq, decide_eq_true_eq]
      exact htx
    rw [if_neg c8] at he ⊢
    by_cases c9 : Rd.isN s = true
    · rw [if_pos c9] at he ⊢
      obtain ⟨-, hk⟩ := Rd.isN_parts c9
      refine leaf_reads 7 _ _ h0 (by omega) (fun g => by unfold Rd.ktx; rw [hk]; rfl) (by decide) ?_
      have hnm := isName_of ((hpk (by omega)).1 hk)
      have hW : ∀ ws, Rd.isW s ws = (ws.any (fun w => decide ((Rd.peek s).text = w)) || ws.isEmpty) := fun ws => by unfold Rd.isW; rw [c9]; rfl
      rw [hW] at c7 c8
      show (Lx.isName _ && _) = true
      rw [hnm]
      simp at c7 c8 ⊢
      exact ⟨c8.1, c8.2, c7⟩
    rw [if_neg c9] at he
    exact absurd he Rd.wrong_bad
-- The same, turned.
mutual
theorem same_symm : ∀ (x y : Z), x.same y = y.same x
  | .mk k t i f a, .mk k' t' i' f' a' => by
    rw [Z.same, Z.same, sames_symm i i', samesA_symm f f', decide_eq_decide.2 (eq_comm (a := k) (b := k')), decide_eq_decide.2 (eq_comm (a := t) (b := t'))]
theorem sames_symm : ∀ (l m : List Z), Z.sames l m = Z.sames m l
  | [], [] => rfl
  | x :: r, y :: s => by rw [Z.sames_cons, Z.sames_cons, same_symm x y, sames_symm r s]
  | [], _ :: _ => by rw [Z.sames, Z.sames]
  | _ :: _, [] => by rw [Z.sames, Z.sames]
theorem sameA_symm : ∀ (x y : ZA), x.same y = y.same x
  | .mk n v a, .mk n' v' a' => by rw [ZA.same, ZA.same, same_symm v v', decide_eq_decide.2 (eq_comm (a := n) (b := n'))]
theorem samesA_symm : ∀ (l m : List ZA), ZA.sames l m = ZA.sames m l
  | [], [] => rfl
  | x :: r, y :: s => by rw [ZA.sames_cons, ZA.sames_cons, sameA_symm x y, samesA_symm r s]
  | [], _ :: _ => by rw [ZA.sames, ZA.sames]
  | _ :: _, [] => by rw [ZA.sames, ZA.sames]
end
mutual
theorem same_refl : ∀ (x : Z), x.same x = true
  | .mk k t i f a => by rw [Z.same, sames_refl i, samesA_refl f]; simp
theorem sames_refl : ∀ (l : List Z), Z.sames l l = true
  | [] => Z.sames_nil
  | x :: r => by rw [Z.sames_cons, same_refl x, sames_refl r]; rfl
theorem sameA_refl : ∀ (x : ZA), x.same x = true
  | .mk n v a => by rw [ZA.same, same_refl v]; simp
theorem samesA_refl : ∀ (l : List ZA), ZA.sames l l = true
  | [] => ZA.sames_nil
  | x :: r => by rw [ZA.sames_cons, sameA_refl x, samesA_refl r]; rfl
end
theorem kts_leaf (g : List UInt8) (k : Int) (t : List UInt8) : ∀ x ∈ kts (leafW g k t), x.1 ≠ 0 := by
  unfold leafW
  repeat' split
  all_goals (intro x hx; simp [kts] at hx)
  · rcases hx with rfl | rfl <;> simp
  all_goals (subst hx; simp)
mutual
theorem kts_nz : ∀ (z : Z) (g : List UInt8), ∀ x ∈ kts (Z.wds g z), x.1 ≠ 0
  | .mk k t i f a, g => by
    rw [Z.wds]
    split
    · rw [ks_shut]
      intro x hx
      rcases List.mem_cons.1 hx with rfl | hx
      · simp
      rcases List.mem_append.1 hx with hx | hx
      · exact ktss_nz i true x hx
      rcases List.mem_append.1 hx with hx | hx
      · exact ktssA_nz f true x hx
      · rw [List.mem_singleton.1 hx]; simp
    · exact kts_leaf g k t
theorem ktss_nz : ∀ (l : List Z) (b : Bool), ∀ x ∈ kts (Z.wdss b l), x.1 ≠ 0
  | [], b => by rw [Z.wdss]; intro x hx; simp [kts] at hx
  | y :: r, b => by
    rw [Z.wdss, kts_app]
    intro x hx
    rcases List.mem_append.1 hx with hx | hx
    · exact kts_nz y _ x hx
    · exact ktss_nz r false x hx
theorem ktsA_nz : ∀ (z : ZA) (g : List UInt8), ∀ x ∈ kts (ZA.wds g z), x.1 ≠ 0
  | .mk n v a, g => by
    rw [ZA.wds]
    intro x hx
    have hx : x ∈ (1, n) :: (5, [58]) :: kts (Z.wds [32] v) := hx
    rcases List.mem_cons.1 hx with rfl | hx
    · simp
    rcases List.mem_cons.1 hx with rfl | hx
    · simp
    · exact kts_nz v _ x hx
theorem ktssA_nz : ∀ (l : List ZA) (b : Bool), ∀ x ∈ kts (ZA.wdss b l), x.1 ≠ 0
  | [], b => by rw [ZA.wdss]; intro x hx; simp [kts] at hx
  | y :: r, b => by
    rw [ZA.wdss, kts_app]
    intro x hx
    rcases List.mem_append.1 hx with hx | hx
    · exact ktsA_nz y _ x hx
    · exact ktssA_nz r false x hx
end
/-- How much is put, by its words. -/
def wmass : List (Nat × List UInt8) → Nat
  | [] => 0
  | x :: r => 30 + 6 * x.2.length + wmass r
theorem wmass_app : ∀ a b, wmass (a ++ b) = wmass a + wmass b
  | [], b => by simp [wmass]
  | t :: a, b => by rw [List.cons_append, wmass, wmass, wmass_app a b]; omega
theorem leaf_mass (g : List UInt8) (k : Int) (t : List UInt8) (h : (leaf k t).1 = true) : 30 + 6 * t.length ≤ wmass (kts (leafW g k t)) := by
  unfold leafW
  repeat' split
  all_goals (simp only [kts, List.map_cons, List.map_nil, wmass])
  all_goals try omega
  rename_i k1 k2 k3 k4 k5 k6
  unfold leaf at h
  rw [if_neg k1, if_neg k2, if_neg k3, if_neg k4, if_neg k5, if_pos k6, decide_eq_true_eq] at h
  rw [h]
  simp
mutual
theorem cost_mass : ∀ (z : Z) (g : List UInt8) (d : Nat), z.good d = true → 14 + z.cost ≤ wmass (kts (Z.wds g z))
  | .mk k t i f a, g, d, h => by
    rw [Z.good, Bool.and_eq_true] at h
    rw [Z.cost, Z.wds]
    by_cases hm : many k
    · rw [if_neg (by unfold many at hm; omega), if_pos hm] at h
      simp only [Bool.and_eq_true, decide_eq_true_eq] at h
      obtain ⟨hp, ⟨rfl, hd⟩, hi, hf⟩ := h
      rw [if_pos hm, ks_shut, wmass, wmass_app, wmass_app]
      have h1 := costs_mass i true (d + 1) hi
      have h2 := costsA_mass f true (d + 1) hf
      rw [List.length_nil]
      omega
    · rw [if_neg hm] at h
      obtain ⟨rfl, rfl⟩ := parts_leaf h.1 hm
      rw [if_neg hm, Z.costs, ZA.costs]
      by_cases h17 : 1 ≤ k ∧ k ≤ 7
      · rw [if_pos h17] at h
        have := leaf_mass g k t h.2
        omega
      · rw [if_neg h17] at h
        cases h.2
theorem costs_mass : ∀ (l : List Z) (b : Bool) (d : Nat), Z.goods d l = true → Z.costs l ≤ wmass (kts (Z.wdss b l))
  | [], b, d, h => by rw [Z.costs]; omega
  | x :: r, b, d, h => by
    rw [Z.goods, Bool.and_eq_true] at h
    rw [Z.wdss, kts_app, wmass_app, Z.costs]
    have h1 := cost_mass x (gp b) d h.1
    have h2 := costs_mass r false d h.2
    omega
theorem costA_mass : ∀ (z : ZA) (g : List UInt8) (d : Nat), z.good d = true → 14 + z.cost ≤ wmass (kts (ZA.wds g z))
  | .mk n v a, g, d, h => by
    rw [ZA.good, Bool.and_eq_true] at h
    rw [ZA.wds, ZA.cost]
    have := cost_mass v [32] d h.2
    show _ ≤ 30 + 6 * n.length + (30 + 6 * 1 + wmass (kts (Z.wds [32] v)))
    omega
theorem costsA_mass : ∀ (l : List ZA) (b : Bool) (d : Nat), ZA.goods d l = true → ZA.costs l ≤ wmass (kts (ZA.wdss b l))
  | [], b, d, h => by rw [ZA.costs]; omega
  | x :: r, b, d, h => by
    rw [ZA.goods, Bool.and_eq_true] at h
    rw [ZA.wdss, kts_app, wmass_app, ZA.costs]
    have h1 := costA_mass x (gp b) d h.1
    have h2 := costsA_mass r false d h.2
    omega
end
theorem wmass_toks : ∀ l : List Lx.Tok, wmass (l.map Rd.ktx) = 30 * l.length + 6 * Lx.mass l
  | [] => rfl
  | t :: r => by
    rw [List.map_cons, wmass, wmass_toks r, Lx.mass, List.length_cons]
    show 30 + 6 * t.text.length + _ = _
    omega
mutual
theorem same_cost : ∀ (x y : Z), x.same y = true → x.cost = y.cost ∧ x.n = y.n
  | .mk k t i f a, .mk k' t' i' f' a', h => by
    rw [Z.same] at h
    simp only [Bool.and_eq_true, decide_eq_true_eq] at h
    obtain ⟨rfl, rfl, h3, h4⟩ := h
    have e1 := sames_cost i i' h3
    have e2 := samesA_cost f f' h4
    rw [Z.cost, Z.cost, Z.n, Z.n, e1.1, e1.2, e2.1, e2.2]
    exact ⟨rfl, rfl⟩
theorem sames_cost : ∀ (l m : List Z), Z.sames l m = true → Z.costs l = Z.costs m ∧ Z.ns l = Z.ns m
  | [], [], _ => ⟨rfl, rfl⟩
  | x :: r, y :: s, h => by
    rw [Z.sames_cons, Bool.and_eq_true] at h
    have e1 := same_cost x y h.1
    have e2 := sames_cost r s h.2
    rw [Z.costs, Z.costs, Z.ns, Z.ns, e1.1, e1.2, e2.1, e2.2]
    exact ⟨rfl, rfl⟩
  | [], _ :: _, h => by rw [Z.sames] at h; cases h
  | _ :: _, [], h => by rw [Z.sames] at h; cases h
theorem sameA_cost : ∀ (x y : ZA), x.same y = true → x.cost = y.cost ∧ x.n = y.n
  | .mk n v a, .mk n' v' a', h => by
    rw [ZA.same] at h
    simp only [Bool.and_eq_true, decide_eq_true_eq] at h
    obtain ⟨rfl, h2⟩ := h
    have e1 := same_cost v v' h2
    rw [ZA.cost, ZA.cost, ZA.n, ZA.n, e1.1, e1.2]
    exact ⟨rfl, rfl⟩
theorem samesA_cost : ∀ (l m : List ZA), ZA.sames l m = true → ZA.costs l = ZA.costs m ∧ ZA.ns l = ZA.ns m
  | [], [], _ => ⟨rfl, rfl⟩
  | x :: r, y :: s, h => by
    rw [ZA.sames_cons, Bool.and_eq_true] at h
    have e1 := sameA_cost x y h.1
    have e2 := samesA_cost r s h.2
    rw [ZA.costs, ZA.costs, ZA.ns, ZA.ns, e1.1, e1.2, e2.1, e2.2]
    exact ⟨rfl, rfl⟩
  | [], _ :: _, h => by rw [ZA.sames] at h; cases h
  | _ :: _, [], h => by rw [ZA.sames] at h; cases h
end
/-- A long text is none. -/
theorem parse_long {l : List UInt8} {fixed : Bool} (h : 4096 < l.length) : (parse l fixed).1.err = 5 := by
  have hb : Rd.begin_ l = ⟨[⟨0, [], 0⟩], 0, 0, 5⟩ := by
    unfold Rd.begin_ Lx.lex
    rw [if_pos h]
  unfold parse
  dsimp only
  rw [hb]
  have h1 := (Rd.ok_value fixed (([⟨0, [], 0⟩] : List Lx.Tok).length + 1) ⟨[⟨0, [], 0⟩], 0, 0, 5⟩).err (by decide)
  have e1 : (Rd.value fixed (([⟨0, [], 0⟩] : List Lx.Tok).length + 1) ⟨[⟨0, [], 0⟩], 0, 0, 5⟩).1.err = 5 := by rw [h1]
  have h2 := (ok_fin (Rd.value fixed (([⟨0, [], 0⟩] : List Lx.Tok).length + 1) ⟨[⟨0, [], 0⟩], 0, 0, 5⟩).1).err (by rw [e1]; decide)
  rw [h2]
  exact e1
/-- What was parsed is good, with so many words. -/
theorem parse_good {l : List UInt8} {fixed : Bool} (h : (parse l fixed).1.err = 0) (hl : l.length ≤ 1000) : (ofV (parse l fixed).2).good 0 = true ∧ (fixed = true → (ofV (parse l fixed).2).nov = true) ∧ (kts (Z.wds [] (ofV (parse l fixed).2))).length ≤ l.length ∧ (ofV (parse l fixed).2).cost ≤ 200000000 := by
  unfold parse at h ⊢
  dsimp only at h ⊢
  have h1 := Rd.err_back (ok_fin _) h
  have h2 := Rd.err_back (Rd.ok_value fixed _ _) h1
  obtain ⟨ts, hts, hb⟩ := Sd.begin_ok h2 (fun a c => Lx.lex_err)
  rw [hb] at h h1 h2 ⊢
  obtain ⟨hG, hL, -⟩ := Lx.lex_tokG hts
  obtain ⟨pre, e, hw, hg, hn⟩ := value_reads fixed ts.length 0 (by decide) ⟨ts, 0, 0, 0⟩ (Nat.le_refl _) rfl rfl hG h1
  have hcost : (ofV (Rd.value fixed (ts.length + 1) ⟨ts, 0, 0, 0⟩).2).cost ≤ 200000000 := by
    have c1 := cost_mass _ [] 0 hg
    rw [← hw [], wmass_toks] at c1
    have c2 := Lx.lex_mass hts hl
    have e : ts = pre ++ (Rd.value fixed (ts.length + 1) ⟨ts, 0, 0, 0⟩).1.rest := e
    have e3 := congrArg List.length e
    rw [List.length_append] at e3
    have e4 := congrArg Lx.mass e
    rw [Lx.mass_app] at e4
    omega
  refine ⟨hg, hn, ?_, hcost⟩
  rw [← hw [], List.length_map]
  have e2 := congrArg List.length e
  rw [List.length_append] at e2
  have e2 : ts.length = pre.length + _ := e2
  obtain ⟨pr, hpr⟩ := Lx.lex_end hts
  by_cases h0 : (Rd.value fixed (ts.length + 1) ⟨ts, 0, 0, 0⟩).1.rest = []
  · exfalso
    rw [h0, List.append_nil] at e
    have e : ts = pre := e
    have hne : ∀ t ∈ pre, t.kind ≠ 0 := by
      intro t ht
      have : Rd.ktx t ∈ pre.map Rd.ktx := List.mem_map_of_mem ht
      rw [hw []] at this
      exact kts_nz _ _ _ this
    rw [← e, hpr] at hne
    exact hne ⟨0, [], l.length⟩ (by simp) rfl
  · have := List.length_pos_iff.2 h0
    omega
/-- A good value's text is parsed to it. -/
theorem parse_str {z : Z} {fixed : Bool} (h : z.good 0 = true) (hv : fixed = true → z.nov = true) (hl : z.str.length ≤ 4096) (hk : (kts (Z.wds [] z)).length ≤ 1500) : (parse z.str fixed).1.err = 0 ∧ (ofV (parse z.str fixed).2).same z = true := by
  have hf := flat_wds z []
  rw [List.nil_append] at hf
  have hx := Lx.words_lex (t := []) (stand_wds z [] [] 0 (by simp) h Lx.neu_nil) (by simp) (by simpa [kts] using hk) (by rw [List.append_nil, hf]; exact hl)
  rw [List.append_nil, hf] at hx
  have hb : Rd.begin_ z.str = ⟨Lx.toksAt 0 (Z.wds [] z) ++ [⟨0, [], z.str.length⟩], 0, 0, 0⟩ := by
    unfold Rd.begin_
    rw [hx]
  have hat : At (Rd.begin_ z.str) (kts (Z.wds [] z) ++ []) [⟨0, [], z.str.length⟩] := by
    rw [hb, List.append_nil]
    exact ⟨rfl, _, rfl, toksAt_kt _ _⟩
  have hln := hat.len
  rw [List.append_nil] at hln
  obtain ⟨h1, h2⟩ := value_at z 0 [] fixed ((Rd.begin_ z.str).rest.length + 1) _ [] _ h hv hat (by rw [hb]; rfl) (by omega)
  unfold parse
  dsimp only
  refine ⟨?_, h2⟩
  obtain ⟨a, e1, e2⟩ := h1.is
  obtain rfl : a = [] := by simpa using e2
  unfold Rd.fin
  rw [if_neg]
  · exact h1.err
  · unfold Rd.peek
    rw [e1]
    simp
end Vl
end Go.Proofs.YtabcaljnpahgpaaGreatDoor
