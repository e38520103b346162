/-
  A region that draws its order: quiet operations, then one that may do anything, then quiet ones again, and so on: walked once, in the text's order. After the kit's StillTail and Deep.Quiet, whose proofs are turned here: the class of worlds is 'w after some draws', and it begins anew behind each operation that may write.
-/
import Derived.StillTail
import Derived.Deep.QuietTactic
import Derived.BigQuiet
namespace Go.Proofs.YtcinagglbkbmkaaDoor
set_option linter.unusedSimpArgs false
set_option linter.unusedVariables false
open Go Go.RowKit

section
variable {P : Program} {ops : Array Oper} {md : Region.Mode} {C : World → Prop}

/-- All operations below k have come up, no other. -/
structure UpTo (ops : Array Oper) (k : Nat) (listed : Array Bool) : Prop where
  size : listed.size = ops.size
  yes : ∀ j, j < k → j < ops.size → listed.getD j false = true
  no : ∀ j, k ≤ j → j < ops.size → listed.getD j true = false

theorem UpTo.set {k : Nat} {listed : Array Bool} (h : UpTo ops k listed) (hk : k < ops.size) : UpTo ops (k + 1) (listed.setIfInBounds k true) :=
  ⟨by simp [h.size], fun j hj hj' => by
    by_cases e : k = j
    · subst e; simp [h.size, hk]
    · rw [getD_set_ne false e]; exact h.yes j (by omega) hj', fun j hj hj' => by rw [getD_set_ne true (by omega)]; exact h.no j (by omega) hj'⟩

/-- Each operation of 'k .. n-1' is waited for by a later one, up to n; each one behind n waits for one from n on; what an operation below n waits for stands before it. -/
def sinkB (md : Region.Mode) (ops : Array Oper) (k n : Nat) : Bool :=
  ((List.range n).all fun i => decide (i < k) || (List.range (n + 1)).any fun j => decide (i < j) && Region.waitsFor md ops j i) &&
  ((List.range ops.size).all fun t => decide (t ≤ n) || (List.range t).any fun j => decide (n ≤ j) && Region.waitsFor md ops t j)

/-- What holds of the list while operations 'k .. n-1' come up. -/
structure Seg (md : Region.Mode) (ops : Array Oper) (k n : Nat) (listed : Array Bool) : Prop where
  size : listed.size = ops.size
  below : ∀ j, j < k → j < ops.size → listed.getD j false = true
  closed : ∀ j oj, ops[j]? = some oj → listed.getD j false = true → ∀ e ∈ oj.after, Region.binds md e = true → listed.getD e.on false = true
  tail : ∀ t, n ≤ t → t < ops.size → listed.getD t true = false

theorem Seg.set {k n i : Nat} {listed : Array Bool} (inv : Seg md ops k n listed) (hi : i ∈ Region.ready md ops listed) (hin : i < n) : Seg md ops k n (listed.setIfInBounds i true) := by
  obtain ⟨_, oi, hoi, hall⟩ := mem_ready.1 hi
  refine ⟨by simp [inv.size], fun j hj hj' => getD_set_true (inv.below j hj hj'), fun j oj hj hl e he hb => ?_, fun t ht ht' => by rw [getD_set_ne true (by omega)]; exact inv.tail t ht ht'⟩
  by_cases hij : i = j
  · subst hij
    have : oj = oi := Option.some.inj (hj.symm.trans hoi)
    subst this
    exact getD_set_true (hall e he hb)
  · rw [getD_set_ne false hij] at hl
    exact getD_set_true (inv.closed j oj hj hl e he hb)

theorem seg_waits {k n : Nat} {listed : Array Bool} (hs : sinkB md ops k n = true) (hn : n < ops.size) (inv : Seg md ops k n listed) :
    ∀ (d i : Nat), n - i = d → i < n → listed.getD i true = false → ∀ t, n ≤ t → t ∉ Region.ready md ops listed := by
  simp only [sinkB, Bool.and_eq_true] at hs
  intro d
  induction d using Nat.strongRecOn with
  | _ d ih =>
    intro i hd hi hun t ht hr
    obtain ⟨_, ot, hot, hall⟩ := mem_ready.1 hr
    have htlt : t < ops.size := (Array.getElem?_eq_some_iff.1 hot).1
    by_cases htn : t = n
    · subst htn
      have h1 := List.all_eq_true.1 hs.1 i (List.mem_range.2 hi)
      simp only [Bool.or_eq_true, decide_eq_true_eq] at h1
      rcases h1 with h1 | h1
      · have := inv.below i h1 (by omega)
        rw [getD_both hun] at this
        cases this
      · obtain ⟨j, hj, hj2⟩ := List.any_eq_true.1 h1
        simp only [Bool.and_eq_true, decide_eq_true_eq] at hj2
        obtain ⟨oj, hoj, e, he, hb, hon⟩ := Region.waitsFor_spec hj2.2
        have hjle : j ≤ t := by have := List.mem_range.1 hj; omega
        by_cases hjt : j = t
        · subst hjt
          have : oj = ot := Option.some.inj (hoj.symm.trans hot)
          subst this
          have h2 := hall e he hb
          rw [hon, getD_both hun] at h2
          cases h2
        · cases hl : listed.getD j false with
          | true =>
            have h2 := inv.closed j oj hoj hl e he hb
            rw [hon, getD_both hun] at h2
            cases h2
          | false =>
            have hjs : j < listed.size := by rw [inv.size]; omega
            exact ih (t - j) (by omega) j rfl (by omega) (getD_in hjs hl) t (Nat.le_refl _) hr
    · have h1 := List.all_eq_true.1 hs.2 t (List.mem_range.2 htlt)
      simp only [Bool.or_eq_true, decide_eq_true_eq] at h1
      rcases h1 with h1 | h1
      · omega
      · obtain ⟨j, hj, hj2⟩ := List.any_eq_true.1 h1
        simp only [Bool.and_eq_true, decide_eq_true_eq] at hj2
        obtain ⟨o', ho', e, he, hb, hon⟩ := Region.waitsFor_spec hj2.2
        have : o' = ot := Option.some.inj (ho'.symm.trans hot)
        subst this
        have h2 := hall e he hb
        have hjt := List.mem_range.1 hj
        rw [hon, getD_both (inv.tail j (by omega) (by omega))] at h2
        cases h2

/-- Operations below n come up, in whatever order; then L. -/
def wpAnyM (P : Program) (md : Region.Mode) (ops : Array Oper) (C : World → Prop) (n : Nat) (L : Array Bool → Act → Prop) : Nat → Array Bool → Act → Prop
  | 0, listed, a => L listed a
  | f + 1, listed, a =>
    Region.ready md ops listed ≠ [] ∧ ∀ i ∈ Region.ready md ops listed, i < n ∧ qOp P ops C i (wpAnyM P md ops C n L f (listed.setIfInBounds i true)) a

theorem wpAny_of_M {n g : Nat} {L : Array Bool → Act → Prop} {Q' : Exit → Act → World → Prop} (hL : ∀ listed a w, C w → L listed a → wpAny P md ops Q' g listed a w) :
    ∀ (f : Nat) (listed : Array Bool) (a : Act) (w : World), C w → wpAnyM P md ops C n L f listed a → wpAny P md ops Q' (f + g) listed a w
  | 0, listed, a, w, hw, h => by rw [Nat.zero_add]; exact hL _ _ _ hw h
  | f + 1, listed, a, w, hw, h => by
    rw [show f + 1 + g = (f + g) + 1 by omega]
    exact ⟨fun h0 => absurd h0 h.1, fun i hi => wpOp_of_qOp hw (fun a' w' hw' h' => wpAny_of_M hL f _ a' w' hw' h') (h.2 i hi).2⟩

theorem wpAnyM_first {k n i : Nat} {oi : Oper} {v : Value} {L : Array Bool → Act → Prop} (hi : ops[i]? = some oi) (hsel : ∀ (j : Nat) (o : Oper) cs b, ops[j]? = some o → o.op ≠ .select cs b)
    (hs : sinkB md ops k n = true) (hn : n < ops.size) (hin : i < n)
    (hdone : ∀ listed a, L listed a → ∀ j ∈ Region.ready md ops listed, n ≤ j) :
    ∀ (f : Nat) (listed : Array Bool) (a : Act), Seg md ops k n listed →
      (∀ j oj, ops[j]? = some oj → j ≠ i → listed.getD j true = false → (∀ e ∈ oj.after, Region.binds md e = true → e.on ≠ i) → oi.apart ops oj = true) →
      i ∈ Region.ready md ops listed → YieldsIn P ops C oi v a →
      wpAnyM P md ops C n L f (listed.setIfInBounds i true) (a.put oi.dst v) → wpAnyM P md ops C n L (f + 1) listed a := by
  intro f
  induction f with
  | zero =>
    intro listed a inv _ hr hy H
    have hun := (mem_ready.1 hr).1
    refine ⟨fun h => (by rw [h] at hr; cases hr), fun j hj => ?_⟩
    have hjn : j < n := by
      rcases Nat.lt_or_ge j n with h | h
      · exact h
      · exact absurd hj (seg_waits hs hn inv _ i rfl hin hun j h)
    refine ⟨hjn, ?_⟩
    by_cases hji : j = i
    · subst hji; exact hy.qOp hi H
    · have := hdone _ _ H j (ready_mono hj hji)
      omega
  | succ f ih =>
    intro listed a inv hfree hr hy H
    have hun := (mem_ready.1 hr).1
    refine ⟨fun h => (by rw [h] at hr; cases hr), fun j hj => ?_⟩
    have hjn : j < n := by
      rcases Nat.lt_or_ge j n with h | h
      · exact h
      · exact absurd hj (seg_waits hs hn inv _ i rfl hin hun j h)
    refine ⟨hjn, ?_⟩
    by_cases hji : j = i
    · subst hji; exact hy.qOp hi H
    · have h1 := (H.2 j (ready_mono hj hji)).2
      obtain ⟨hjun, oj, hoj, hall⟩ := mem_ready.1 hj
      have hnot : ∀ e ∈ oj.after, Region.binds md e = true → e.on ≠ i := fun e he hb heq => by
        have h1 := hall e he hb
        rw [heq, getD_both hun] at h1
        cases h1
      have h2 := qOp_put hoj (hfree j oj hoj hji hjun hnot) (fun cs b => hsel i oi cs b hi) (fun cs b => hsel j oj cs b hoj) hy h1
      have hfree' : ∀ k ok, ops[k]? = some ok → k ≠ i → (listed.setIfInBounds j true).getD k true = false →
          (∀ e ∈ ok.after, Region.binds md e = true → e.on ≠ i) → oi.apart ops ok = true := fun k ok hk hki hun hno => by
        refine hfree k ok hk hki ?_ hno
        by_cases hjk : j = k
        · subst hjk; exact hjun
        · rw [getD_set_ne true hjk] at hun; exact hun
      refine qOp_mono (fun a' h3 => ih (listed.setIfInBounds j true) a' (inv.set hj hjn) hfree' (ready_mono hr (Ne.symm hji)) h3.1 ?_) h2
      rw [Array.setIfInBounds_comm _ _ hji]
      exact h3.2

/-- The check of one segment, the list kept: each of 'k .. n-1' may come up in its turn, apart from what is left. -/
def segB (md : Region.Mode) (ops : Array Oper) : Nat → Nat → Array Bool → Bool
  | 0, _, _ => true
  | f + 1, k, listed => (Region.ready md ops listed).contains k && Region.free md ops listed k && segB md ops f (k + 1) (listed.setIfInBounds k true)

def listN (m k : Nat) : Array Bool := (Array.range m).map fun j => decide (j < k)
theorem listN_size (m k : Nat) : (listN m k).size = m := by simp [listN]
theorem listN_get (m k j : Nat) (h : j < m) (d : Bool) : (listN m k).getD j d = decide (j < k) := by simp [listN, h]
theorem listN_set (m k : Nat) (_h : k < m) : (listN m k).setIfInBounds k true = listN m (k + 1) := by
  apply Array.ext
  · simp [listN]
  · intro i h1 h2
    have hi : i < m := by simpa [listN] using h2
    have hi' : i < (listN m k).size := by rw [listN_size]; exact hi
    rw [Array.getElem_setIfInBounds hi']
    simp only [listN, Array.getElem_map, Array.getElem_range]
    split <;> simp <;> omega
theorem listN_zero (m : Nat) : Array.replicate m false = listN m 0 := by
  apply Array.ext <;> simp [listN]

/-- What an operation waits for stands before it. -/
def backB (md : Region.Mode) (ops : Array Oper) : Bool := (List.range ops.size).all fun j => match ops[j]? with
  | some oj => oj.after.all fun e => !Region.binds md e || decide (e.on < j)
  | none => true
theorem seg_start {k n : Nat} (hb : backB md ops = true) (hkn : k ≤ n) : Seg md ops k n (listN ops.size k) := by
  refine ⟨listN_size _ _, fun j hj hj' => by rw [listN_get _ _ _ hj']; simpa using hj, fun j oj hj hl e he hbd => ?_, fun t ht ht' => by rw [listN_get _ _ _ ht']; simp; omega⟩
  have hjlt : j < ops.size := (Array.getElem?_eq_some_iff.1 hj).1
  rw [listN_get _ _ _ hjlt] at hl
  have h1 := List.all_eq_true.1 hb j (List.mem_range.2 hjlt)
  simp only [hj] at h1
  have h2 := Array.all_eq_true_iff_forall_mem.1 h1 e he
  simp only [Bool.or_eq_true, Bool.not_eq_true', decide_eq_true_eq, hbd, Bool.true_eq_false, false_or] at h2
  have : j < k := by simpa using hl
  rw [listN_get _ _ _ (by omega)]
  simp; omega

theorem wpAnyM_lex {k0 n : Nat} {Lq : Act → Prop} (hsel : Region.noSelect ops = true) (hs : sinkB md ops k0 n = true) (hn : n < ops.size) (hdone : ∀ j ∈ Region.ready md ops (listN ops.size n), n ≤ j) :
    ∀ (l : List Oper) (k : Nat) (a : Act), (∀ j, j < l.length → l[j]? = ops[k + j]?) → k + l.length = n → Seg md ops k0 n (listN ops.size k) →
    segB md ops l.length k (listN ops.size k) = true → wpQuiet P ops C Lq l a →
    wpAnyM P md ops C n (fun listed' a' => listed' = listN ops.size n ∧ Lq a') l.length (listN ops.size k) a
  | [], k, a, _, hk, _, _, h => by
    have : k = n := by simpa using hk
    subst this
    exact ⟨rfl, h⟩
  | o :: l, k, a, hl, hk, inv, hB, h => by
    have h0 : ops[k]? = some o := by simpa using (hl 0 (by simp)).symm
    simp only [List.length_cons, segB, Bool.and_eq_true] at hB
    obtain ⟨⟨hr, hf⟩, hB'⟩ := hB
    have hkn : k < n := by simp only [List.length_cons] at hk; omega
    have hr' : k ∈ Region.ready md ops (listN ops.size k) := by simpa using hr
    have hst : qOp P ops C k (wpQuiet P ops C Lq l) a := by unfold qOp; simp only [h0]; exact h
    obtain ⟨v, hy, hK⟩ := yieldsIn_of_qOp h0 hst
    have inv' := inv.set hr' hkn
    rw [listN_set _ _ (by omega)] at inv' hB'
    refine wpAnyM_first h0 (Region.noSelect_spec hsel) hs hn hkn (fun listed' a' hL => by rw [hL.1]; exact hdone) l.length (listN ops.size k) a inv (Region.free_spec h0 hf) hr' hy ?_
    rw [listN_set _ _ (by omega)]
    exact wpAnyM_lex hsel hs hn hdone l (k + 1) _ (fun j hj => by have := hl (j + 1) (by simp; omega); simpa [Nat.add_assoc, Nat.add_comm 1 j] using this) (by simp only [List.length_cons] at hk; omega) inv' hB' hK

/-- THE MIXED WALK: from operation k on; 'ns': the operations that may write, in order. -/
def wpMix (P : Program) (l : List Oper) (Q : Exit → Act → World → Prop) : List Nat → Nat → Act → World → Prop
  | [], k, a, w => wpQuiet P l.toArray (fun w' => ∃ n, w' = w.drewN n) (fun a' => ∀ w', (∃ n, w' = w.drewN n) → Q .normal a' w') (l.drop k) a
  | n :: ns, k, a, w => wpQuiet P l.toArray (fun w' => ∃ n, w' = w.drewN n) (fun a' => ∀ w', (∃ n, w' = w.drewN n) →
      wpList P l.toArray (Exit.then (wpMix P l Q ns (n + 1)) Q) ((l.drop n).take 1) a' w') ((l.drop k).take (n - k)) a

/-- The whole check. -/
def mixB (md : Region.Mode) (ops : Array Oper) : List Nat → Nat → Bool
  | [], k => Region.lexFrom md ops (ops.size - k) k (listN ops.size k)
  | n :: ns, k => decide (k ≤ n) && decide (n < ops.size) && sinkB md ops k n && segB md ops (n - k) k (listN ops.size k) && decide (Region.ready md ops (listN ops.size n) = [n]) && mixB md ops ns (n + 1)
def cutsB (md : Region.Mode) (ops : Array Oper) (ns : List Nat) : Bool := Region.noSelect ops && backB md ops && mixB md ops ns 0

theorem wpAny_of_mix {l : List Oper} {Q : Exit → Act → World → Prop} (hsel : Region.noSelect l.toArray = true) (hb : backB md l.toArray = true) :
    ∀ (ns : List Nat) (k : Nat) (a : Act) (w : World), mixB md l.toArray ns k = true → k ≤ l.length → wpMix P l Q ns k a w → ∀ w', (∃ n, w' = w.drewN n) →
      wpAny P md l.toArray Q (l.length - k) (listN l.length k) a w'
  | [], k, a, w, hB, hk, h, w', hw' => by
    refine wpAny_of_quiet (C := fun w' => ∃ n, w' = w.drewN n) (Q := fun a' => ∀ w', (∃ n, w' = w.drewN n) → Q .normal a' w') (fun _ w' hw' h => h w' hw') _ _ _ _ hw' ?_
    have hd : (l.drop k).length = l.length - k := by simp
    have := wpAnyQ_lex (P := P) (C := fun w' => ∃ n, w' = w.drewN n) (md := md) (Q := fun a' => ∀ w', (∃ n, w' = w.drewN n) → Q .normal a' w') hsel (l.drop k) k (listN l.length k) a (fun j => by simp [List.getElem?_drop]) (by
      rw [hd]; simpa [mixB] using hB) h
    rwa [hd] at this
  | n :: ns, k, a, w, hB, hk, h, w', hw' => by
    simp only [mixB, Bool.and_eq_true, decide_eq_true_eq, List.size_toArray] at hB
    obtain ⟨⟨⟨⟨⟨hkn, hn⟩, hs⟩, hg⟩, hr⟩, hB'⟩ := hB
    have hlen : ((l.drop k).take (n - k)).length = n - k := by simp; omega
    have H := wpAnyM_lex (P := P) (C := fun w' => ∃ n, w' = w.drewN n) (md := md) hsel hs (by simpa using hn) (by
        intro j hj; rw [List.size_toArray, hr] at hj; simp at hj; omega) ((l.drop k).take (n - k)) k a (fun j hj => by
        rw [hlen] at hj; simp [List.getElem?_drop, hj]) (by rw [hlen]; omega)
      (by exact seg_start hb hkn) (by rw [hlen]; simpa using hg) h
    rw [hlen] at H
    have := wpAny_of_M (P := P) (C := fun w' => ∃ n, w' = w.drewN n) (md := md) (Q' := Q) (g := l.length - n) (fun listed a' w1 hw1 hL => by
      obtain ⟨hL1, hL2⟩ := hL
      rw [hL1]
      have hstep := hL2 w1 hw1
      rw [show l.length - n = (l.length - (n + 1)) + 1 by omega]
      have hr' : Region.ready md l.toArray (listN l.toArray.size n) = [n] := by simpa using hr
      refine ⟨fun h0 => (by rw [hr'] at h0; cases h0), fun i hi => ?_⟩
      rw [hr'] at hi
      have hin : i = n := by simpa using hi
      subst hin
      have hget : l.toArray[i]? = some l[i] := by simp [hn]
      have hdrop : (l.drop i).take 1 = [l[i]] := by rw [List.drop_eq_getElem_cons hn, List.take_succ_cons, List.take_zero]
      rw [hdrop] at hstep
      unfold wpOp
      simp only [hget]
      rw [List.size_toArray, listN_set _ _ hn]
      have K : ∀ a2 w2, wpMix P l Q ns (i + 1) a2 w2 → wpAny P md l.toArray Q (l.length - (i + 1)) (listN l.length (i + 1)) a2 w2 := fun a2 w2 h2 =>
        wpAny_of_mix hsel hb ns (i + 1) a2 w2 hB' hn h2 w2 ⟨0, rfl⟩
      unfold wpList at hstep
      split
      · rename_i hwant
        rw [if_pos hwant] at hstep
        refine hstep.imp (fun hs => ?_) (fun hs => ⟨hs.1, ?_⟩)
        · have e1 := Oper.wp_mono (Q := Exit.then (wpMix P l Q ns (i + 1)) Q) (K' := wpAny P md l.toArray Q (l.length - (i + 1)) (listN l.length (i + 1))) (fun a w h => K a w h) hs
          unfold Oper.wp at *
          generalize (execOp a'.eval l[i]).run P w1 = r at *
          cases r with
          | ok nx w2 =>
            cases nx with
            | enter f args =>
              exact Calls.mono e1 fun e w3 h3 => by cases e <;> first | exact h3 | (obtain ⟨a4, w4, h4⟩ := h3; exact ⟨a4, w4, h4⟩)
            | _ => exact e1
          | halt x w2 => cases x <;> exact e1
        · obtain ⟨a4, w4, h4⟩ := hs.2
          exact ⟨a4, w4, h4⟩
      · rename_i hwant
        rw [if_neg hwant] at hstep
        exact K _ _ hstep) _ _ _ _ hw' H
    rw [show n - k + (l.length - n) = l.length - k by omega] at this
    exact this

/-- A REGION THAT DRAWS ITS ORDER, walked in the text's order, 'ns' being the operations that may write (or call what writes). -/
theorem wp_region_cuts {id : Nat} {Q : Exit → Act → World → Prop} {a : Act} {w : World} {l : List Oper} (ns : List Nat) (hm : P.follows .mixedOrders = true) (hB : cutsB .any l.toArray ns = true)
    (h : wpMix P l Q ns 0 a w) : (Code.region id l.toArray true).wp P Q a w := by
  simp only [cutsB, Bool.and_eq_true] at hB
  obtain ⟨⟨hsel, hb⟩, hB⟩ := hB
  refine wp_region_any hm ?_
  rw [listN_zero]
  have := wpAny_of_mix (P := P) (md := .any) (Q := Q) hsel hb ns 0 a w hB (Nat.zero_le _) h { w with drawn := w.drawn + 1 } ⟨1, rfl⟩
  simpa using this
end
end Go.Proofs.YtcinagglbkbmkaaDoor
