/-
  A region that draws its order: quiet operations, then one that may do anything, then quiet ones again, and so on: walked once, in the text's order. After the kit's StillTail and Deep.Quiet, whose proofs are turned here: the class of worlds is 'w after some draws', and it begins anew behind each operation that may write. A region that draws its order, whose operations read what was there, and whose calls only lay new blocks: walked once, in the text's order. (The kit's Deep.Quiet at the class of the later worlds.) Data in memory: trees of numbers, texts, structs and slices; rows that grow. A region that draws its order: a first phase, of operations below n, all of which the later ones wait for. What only reads may be taken first, if all of that phase keeps what it reads. (The kit's OrdersHeld, with the condition asked of the first phase alone.) The types that are always there: types.New of none, walked. Data that came in, of any type of numbers, texts, structs and slices: its cells hold a tree of that shape.
-/
import Derived.StillTail
import Derived.Deep.QuietTactic
import Derived.BigQuiet
import Derived.Test.YtmgoebfcfgilfaaGreatDoorZi6
import Derived.OwnWalk
import Derived.OrdersHeld
import Derived.Maps.OwnSet
import Derived.Deep.LoopGhost
import Derived.ChangeArms
import Derived.DataElems
namespace Go.Proofs.YtmgoebfcfgilfaaGreatDoor
set_option linter.unusedSimpArgs false
set_option linter.unusedVariables false
open Go Go.RowKit

section
variable {P : Program} {ops : Array Oper} {md : Region.Mode} {C : World → Prop}

/-- All operations below k have come up, no other. -/
structure UpTo (ops : Array Oper) (k : Nat) (listed : Array Bool) : Prop where
  size : listed.size = ops.size
  yes : ∀ j, j < k → j < ops.size → listed.getD j false = true
  no : ∀ j, k ≤ j → j < ops.size → listed.getD j true = false

theorem UpTo.set {k : Nat} {listed : Array Bool} (h : UpTo ops k listed) (hk : k < ops.size) : UpTo ops (k + 1) (listed.setIfInBounds k true) :=
  ⟨by simp [h.size], fun j hj hj' => by
    by_cases e : k = j
    · subst e; simp [h.size, hk]
    · rw [getD_set_ne false e]; exact h.yes j (by omega) hj', fun j hj hj' => by rw [getD_set_ne true (by omega)]; exact h.no j (by omega) hj'⟩

/-- Each operation of 'k .. n-1' is waited for by a later one, up to n; each one behind n waits for one from n on; what an operation below n waits for stands before it. -/
def sinkB (md : Region.Mode) (ops : Array Oper) (k n : Nat) : Bool :=
  ((List.range n).all fun i => decide (i < k) || (List.range (n + 1)).any fun j => decide (i < j) && Region.waitsFor md ops j i) &&
  ((List.range ops.size).all fun t => decide (t ≤ n) || (List.range t).any fun j => decide (n ≤ j) && Region.waitsFor md ops t j)

/-- What holds of the list while operations 'k .. n-1' come up. -/
structure Seg (md : Region.Mode) (ops : Array Oper) (k n : Nat) (listed : Array Bool) : Prop where
  size : listed.size = ops.size
  below : ∀ j, j < k → j < ops.size → listed.getD j false = true
  closed : ∀ j oj, ops[j]? = some oj → listed.getD j false = true → ∀ e ∈ oj.after, Region.binds md e = true → listed.getD e.on false = true
  tail : ∀ t, n ≤ t → t < ops.size → listed.getD t true = false

theorem Seg.set {k n i : Nat} {listed : Array Bool} (inv : Seg md ops k n listed) (hi : i ∈ Region.ready md ops listed) (hin : i < n) : Seg md ops k n (listed.setIfInBounds i true) := by
  obtain ⟨_, oi, hoi, hall⟩ := mem_ready.1 hi
  refine ⟨by simp [inv.size], fun j hj hj' => getD_set_true (inv.below j hj hj'), fun j oj hj hl e he hb => ?_, fun t ht ht' => by rw [getD_set_ne true (by omega)]; exact inv.tail t ht ht'⟩
  by_cases hij : i = j
  · subst hij
    have : oj = oi := Option.some.inj (hj.symm.trans hoi)
    subst this
    exact getD_set_true (hall e he hb)
  · rw [getD_set_ne false hij] at hl
    exact getD_set_true (inv.closed j oj hj hl e he hb)

theorem seg_waits {k n : Nat} {listed : Array Bool} (hs : sinkB md ops k n = true) (hn : n < ops.size) (inv : Seg md ops k n listed) :
    ∀ (d i : Nat), n - i = d → i < n → listed.getD i true = false → ∀ t, n ≤ t → t ∉ Region.ready md ops listed := by
  simp only [sinkB, Bool.and_eq_true] at hs
  intro d
  induction d using Nat.strongRecOn with
  | _ d ih =>
    intro i hd hi hun t ht hr
    obtain ⟨_, ot, hot, hall⟩ := mem_ready.1 hr
    have htlt : t < ops.size := (Array.getElem?_eq_some_iff.1 hot).1
    by_cases htn : t = n
    · subst htn
      have h1 := List.all_eq_true.1 hs.1 i (List.mem_range.2 hi)
      simp only [Bool.or_eq_true, decide_eq_true_eq] at h1
      rcases h1 with h1 | h1
      · have := inv.below i h1 (by omega)
        rw [getD_both hun] at this
        cases this
      · obtain ⟨j, hj, hj2⟩ := List.any_eq_true.1 h1
        simp only [Bool.and_eq_true, decide_eq_true_eq] at hj2
        obtain ⟨oj, hoj, e, he, hb, hon⟩ := Region.waitsFor_spec hj2.2
        have hjle : j ≤ t := by have := List.mem_range.1 hj; omega
        by_cases hjt : j = t
        · subst hjt
          have : oj = ot := Option.some.inj (hoj.symm.trans hot)
          subst this
          have h2 := hall e he hb
          rw [hon, getD_both hun] at h2
          cases h2
        · cases hl : listed.getD j false with
          | true =>
            have h2 := inv.closed j oj hoj hl e he hb
            rw [hon, getD_both hun] at h2
            cases h2
          | false =>
            have hjs : j < listed.size := by rw [inv.size]; omega
            exact ih (t - j) (by omega) j rfl (by omega) (getD_in hjs hl) t (Nat.le_refl _) hr
    · have h1 := List.all_eq_true.1 hs.2 t (List.mem_range.2 htlt)
      simp only [Bool.or_eq_true, decide_eq_true_eq] at h1
      rcases h1 with h1 | h1
      · omega
      · obtain ⟨j, hj, hj2⟩ := List.any_eq_true.1 h1
        simp only [Bool.and_eq_true, decide_eq_true_eq] at hj2
        obtain ⟨o', ho', e, he, hb, hon⟩ := Region.waitsFor_spec hj2.2
        have : o' = ot := Option.some.inj (ho'.symm.trans hot)
        subst this
        have h2 := hall e he hb
        have hjt := List.mem_range.1 hj
        rw [hon, getD_both (inv.tail j (by omega) (by omega))] at h2
        cases h2

/-- Operations below n come up, in whatever order; then L. -/
def wpAnyM (P : Program) (md : Region.Mode) (ops : Array Oper) (C : World → Prop) (n : Nat) (L : Array Bool → Act → Prop) : Nat → Array Bool → Act → Prop
  | 0, listed, a => L listed a
  | f + 1, listed, a =>
    Region.ready md ops listed ≠ [] ∧ ∀ i ∈ Region.ready md ops listed, i < n ∧ qOp P ops C i (wpAnyM P md ops C n L f (listed.setIfInBounds i true)) a

theorem wpAny_of_M {n g : Nat} {L : Array Bool → Act → Prop} {Q' : Exit → Act → World → Prop} (hL : ∀ listed a w, C w → L listed a → wpAny P md ops Q' g listed a w) :
    ∀ (f : Nat) (listed : Array Bool) (a : Act) (w : World), C w → wpAnyM P md ops C n L f listed a → wpAny P md ops Q' (f + g) listed a w
  | 0, listed, a, w, hw, h => by rw [Nat.zero_add]; exact hL _ _ _ hw h
  | f + 1, listed, a, w, hw, h => by
    rw [show f + 1 + g = (f + g) + 1 by omega]
    exact ⟨fun h0 => absurd h0 h.1, fun i hi => wpOp_of_qOp hw (fun a' w' hw' h' => wpAny_of_M hL f _ a' w' hw' h') (h.2 i hi).2⟩

theorem wpAnyM_first {k n i : Nat} {oi : Oper} {v : Value} {L : Array Bool → Act → Prop} (hi : ops[i]? = some oi) (hsel : ∀ (j : Nat) (o : Oper) cs b, ops[j]? = some o → o.op ≠ .select cs b)
    (hs : sinkB md ops k n = true) (hn : n < ops.size) (hin : i < n)
    (hdone : ∀ listed a, L listed a → ∀ j ∈ Region.ready md ops listed, n ≤ j) :
    ∀ (f : Nat) (listed : Array Bool) (a : Act), Seg md ops k n listed →
      (∀ j oj, ops[j]? = some oj → j ≠ i → listed.getD j true = false → (∀ e ∈ oj.after, Region.binds md e = true → e.on ≠ i) → oi.apart ops oj = true) →
      i ∈ Region.ready md ops listed → YieldsIn P ops C oi v a →
      wpAnyM P md ops C n L f (listed.setIfInBounds i true) (a.put oi.dst v) → wpAnyM P md ops C n L (f + 1) listed a := by
  intro f
  induction f with
  | zero =>
    intro listed a inv _ hr hy H
    have hun := (mem_ready.1 hr).1
    refine ⟨fun h => (by rw [h] at hr; cases hr), fun j hj => ?_⟩
    have hjn : j < n := by
      rcases Nat.lt_or_ge j n with h | h
      · exact h
      · exact absurd hj (seg_waits hs hn inv _ i rfl hin hun j h)
    refine ⟨hjn, ?_⟩
    by_cases hji : j = i
    · subst hji; exact hy.qOp hi H
    · have := hdone _ _ H j (ready_mono hj hji)
      omega
  | succ f ih =>
    intro listed a inv hfree hr hy H
    have hun := (mem_ready.1 hr).1
    refine ⟨fun h => (by rw [h] at hr; cases hr), fun j hj => ?_⟩
    have hjn : j < n := by
      rcases Nat.lt_or_ge j n with h | h
      · exact h
      · exact absurd hj (seg_waits hs hn inv _ i rfl hin hun j h)
    refine ⟨hjn, ?_⟩
    by_cases hji : j = i
    · subst hji; exact hy.qOp hi H
    · have h1 := (H.2 j (ready_mono hj hji)).2
      obtain ⟨hjun, oj, hoj, hall⟩ := mem_ready.1 hj
      have hnot : ∀ e ∈ oj.after, Region.binds md e = true → e.on ≠ i := fun e he hb heq => by
        have h1 := hall e he hb
        rw [heq, getD_both hun] at h1
        cases h1
      have h2 := qOp_put hoj (hfree j oj hoj hji hjun hnot) (fun cs b => hsel i oi cs b hi) (fun cs b => hsel j oj cs b hoj) hy h1
      have hfree' : ∀ k ok, ops[k]? = some ok → k ≠ i → (listed.setIfInBounds j true).getD k true = false →
          (∀ e ∈ ok.after, Region.binds md e = true → e.on ≠ i) → oi.apart ops ok = true := fun k ok hk hki hun hno => by
        refine hfree k ok hk hki ?_ hno
        by_cases hjk : j = k
        · subst hjk; exact hjun
        · rw [getD_set_ne true hjk] at hun; exact hun
      refine qOp_mono (fun a' h3 => ih (listed.setIfInBounds j true) a' (inv.set hj hjn) hfree' (ready_mono hr (Ne.symm hji)) h3.1 ?_) h2
      rw [Array.setIfInBounds_comm _ _ hji]
      exact h3.2

/-- The check of one segment, the list kept: each of 'k .. n-1' may come up in its turn, apart from what is left. -/
def segB (md : Region.Mode) (ops : Array Oper) : Nat → Nat → Array Bool → Bool
  | 0, _, _ => true
  | f + 1, k, listed => (Region.ready md ops listed).contains k && Region.free md ops listed k && segB md ops f (k + 1) (listed.setIfInBounds k true)

def listN (m k : Nat) : Array Bool := (Array.range m).map fun j => decide (j < k)
theorem listN_size (m k : Nat) : (listN m k).size = m := by simp [listN]
theorem listN_get (m k j : Nat) (h : j < m) (d : Bool) : (listN m k).getD j d = decide (j < k) := by simp [listN, h]
theorem listN_set (m k : Nat) (_h : k < m) : (listN m k).setIfInBounds k true = listN m (k + 1) := by
  apply Array.ext
  · simp [listN]
  · intro i h1 h2
    have hi : i < m := by simpa [listN] using h2
    have hi' : i < (listN m k).size := by rw [listN_size]; exact hi
    rw [Array.getElem_setIfInBounds hi']
    simp only [listN, Array.getElem_map, Array.getElem_range]
    split <;> simp <;> omega
theorem listN_zero (m : Nat) : Array.replicate m false = listN m 0 := by
  apply Array.ext <;> simp [listN]

/-- What an operation waits for stands before it. -/
def backB (md : Region.Mode) (ops : Array Oper) : Bool := (List.range ops.size).all fun j => match ops[j]? with
  | some oj => oj.after.all fun e => !Region.binds md e || decide (e.on < j)
  | none => true
theorem seg_start {k n : Nat} (hb : backB md ops = true) (hkn : k ≤ n) : Seg md ops k n (listN ops.size k) := by
  refine ⟨listN_size _ _, fun j hj hj' => by rw [listN_get _ _ _ hj']; simpa using hj, fun j oj hj hl e he hbd => ?_, fun t ht ht' => by rw [listN_get _ _ _ ht']; simp; omega⟩
  have hjlt : j < ops.size := (Array.getElem?_eq_some_iff.1 hj).1
  rw [listN_get _ _ _ hjlt] at hl
  have h1 := List.all_eq_true.1 hb j (List.mem_range.2 hjlt)
  simp only [hj] at h1
  have h2 := Array.all_eq_true_iff_forall_mem.1 h1 e he
  simp only [Bool.or_eq_true, Bool.not_eq_true', decide_eq_true_eq, hbd, Bool.true_eq_false, false_or] at h2
  have : j < k := by simpa using hl
  rw [listN_get _ _ _ (by omega)]
  simp; omega

theorem wpAnyM_lex {k0 n : Nat} {Lq : Act → Prop} (hsel : Region.noSelect ops = true) (hs : sinkB md ops k0 n = true) (hn : n < ops.size) (hdone : ∀ j ∈ Region.ready md ops (listN ops.size n), n ≤ j) :
    ∀ (l : List Oper) (k : Nat) (a : Act), (∀ j, j < l.length → l[j]? = ops[k + j]?) → k + l.length = n → Seg md ops k0 n (listN ops.size k) →
    segB md ops l.length k (listN ops.size k) = true → wpQuiet P ops C Lq l a →
    wpAnyM P md ops C n (fun listed' a' => listed' = listN ops.size n ∧ Lq a') l.length (listN ops.size k) a
  | [], k, a, _, hk, _, _, h => by
    have : k = n := by simpa using hk
    subst this
    exact ⟨rfl, h⟩
  | o :: l, k, a, hl, hk, inv, hB, h => by
    have h0 : ops[k]? = some o := by simpa using (hl 0 (by simp)).symm
    simp only [List.length_cons, segB, Bool.and_eq_true] at hB
    obtain ⟨⟨hr, hf⟩, hB'⟩ := hB
    have hkn : k < n := by simp only [List.length_cons] at hk; omega
    have hr' : k ∈ Region.ready md ops (listN ops.size k) := by simpa using hr
    have hst : qOp P ops C k (wpQuiet P ops C Lq l) a := by unfold qOp; simp only [h0]; exact h
    obtain ⟨v, hy, hK⟩ := yieldsIn_of_qOp h0 hst
    have inv' := inv.set hr' hkn
    rw [listN_set _ _ (by omega)] at inv' hB'
    refine wpAnyM_first h0 (Region.noSelect_spec hsel) hs hn hkn (fun listed' a' hL => by rw [hL.1]; exact hdone) l.length (listN ops.size k) a inv (Region.free_spec h0 hf) hr' hy ?_
    rw [listN_set _ _ (by omega)]
    exact wpAnyM_lex hsel hs hn hdone l (k + 1) _ (fun j hj => by have := hl (j + 1) (by simp; omega); simpa [Nat.add_assoc, Nat.add_comm 1 j] using this) (by simp only [List.length_cons] at hk; omega) inv' hB' hK

/-- THE MIXED WALK: from operation k on; 'ns': the operations that may write, in order. -/
def wpMix (P : Program) (l : List Oper) (Q : Exit → Act → World → Prop) : List Nat → Nat → Act → World → Prop
  | [], k, a, w => wpQuiet P l.toArray (fun w' => ∃ n, w' = w.drewN n) (fun a' => ∀ w', (∃ n, w' = w.drewN n) → Q .normal a' w') (l.drop k) a
  | n :: ns, k, a, w => wpQuiet P l.toArray (fun w' => ∃ n, w' = w.drewN n) (fun a' => ∀ w', (∃ n, w' = w.drewN n) →
      wpList P l.toArray (Exit.then (wpMix P l Q ns (n + 1)) Q) ((l.drop n).take 1) a' w') ((l.drop k).take (n - k)) a

/-- The whole check. -/
def mixB (md : Region.Mode) (ops : Array Oper) : List Nat → Nat → Bool
  | [], k => Region.lexFrom md ops (ops.size - k) k (listN ops.size k)
  | n :: ns, k => decide (k ≤ n) && decide (n < ops.size) && sinkB md ops k n && segB md ops (n - k) k (listN ops.size k) && decide (Region.ready md ops (listN ops.size n) = [n]) && mixB md ops ns (n + 1)
def cutsB (md : Region.Mode) (ops : Array Oper) (ns : List Nat) : Bool := Region.noSelect ops && backB md ops && mixB md ops ns 0

theorem wpAny_of_mix {l : List Oper} {Q : Exit → Act → World → Prop} (hsel : Region.noSelect l.toArray = true) (hb : backB md l.toArray = true) :
    ∀ (ns : List Nat) (k : Nat) (a : Act) (w : World), mixB md l.toArray ns k = true → k ≤ l.length → wpMix P l Q ns k a w → ∀ w', (∃ n, w' = w.drewN n) →
      wpAny P md l.toArray Q (l.length - k) (listN l.length k) a w'
  | [], k, a, w, hB, hk, h, w', hw' => by
    refine wpAny_of_quiet (C := fun w' => ∃ n, w' = w.drewN n) (Q := fun a' => ∀ w', (∃ n, w' = w.drewN n) → Q .normal a' w') (fun _ w' hw' h => h w' hw') _ _ _ _ hw' ?_
    have hd : (l.drop k).length = l.length - k := by simp
    have := wpAnyQ_lex (P := P) (C := fun w' => ∃ n, w' = w.drewN n) (md := md) (Q := fun a' => ∀ w', (∃ n, w' = w.drewN n) → Q .normal a' w') hsel (l.drop k) k (listN l.length k) a (fun j => by simp [List.getElem?_drop]) (by
      rw [hd]; simpa [mixB] using hB) h
    rwa [hd] at this
  | n :: ns, k, a, w, hB, hk, h, w', hw' => by
    simp only [mixB, Bool.and_eq_true, decide_eq_true_eq, List.size_toArray] at hB
    obtain ⟨⟨⟨⟨⟨hkn, hn⟩, hs⟩, hg⟩, hr⟩, hB'⟩ := hB
    have hlen : ((l.drop k).take (n - k)).length = n - k := by simp; omega
    have H := wpAnyM_lex (P := P) (C := fun w' => ∃ n, w' = w.drewN n) (md := md) hsel hs (by simpa using hn) (by
        intro j hj; rw [List.size_toArray, hr] at hj; simp at hj; omega) ((l.drop k).take (n - k)) k a (fun j hj => by
        rw [hlen] at hj; simp [List.getElem?_drop, hj]) (by rw [hlen]; omega)
      (by exact seg_start hb hkn) (by rw [hlen]; simpa using hg) h
    rw [hlen] at H
    have := wpAny_of_M (P := P) (C := fun w' => ∃ n, w' = w.drewN n) (md := md) (Q' := Q) (g := l.length - n) (fun listed a' w1 hw1 hL => by
      obtain ⟨hL1, hL2⟩ := hL
      rw [hL1]
      have hstep := hL2 w1 hw1
      rw [show l.length - n = (l.length - (n + 1)) + 1 by omega]
      have hr' : Region.ready md l.toArray (listN l.toArray.size n) = [n] := by simpa using hr
      refine ⟨fun h0 => (by rw [hr'] at h0; cases h0), fun i hi => ?_⟩
      rw [hr'] at hi
      have hin : i = n := by simpa using hi
      subst hin
      have hget : l.toArray[i]? = some l[i] := by simp [hn]
      have hdrop : (l.drop i).take 1 = [l[i]] := by rw [List.drop_eq_getElem_cons hn, List.take_succ_cons, List.take_zero]
      rw [hdrop] at hstep
      unfold wpOp
      simp only [hget]
      rw [List.size_toArray, listN_set _ _ hn]
      have K : ∀ a2 w2, wpMix P l Q ns (i + 1) a2 w2 → wpAny P md l.toArray Q (l.length - (i + 1)) (listN l.length (i + 1)) a2 w2 := fun a2 w2 h2 =>
        wpAny_of_mix hsel hb ns (i + 1) a2 w2 hB' hn h2 w2 ⟨0, rfl⟩
      unfold wpList at hstep
      split
      · rename_i hwant
        rw [if_pos hwant] at hstep
        refine hstep.imp (fun hs => ?_) (fun hs => ⟨hs.1, ?_⟩)
        · have e1 := Oper.wp_mono (Q := Exit.then (wpMix P l Q ns (i + 1)) Q) (K' := wpAny P md l.toArray Q (l.length - (i + 1)) (listN l.length (i + 1))) (fun a w h => K a w h) hs
          unfold Oper.wp at *
          generalize (execOp a'.eval l[i]).run P w1 = r at *
          cases r with
          | ok nx w2 =>
            cases nx with
            | enter f args =>
              exact Calls.mono e1 fun e w3 h3 => by cases e <;> first | exact h3 | (obtain ⟨a4, w4, h4⟩ := h3; exact ⟨a4, w4, h4⟩)
            | _ => exact e1
          | halt x w2 => cases x <;> exact e1
        · obtain ⟨a4, w4, h4⟩ := hs.2
          exact ⟨a4, w4, h4⟩
      · rename_i hwant
        rw [if_neg hwant] at hstep
        exact K _ _ hstep) _ _ _ _ hw' H
    rw [show n - k + (l.length - n) = l.length - k by omega] at this
    exact this

/-- A REGION THAT DRAWS ITS ORDER, walked in the text's order, 'ns' being the operations that may write (or call what writes). -/
theorem wp_region_cuts {id : Nat} {Q : Exit → Act → World → Prop} {a : Act} {w : World} {l : List Oper} (ns : List Nat) (hm : P.follows .mixedOrders = true) (hB : cutsB .any l.toArray ns = true)
    (h : wpMix P l Q ns 0 a w) : (Code.region id l.toArray true).wp P Q a w := by
  simp only [cutsB, Bool.and_eq_true] at hB
  obtain ⟨⟨hsel, hb⟩, hB⟩ := hB
  refine wp_region_any hm ?_
  rw [listN_zero]
  have := wpAny_of_mix (P := P) (md := .any) (Q := Q) hsel hb ns 0 a w hB (Nat.zero_le _) h { w with drawn := w.drawn + 1 } ⟨1, rfl⟩
  simpa using this
end
end Go.Proofs.YtmgoebfcfgilfaaGreatDoor
namespace Go.Proofs.YtmgoebfcfgilfaaGreatDoor
set_option linter.unusedSimpArgs false
set_option linter.unusedVariables false
open Go Go.RowKit

/-- The worlds in which all that there is in w stands as it stood. -/
def Later (w : World) : Type := { w' : World // Below w.heap.size w w' }
instance Later.nonempty (w : World) : Nonempty (Later w) := ⟨⟨w, Below.refl _ _⟩⟩
theorem Later.cell {w : World} {p : Addr} {v : Value} (h : w.cell? p = some v) (x : Later w) : x.1.cell? p = some v := by
  have hlt : p.block < w.heap.size := by
    unfold World.cell? at h
    rcases Nat.lt_or_ge p.block w.heap.size with h' | h'
    · exact h'
    · simp [Array.getElem?_eq_none h'] at h
  rw [x.2.cell hlt]; exact h

theorem Later.call {P : Program} {f : FuncId} {args : Array Value} {w : World} {x : Later w} {v : Value}
    (h : Calls P f args x.1 fun e w' => e = .returned v ∧ Below x.1.heap.size x.1 w') : Calls P f args x.1 fun e w'' => e = .returned v ∧ ∃ y : Later w, w'' = y.1 :=
  h.mono fun _ _ ⟨he, hb⟩ => ⟨he, ⟨_, x.2.trans (hb.mono x.2.size)⟩, rfl⟩
theorem wp_region_later {P : Program} {id : Nat} {Q : Exit → Act → World → Prop} {a : Act} {w : World} {l : List Oper} (hm : P.follows .mixedOrders = true) (hB : Region.lexB .any l.toArray = true)
    (h : wpQuiet P l.toArray (fun w' => ∃ x : Later w, w' = x.1) (fun a' => ∀ w', (∃ x : Later w, w' = x.1) → Q .normal a' w') l a) : (Code.region id l.toArray true).wp P Q a w :=
  wp_region_quiet (C := fun w' => ∃ x : Later w, w' = x.1) hm hB ⟨⟨{ w with drawn := w.drawn + 1 }, ⟨rfl, rfl, rfl, Nat.le_refl _, fun _ _ => rfl⟩⟩, rfl⟩ (by simpa using h)

end Go.Proofs.YtmgoebfcfgilfaaGreatDoor
namespace Go.Proofs.YtmgoebfcfgilfaaGreatDoor
set_option linter.unusedSimpArgs false
set_option linter.unusedVariables false
open Go Go.RowKit

/-- Data. -/
inductive D where
  | int (n : Int)
  | str (s : List UInt8)
  | bool (b : Bool)
  | obj (fs : List D)
  | seq (k : Nat) (xs : List D)
deriving Inhabited

mutual
/-- These cells hold that, in blocks that P names. -/
inductive Reads (w : World) (P : Nat → Prop) : D → List Value → Prop
  | int (n : Int) : Reads w P (.int n) [.int .i64 n]
  | str (s : List UInt8) : Reads w P (.str s) [.string ⟨s.toArray⟩]
  | bool (b : Bool) : Reads w P (.bool b) [.bool b]
  | obj {fs : List D} {cs : List Value} : ReadsR w P fs cs → Reads w P (.obj fs) cs
  | seq {k : Nat} {xs : List D} {a : Option Addr} {cap : Nat} : ReadsS w P k a 0 xs → Reads w P (.seq k xs) [.slice a xs.length cap]
/-- One behind the other. -/
inductive ReadsR (w : World) (P : Nat → Prop) : List D → List Value → Prop
  | nil : ReadsR w P [] []
  | cons {d : D} {ds : List D} {cs cs' : List Value} : Reads w P d cs → ReadsR w P ds cs' → ReadsR w P (d :: ds) (cs ++ cs')
/-- The elements from the i-th on. -/
inductive ReadsS (w : World) (P : Nat → Prop) : Nat → Option Addr → Nat → List D → Prop
  | nil {k : Nat} {a : Option Addr} {i : Nat} : ReadsS w P k a i []
  | cons {k : Nat} {a : Option Addr} {i g o : Nat} {d : D} {ds : List D} {cs : List Value} : a = some ⟨g, o, none⟩ → P g → g < w.heap.size → cs.length = k →
      (∀ (j : Nat) v, cs[j]? = some v → w.cell? ⟨g, o + i * k + j, none⟩ = some v) → Reads w P d cs → ReadsS w P k a (i + 1) ds → ReadsS w P k a i (d :: ds)
end

/-- What P names stands in w' as it stood in w, and Q names it. -/
structure Stands (w : World) (P : Nat → Prop) (w' : World) (Q : Nat → Prop) : Prop where
  size : w.heap.size ≤ w'.heap.size
  block : ∀ g, g < w.heap.size → P g → Q g ∧ w'.heap[g]? = w.heap[g]?
mutual
theorem Reads.to {w w' : World} {P Q : Nat → Prop} (hs : Stands w P w' Q) : ∀ {d : D} {cs : List Value}, Reads w P d cs → Reads w' Q d cs
  | _, _, .int n => .int n
  | _, _, .str s => .str s
  | _, _, .bool b => .bool b
  | _, _, .obj h => .obj (ReadsR.to hs h)
  | _, _, .seq h => .seq (ReadsS.to hs h)
theorem ReadsR.to {w w' : World} {P Q : Nat → Prop} (hs : Stands w P w' Q) : ∀ {ds : List D} {cs : List Value}, ReadsR w P ds cs → ReadsR w' Q ds cs
  | _, _, .nil => .nil
  | _, _, .cons h t => .cons (Reads.to hs h) (ReadsR.to hs t)
theorem ReadsS.to {w w' : World} {P Q : Nat → Prop} (hs : Stands w P w' Q) : ∀ {k : Nat} {a : Option Addr} {i : Nat} {ds : List D}, ReadsS w P k a i ds → ReadsS w' Q k a i ds
  | _, _, _, _, .nil => .nil
  | _, _, _, _, .cons e hP hg hl hc h t => .cons e (hs.block _ hg hP).1 (Nat.lt_of_lt_of_le hg hs.size) hl (fun j v hv => by
      rw [World.cell?_of_block (w := w) (hs.block _ hg hP).2]; exact hc j v hv) (Reads.to hs h) (ReadsS.to hs t)
end
mutual
theorem Reads.one {w : World} {P : Nat → Prop} : ∀ {d : D} {cs : List Value}, Reads w P d cs → ∀ u ∈ cs, u.oneCell' = true
  | _, _, .int n => fun u hu => by simp at hu; subst hu; rfl
  | _, _, .str s => fun u hu => by simp at hu; subst hu; rfl
  | _, _, .bool b => fun u hu => by simp at hu; subst hu; rfl
  | _, _, .obj h => ReadsR.one h
  | _, _, .seq h => fun u hu => by simp at hu; subst hu; rfl
theorem ReadsR.one {w : World} {P : Nat → Prop} : ∀ {ds : List D} {cs : List Value}, ReadsR w P ds cs → ∀ u ∈ cs, u.oneCell' = true
  | _, _, .nil => fun u hu => by simp at hu
  | _, _, .cons h t => fun u hu => by
    rcases List.mem_append.1 hu with hu | hu
    · exact Reads.one h u hu
    · exact ReadsR.one t u hu
end
section
variable {w w' : World} {P Q : Nat → Prop}
theorem Stands.refl (w : World) (P : Nat → Prop) : Stands w P w P := ⟨Nat.le_refl _, fun _ _ h => ⟨h, rfl⟩⟩
theorem Stands.sub (w : World) (h : ∀ g, g < w.heap.size → P g → Q g) : Stands w P w Q := ⟨Nat.le_refl _, fun g hg hp => ⟨h g hg hp, rfl⟩⟩
theorem Stands.but {X : Nat → Prop} (h : But X w w') (hx : ∀ g, P g → ¬ X g) : Stands w P w' P := ⟨h.size, fun g hg hp => ⟨hp, h.block g hg (hx g hp)⟩⟩
theorem Stands.below (h : Below w.heap.size w w') : Stands w P w' P := ⟨h.size, fun g hg hp => ⟨hp, h.block g hg⟩⟩
theorem Stands.trans {w2 : World} {R : Nat → Prop} (h : Stands w P w' Q) (k : Stands w' Q w2 R) : Stands w P w2 R :=
  ⟨Nat.le_trans h.size k.size, fun g hg hp => by
    obtain ⟨q, e⟩ := h.block g hg hp
    obtain ⟨r, f⟩ := k.block g (Nat.lt_of_lt_of_le hg h.size) q
    exact ⟨r, f.trans e⟩⟩
theorem Stands.drewN (h : Stands w P w' Q) (n : Nat) : Stands w P (w'.drewN n) Q := ⟨h.size, h.block⟩

theorem Reads.int_inv {n : Int} {cs : List Value} (h : Reads w P (.int n) cs) : cs = [.int .i64 n] := by cases h; rfl
theorem Reads.str_inv {s : List UInt8} {cs : List Value} (h : Reads w P (.str s) cs) : cs = [.string ⟨s.toArray⟩] := by cases h; rfl
theorem Reads.obj_inv {fs : List D} {cs : List Value} (h : Reads w P (.obj fs) cs) : ReadsR w P fs cs := by cases h; assumption
theorem Reads.seq_inv {k : Nat} {xs : List D} {cs : List Value} (h : Reads w P (.seq k xs) cs) : ∃ a cap, cs = [.slice a xs.length cap] ∧ ReadsS w P k a 0 xs := by cases h; exact ⟨_, _, rfl, by assumption⟩
theorem ReadsR.nil_inv {cs : List Value} (h : ReadsR w P [] cs) : cs = [] := by cases h; rfl
theorem ReadsR.cons_inv {d : D} {ds : List D} {cs : List Value} (h : ReadsR w P (d :: ds) cs) : ∃ c r, cs = c ++ r ∧ Reads w P d c ∧ ReadsR w P ds r := by cases h; exact ⟨_, _, rfl, by assumption, by assumption⟩
/-- One element. -/
theorem ReadsS.at {k : Nat} {a : Option Addr} : ∀ {i : Nat} {ds : List D}, ReadsS w P k a i ds → ∀ (j : Nat) (d : D), ds[j]? = some d →
    ∃ g o cs, a = some ⟨g, o, none⟩ ∧ P g ∧ g < w.heap.size ∧ cs.length = k ∧ (∀ (q : Nat) v, cs[q]? = some v → w.cell? ⟨g, o + (i + j) * k + q, none⟩ = some v) ∧ Reads w P d cs
  | _, _, .nil, j, d, h => by simp at h
  | i, _ :: _, .cons e hP hg hl hc h t, 0, d, hd => by
    simp at hd; subst hd
    exact ⟨_, _, _, e, hP, hg, hl, hc, h⟩
  | i, _ :: ds, .cons e hP hg hl hc h t, j + 1, d, hd => by
    have := ReadsS.at t j d (by simpa using hd)
    rw [show i + 1 + j = i + (j + 1) by omega] at this
    exact this
end

/-- Data one behind the other, k cells each. -/
inductive RowsD (w : World) (P : Nat → Prop) (k : Nat) : List D → List Value → Prop
  | nil : RowsD w P k [] []
  | cons {d : D} {ds : List D} {cs cs' : List Value} : Reads w P d cs → cs.length = k → RowsD w P k ds cs' → RowsD w P k (d :: ds) (cs ++ cs')
section
variable {w w' : World} {P Q : Nat → Prop} {k : Nat}
theorem RowsD.to (hs : Stands w P w' Q) : ∀ {ds : List D} {cs : List Value}, RowsD w P k ds cs → RowsD w' Q k ds cs
  | _, _, .nil => .nil
  | _, _, .cons h hl t => .cons (h.to hs) hl (t.to hs)
theorem RowsD.len : ∀ {ds : List D} {cs : List Value}, RowsD w P k ds cs → cs.length = ds.length * k
  | _, _, .nil => by simp
  | _, _, .cons h hl t => by rw [List.length_append, t.len, hl, List.length_cons, Nat.succ_mul]; omega
theorem RowsD.snoc : ∀ {ds : List D} {cs : List Value}, RowsD w P k ds cs → ∀ {d : D} {c : List Value}, Reads w P d c → c.length = k → RowsD w P k (ds ++ [d]) (cs ++ c)
  | _, _, .nil, d, c, h, hl => by
    have := RowsD.cons h hl .nil
    rwa [List.append_nil] at this
  | _, _, .cons h0 hl0 t, d, c, h, hl => by
    rw [List.cons_append, List.append_assoc]
    exact .cons h0 hl0 (t.snoc h hl)
theorem RowsD.seqAt {g : Nat} (hP : P g) (hg : g < w.heap.size) : ∀ {ds : List D} {cs : List Value}, RowsD w P k ds cs → ∀ (i : Nat), (∀ (j : Nat) v, cs[j]? = some v → w.cell? ⟨g, i * k + j, none⟩ = some v) → ReadsS w P k (some ⟨g, 0, none⟩) i ds
  | _, _, .nil, i, hc => .nil
  | _, _, .cons (cs := c) (cs' := c') h hl t, i, hc => by
    refine .cons rfl hP hg hl (fun j v hv => ?_) h (t.seqAt hP hg (i + 1) (fun j v hv => ?_))
    · rw [Nat.zero_add]
      have hj := (List.getElem?_eq_some_iff.1 hv).1
      exact hc j v (by rw [List.getElem?_append_left hj]; exact hv)
    · have := hc (k + j) v (by rw [List.getElem?_append_right (by omega), show k + j - c.length = j by omega]; exact hv)
      rw [show (i + 1) * k + j = i * k + (k + j) by rw [Nat.succ_mul]; omega]
      exact this
end

theorem addr_add0 (g k : Nat) : (⟨g, 0, none⟩ : Addr).add k = ⟨g, k, none⟩ := by
  by_cases h : k = 0
  · subst h; simp [Addr.add]
  · simp [Addr.add, h]
theorem block_lt {w : World} {k : Nat} {o : Obj} (h : w.heap[k]? = some o) : k < w.heap.size := by
  rcases Nat.lt_or_ge k w.heap.size with h' | h'
  · exact h'
  · simp [Array.getElem?_eq_none h'] at h

theorem heap_at_new (w : World) (o : Obj) : (w.alloc o).heap[w.heap.size]? = some o := by
  show (w.heap.push _)[w.heap.size]? = _
  simp
theorem cell_at_new (w : World) (cs : Array Value) (T : TypeId) (fz : Nat × Nat) (k : Nat) (v : Value) (h : cs[k]? = some v) : (w.alloc (.cells cs T fz)).cell? ⟨w.heap.size, k, none⟩ = some v := by
  unfold World.cell?
  rw [heap_at_new]
  exact h
theorem frozen_at_new (w : World) (cs : Array Value) (T : TypeId) (k : Nat) : (w.alloc (.cells cs T (0, 0))).frozen? ⟨w.heap.size, k, none⟩ = false := by
  unfold World.frozen?
  rw [heap_at_new]
  simp

/-- A row that grows: it holds this; its own block is none of P's. -/
structure Grows (w : World) (P : Nat → Prop) (base : Nat) (T : TypeId) (k : Nat) (v : Value) (xs : List D) : Prop where
  row : ∃ cs, w.ownsRow base T k v xs.length cs ∧ RowsD w P k xs cs
  apart : ∀ g, v.ownBlock = some g → ¬ P g
section
variable {w w' : World} {P Q : Nat → Prop} {base k : Nat} {T : TypeId} {v v' : Value} {xs : List D}
theorem Grows.nil (w : World) (P : Nat → Prop) (base : Nat) (T : TypeId) (k : Nat) : Grows w P base T k (.slice none 0 0) [] :=
  ⟨⟨[], World.ownsRow_nil _ _ _ _, .nil⟩, fun g hg => by simp [Value.ownBlock] at hg⟩
theorem row_to {cs : List Value} {n : Nat} (h : w.ownsRow base T k v n cs) (hb : ∀ g, v.ownBlock = some g → w'.heap[g]? = w.heap[g]?) : w'.ownsRow base T k v n cs := by
  refine ⟨h.1, ?_⟩
  rcases h.2 with h2 | ⟨g, cap, cur, hv, hg, hc, h3⟩
  · exact .inl h2
  · refine .inr ⟨g, cap, cur, hv, hg, ?_, h3⟩
    rw [hb g (by rw [hv]; rfl)]
    exact hc
theorem Grows.to (h : Grows w P base T k v xs) (hs : Stands w P w' Q) (hb : ∀ g, v.ownBlock = some g → ¬ Q g ∧ w'.heap[g]? = w.heap[g]?) : Grows w' Q base T k v xs := by
  obtain ⟨⟨cs, h1, h2⟩, h3⟩ := h
  exact ⟨⟨cs, row_to h1 (fun g hg => (hb g hg).2), h2.to hs⟩, fun g hg => (hb g hg).1⟩
theorem Grows.form (h : Grows w P base T k v xs) : ∃ a c, v = .slice a xs.length c := by
  obtain ⟨⟨cs, h1, h2⟩, h3⟩ := h
  rcases h1.2 with ⟨h4, h5⟩ | ⟨g, cap, cur, hv, hg, hc, h6⟩
  · exact ⟨none, 0, by rw [h5]; exact h4⟩
  · exact ⟨_, _, hv⟩
theorem Grows.lt (h : Grows w P base T k v xs) : ∀ g, v.ownBlock = some g → base ≤ g ∧ g < w.heap.size := by
  obtain ⟨⟨cs, h1, h2⟩, h3⟩ := h
  exact h1.lt
/-- The row, told as data. -/
theorem Grows.reads (h : Grows w P base T k v xs) : Reads w (fun g => P g ∨ v.ownBlock = some g) (.seq k xs) [v] := by
  obtain ⟨⟨cs, h1, h2⟩, h3⟩ := h
  have hc := fun g hg => World.ownsRow.cells (g := g) h1 hg
  rcases h1.2 with ⟨h4, h5⟩ | ⟨g, cap, cur, hv, hg, hcur, h6⟩
  · subst h4
    have : xs = [] := List.eq_nil_of_length_eq_zero h5
    subst this
    exact .seq .nil
  · subst hv
    refine .seq ((h2.to (Q := fun x => P x ∨ (Value.slice (some ⟨g, 0, none⟩) xs.length cap).ownBlock = some x) (Stands.sub w (fun x _ hx => .inl hx))).seqAt (g := g) (.inr rfl) (block_lt hcur) 0 (fun j v hj => ?_))
    have := hc g rfl j v hj
    rw [addr_add0] at this
    rw [Nat.zero_mul, Nat.zero_add]
    exact this
/-- One more. -/
theorem Grows.more {d : D} {c : List Value} (h : Grows w P base T k v xs) (hd : Reads w P d c) (hk : c.length = k) {w1 : World} (hs : Stands w P w1 P)
    (hrow : ∀ cs, RowsD w P k xs cs → w1.ownsRow base T k v' (xs.length + 1) (cs ++ c)) (hap : ∀ g, v'.ownBlock = some g → ¬ P g) : Grows w1 P base T k v' (xs ++ [d]) := by
  obtain ⟨⟨cs, h1, h2⟩, h3⟩ := h
  refine ⟨⟨cs ++ c, ?_, (h2.snoc hd hk).to hs⟩, hap⟩
  rw [List.length_append]
  exact hrow cs h2
end
end Go.Proofs.YtmgoebfcfgilfaaGreatDoor
namespace Go.Proofs.YtmgoebfcfgilfaaGreatDoor
set_option linter.unusedSimpArgs false
set_option linter.unusedVariables false
open Go Go.RowKit
section
variable {P : Program} {ops : Array Oper} {Q : Exit → Act → World → Prop} {md : Region.Mode} {S : World → Prop} {n : Nat}

/-- Each operation from n on waits for each one below n. -/
def phaseB (md : Region.Mode) (ops : Array Oper) (n : Nat) : Bool :=
  (List.range ops.size).all fun t => decide (t < n) || (List.range n).all fun i => Region.waitsFor md ops t i
theorem phase_not_ready {listed : Array Bool} (hp : phaseB md ops n = true) {i t : Nat} (hi : i < n) (hun : listed.getD i true = false) (ht : t ∈ Region.ready md ops listed) : t < n := by
  rcases Nat.lt_or_ge t n with h | h
  · exact h
  · obtain ⟨_, ot, hot, hall⟩ := mem_ready.1 ht
    have htlt : t < ops.size := (Array.getElem?_eq_some_iff.1 hot).1
    have h1 := List.all_eq_true.1 hp t (List.mem_range.2 htlt)
    simp only [Bool.or_eq_true, decide_eq_true_eq] at h1
    rcases h1 with h1 | h1
    · exact h1
    · have h2 := List.all_eq_true.1 h1 i (List.mem_range.2 hi)
      obtain ⟨o', ho', e, he, hb, hon⟩ := Region.waitsFor_spec h2
      have : o' = ot := Option.some.inj (ho'.symm.trans hot)
      subst this
      have h3 := hall e he hb
      rw [hon, getD_both hun] at h3
      cases h3

/-- Whatever order is picked from here on, and S holds behind every operation below n. -/
def wpAnyB (P : Program) (md : Region.Mode) (ops : Array Oper) (Q : Exit → Act → World → Prop) (S : World → Prop) (n : Nat) : Nat → Array Bool → Act → World → Prop
  | 0, listed, a, w => Region.ready md ops listed = [] ∧ Q .normal a w
  | fuel + 1, listed, a, w =>
    (Region.ready md ops listed = [] → Q .normal a w) ∧
    ∀ i ∈ Region.ready md ops listed, wpOp P ops Q i (fun a' w' => (i < n → S w') ∧ wpAnyB P md ops Q S n fuel (listed.setIfInBounds i true) a' w') a w
theorem wpAny_of_B : ∀ (fuel : Nat) (listed : Array Bool) (a : Act) (w : World), wpAnyB P md ops Q S n fuel listed a w → wpAny P md ops Q fuel listed a w
  | 0, _, _, _, h => h
  | fuel + 1, _, _, _, h => ⟨h.1, fun i hi => wpOp_mono (fun a' w' h' => wpAny_of_B fuel _ a' w' h'.2) (h.2 i hi)⟩
theorem wpAnyB_first {i : Nat} {oi : Oper} {v : Value} (hp : phaseB md ops n = true) (hin : i < n) (hi : ops[i]? = some oi) (hsel : ∀ (j : Nat) (o : Oper) cs b, ops[j]? = some o → o.op ≠ .select cs b)
    (hQ : ∀ c a w, Q (.panic c) (a.put oi.dst v) w → Q (.panic c) a w) :
    ∀ (fuel : Nat) (listed : Array Bool) (a : Act) (w : World),
      (∀ j oj, ops[j]? = some oj → j ≠ i → listed.getD j true = false → (∀ e ∈ oj.after, Region.binds md e = true → e.on ≠ i) → oi.apart ops oj = true) →
      i ∈ Region.ready md ops listed → YieldsIf P ops S oi v a → S w →
      wpAnyB P md ops Q S n fuel (listed.setIfInBounds i true) (a.put oi.dst v) w → wpAnyB P md ops Q S n (fuel + 1) listed a w := by
  intro fuel
  induction fuel with
  | zero =>
    intro listed a w _ hr hy hS H
    refine ⟨fun h => (by rw [h] at hr; cases hr), fun j hj => ?_⟩
    by_cases hji : j = i
    · subst hji; exact hy.wpOp hi hS ⟨fun _ => hS, H⟩
    · have := ready_mono hj hji
      rw [H.1] at this
      cases this
  | succ fuel ih =>
    intro listed a w hfree hr hy hS H
    refine ⟨fun h => (by rw [h] at hr; cases hr), fun j hj => ?_⟩
    by_cases hji : j = i
    · subst hji; exact hy.wpOp hi hS ⟨fun _ => hS, H⟩
    · have hjn : j < n := phase_not_ready hp hin (mem_ready.1 hr).1 hj
      have h1 := H.2 j (ready_mono hj hji)
      obtain ⟨hjun, oj, hoj, hall⟩ := mem_ready.1 hj
      have hnot : ∀ e ∈ oj.after, Region.binds md e = true → e.on ≠ i := fun e he hb heq => by
        have h1 := hall e he hb
        have h0 := (mem_ready.1 hr).1
        rw [heq] at h1
        rcases Nat.lt_or_ge i listed.size with h' | h'
        · simp [h'] at h0 h1; rw [h0] at h1; cases h1
        · simp [Array.getElem?_eq_none h'] at h1
      have h2 := wpOp_putIf hoj (hfree j oj hoj hji hjun hnot) (fun cs b => hsel i oi cs b hi) (fun cs b => hsel j oj cs b hoj) hQ hy h1
      have hfree' : ∀ k ok, ops[k]? = some ok → k ≠ i → (listed.setIfInBounds j true).getD k true = false →
          (∀ e ∈ ok.after, Region.binds md e = true → e.on ≠ i) → oi.apart ops ok = true := fun k ok hk hki hun hno => by
        refine hfree k ok hk hki ?_ hno
        by_cases hjk : j = k
        · subst hjk; exact hjun
        · rw [getD_set_ne true hjk] at hun; exact hun
      refine wpOp_mono (fun a' w' h3 => ⟨h3.2.1, ih (listed.setIfInBounds j true) a' w' hfree' (ready_mono hr (Ne.symm hji)) h3.1 (h3.2.1 hjn) ?_⟩) h2
      rw [Array.setIfInBounds_comm _ _ hji]
      exact h3.2.2
/-- Take number i first. -/
theorem wpAnyB_take {i : Nat} {oi : Oper} {v : Value} {fuel : Nat} {listed : Array Bool} {a : Act} {w : World} (hp : phaseB md ops n = true) (hin : i < n) (hi : ops[i]? = some oi)
    (hs : Region.noSelect ops = true) (hf : Region.free md ops listed i = true) (hr : (Region.ready md ops listed).contains i = true)
    (hQ : ∀ c a w, Q (.panic c) (a.put oi.dst v) w → Q (.panic c) a w) (hy : YieldsIf P ops S oi v a) (hS : S w)
    (h : wpAnyB P md ops Q S n fuel (listed.setIfInBounds i true) (a.put oi.dst v) w) : wpAnyB P md ops Q S n (fuel + 1) listed a w :=
  wpAnyB_first hp hin hi (Region.noSelect_spec hs) hQ fuel listed a w (Region.free_spec hi hf) (by simpa using hr) hy hS h
/-- Likewise of one that yields its value in whatever world. -/
theorem wpAnyB_firstAny {i : Nat} {oi : Oper} {v : Value} (hi : ops[i]? = some oi) (hsel : ∀ (j : Nat) (o : Oper) cs b, ops[j]? = some o → o.op ≠ .select cs b)
    (hQ : ∀ c a w, Q (.panic c) (a.put oi.dst v) w → Q (.panic c) a w) :
    ∀ (fuel : Nat) (listed : Array Bool) (a : Act) (w : World),
      (∀ j oj, ops[j]? = some oj → j ≠ i → listed.getD j true = false → (∀ e ∈ oj.after, Region.binds md e = true → e.on ≠ i) → oi.apart ops oj = true) →
      i ∈ Region.ready md ops listed → YieldsIf P ops (fun _ => True) oi v a → (i < n → S w) → n ≤ i →
      wpAnyB P md ops Q S n fuel (listed.setIfInBounds i true) (a.put oi.dst v) w → wpAnyB P md ops Q S n (fuel + 1) listed a w := by
  intro fuel
  induction fuel with
  | zero =>
    intro listed a w _ hr hy hS hni H
    refine ⟨fun h => (by rw [h] at hr; cases hr), fun j hj => ?_⟩
    by_cases hji : j = i
    · subst hji; exact hy.wpOp hi trivial ⟨hS, H⟩
    · have := ready_mono hj hji
      rw [H.1] at this
      cases this
  | succ fuel ih =>
    intro listed a w hfree hr hy hS hni H
    refine ⟨fun h => (by rw [h] at hr; cases hr), fun j hj => ?_⟩
    by_cases hji : j = i
    · subst hji; exact hy.wpOp hi trivial ⟨hS, H⟩
    · have h1 := H.2 j (ready_mono hj hji)
      obtain ⟨hjun, oj, hoj, hall⟩ := mem_ready.1 hj
      have hnot : ∀ e ∈ oj.after, Region.binds md e = true → e.on ≠ i := fun e he hb heq => by
        have h1 := hall e he hb
        have h0 := (mem_ready.1 hr).1
        rw [heq] at h1
        rcases Nat.lt_or_ge i listed.size with h' | h'
        · simp [h'] at h0 h1; rw [h0] at h1; cases h1
        · simp [Array.getElem?_eq_none h'] at h1
      have h2 := wpOp_putIf hoj (hfree j oj hoj hji hjun hnot) (fun cs b => hsel i oi cs b hi) (fun cs b => hsel j oj cs b hoj) hQ hy h1
      have hfree' : ∀ k ok, ops[k]? = some ok → k ≠ i → (listed.setIfInBounds j true).getD k true = false →
          (∀ e ∈ ok.after, Region.binds md e = true → e.on ≠ i) → oi.apart ops ok = true := fun k ok hk hki hun hno => by
        refine hfree k ok hk hki ?_ hno
        by_cases hjk : j = k
        · subst hjk; exact hjun
        · rw [getD_set_ne true hjk] at hun; exact hun
      refine wpOp_mono (fun a' w' h3 => ⟨h3.2.1, ih (listed.setIfInBounds j true) a' w' hfree' (ready_mono hr (Ne.symm hji)) h3.1 (fun h => absurd h (by omega)) hni ?_⟩) h2
      rw [Array.setIfInBounds_comm _ _ hji]
      exact h3.2.2
theorem wpAnyB_takeAny {i : Nat} {oi : Oper} {v : Value} {fuel : Nat} {listed : Array Bool} {a : Act} {w : World} (hni : n ≤ i) (hi : ops[i]? = some oi)
    (hs : Region.noSelect ops = true) (hf : Region.free md ops listed i = true) (hr : (Region.ready md ops listed).contains i = true)
    (hQ : ∀ c a w, Q (.panic c) (a.put oi.dst v) w → Q (.panic c) a w) (hy : YieldsIf P ops (fun _ => True) oi v a)
    (h : wpAnyB P md ops Q S n fuel (listed.setIfInBounds i true) (a.put oi.dst v) w) : wpAnyB P md ops Q S n (fuel + 1) listed a w :=
  wpAnyB_firstAny hi (Region.noSelect_spec hs) hQ fuel listed a w (Region.free_spec hi hf) (by simpa using hr) hy (fun h => absurd h (by omega)) hni h
/-- One that may come up alone. -/
theorem wpAnyB_one {i : Nat} {fuel : Nat} {listed : Array Bool} {a : Act} {w : World} (hr : Region.ready md ops listed = [i])
    (h : wpOp P ops Q i (fun a' w' => (i < n → S w') ∧ wpAnyB P md ops Q S n fuel (listed.setIfInBounds i true) a' w') a w) : wpAnyB P md ops Q S n (fuel + 1) listed a w :=
  ⟨fun h0 => (by rw [hr] at h0; cases h0), fun j hj => by
    rw [hr] at hj
    obtain rfl : j = i := (by simpa using hj)
    exact h⟩
/-- One of two. -/
theorem wpAnyB_two {i k : Nat} {fuel : Nat} {listed : Array Bool} {a : Act} {w : World} (hr : Region.ready md ops listed = [i, k])
    (h : wpOp P ops Q i (fun a' w' => (i < n → S w') ∧ wpAnyB P md ops Q S n fuel (listed.setIfInBounds i true) a' w') a w)
    (h' : wpOp P ops Q k (fun a' w' => (k < n → S w') ∧ wpAnyB P md ops Q S n fuel (listed.setIfInBounds k true) a' w') a w) : wpAnyB P md ops Q S n (fuel + 1) listed a w :=
  ⟨fun h0 => (by rw [hr] at h0; cases h0), fun j hj => by
    rw [hr] at hj
    have : j = i ∨ j = k := by simpa using hj
    rcases this with rfl | rfl
    · exact h
    · exact h'⟩
theorem wpAnyB_done {listed : Array Bool} {a : Act} {w : World} (hr : Region.ready md ops listed = []) (h : Q .normal a w) :
    ∀ fuel, wpAnyB P md ops Q S n fuel listed a w
  | 0 => ⟨hr, h⟩
  | _ + 1 => ⟨fun _ => h, by rw [hr]; simp⟩
/-- The beginning. -/
theorem wp_region_phase (S : World → Prop) (n : Nat) {id : Nat} {a : Act} {w : World} (hm : P.follows .mixedOrders = true)
    (h : wpAnyB P .any ops Q S n ops.size (Array.replicate ops.size false) a { w with drawn := w.drawn + 1 }) : (Code.region id ops true).wp P Q a w :=
  wp_region_any hm (wpAny_of_B _ _ _ _ h)
/-- A step, as a list of one operation; what follows is kept shut. -/
theorem wpOp_intro {l : List Oper} {i : Nat} {K : Act → World → Prop} {a : Act} {w : World} (hn : i < l.length)
    (h : ∀ K' : Act → World → Prop, Hid (∀ a w, K a w → K' a w) → wpList P l.toArray (Exit.then K' Q) ((l.drop i).take 1) a w) : wpOp P l.toArray Q i K a w := by
  have hstep := h K (Lib.hid fun _ _ h => h)
  have hget : l.toArray[i]? = some l[i] := by simp [hn]
  have hdrop : (l.drop i).take 1 = [l[i]] := by rw [List.drop_eq_getElem_cons hn, List.take_succ_cons, List.take_zero]
  rw [hdrop] at hstep
  unfold wpOp
  simp only [hget]
  unfold wpList at hstep
  split
  · rename_i hwant
    rw [if_pos hwant] at hstep
    refine hstep.imp (fun hs => ?_) (fun hs => ⟨hs.1, ?_⟩)
    · have e1 := Oper.wp_mono (Q := Exit.then K Q) (K' := K) (fun a w h => h) hs
      unfold Oper.wp at *
      generalize (execOp a.eval l[i]).run P w = r at *
      cases r with
      | ok nx w2 =>
        cases nx with
        | enter f args =>
          exact Calls.mono e1 fun e w3 h3 => by cases e <;> first | exact h3 | (obtain ⟨a4, w4, h4⟩ := h3; exact ⟨a4, w4, h4⟩)
        | _ => exact e1
      | halt x w2 => cases x <;> exact e1
    · obtain ⟨a4, w4, h4⟩ := hs.2
      exact ⟨a4, w4, h4⟩
  · rename_i hwant
    rw [if_neg hwant] at hstep
    exact hstep
end
end Go.Proofs.YtmgoebfcfgilfaaGreatDoor
namespace Go.Proofs.YtmgoebfcfgilfaaGreatDoor
set_option linter.unusedSimpArgs false
set_option linter.unusedVariables false
open Go Go.RowKit
open Go.Maps Go.WideMaps

theorem tyKeyed : Keyed Tryz.prog 9 := string_keyed Tryz.underlying9
/-- Of a type its kind alone. -/
def kindR (v : Value) : Option (DataW Unit × List MemPlace) :=
  match v with
  | .agg cs => match (cs[0]? : Option Value) with
    | some (.int .i64 n) => some (.lit (.int .i64 n), [])
    | _ => none
  | _ => none
theorem kindR_inv {v : Value} {d : DataW Unit} {ps : List MemPlace} (h : kindR v = some (d, ps)) : ∃ cs n, v = .agg cs ∧ cs[0]? = some (.int .i64 n) ∧ d = .lit (.int .i64 n) := by
  unfold kindR at h
  cases v <;> simp only [reduceCtorEq] at h
  rename_i cs
  split at h
  · rename_i n hn
    simp only [Option.some.injEq, Prod.mk.injEq] at h
    exact ⟨cs, n, rfl, hn, h.1.symm⟩
  · cases h
namespace Tp
def names : List (List UInt8) := [[73, 110, 116], [70, 108, 111, 97, 116], [83, 116, 114, 105, 110, 103], [66, 111, 111, 108, 101, 97, 110], [73, 68]]
def data : Nat → DataW Unit
  | 0 => .map []
  | i + 1 => (data i).put (.string (names.getD i [])) (.lit (.int .i64 1))
theorem data_get (s : List UInt8) (h : s ∈ names) : (data 5).atKey (.string s) (.lit (.int .i64 0)) = .lit (.int .i64 1) := by
  simp only [names, List.mem_cons, List.not_mem_nil, or_false] at h
  rcases h with rfl | rfl | rfl | rfl | rfl <;> kernel_rfl
end Tp
/-- The five types in memory. -/
structure TypesAt (w : World) (b : Nat) : Prop where
  box : ∃ mb, w.heap[b]? = some (.cells #[.map (some mb), .slice none 0 0] 113 (0, 0)) ∧ w.ownsMap Tryz.prog 9 kindR mb 5 (Tp.data 5)
theorem TypesAt.lt {w : World} {b : Nat} (h : TypesAt w b) : b < w.heap.size := by
  obtain ⟨mb, h1, h2⟩ := h.box
  exact block_lt h1
theorem TypesAt.keep {w w' : World} {b : Nat} (h : TypesAt w b) (hb : Below w.heap.size w w') : TypesAt w' b := by
  obtain ⟨mb, h1, h2⟩ := h.box
  refine ⟨mb, by rw [hb.block b (block_lt h1)]; exact h1, ?_⟩
  have hlt := h2.lt
  obtain ⟨es, clock, hb2, r⟩ := h2
  exact ⟨es, clock, by rw [hb.block mb hlt]; exact hb2, r⟩
set_option maxRecDepth 100000 in
theorem five_any (w : World) : Calls Tryz.prog 57 #[] w fun e w' => e = .returned (.slice (some ⟨w.heap.size, 0, none⟩) 5 5) ∧ Below w.heap.size w w' ∧ (∀ i s, Tp.names[i]? = some s → w'.cell? ⟨w.heap.size, i, none⟩ = some (.string ⟨s.toArray⟩)) ∧ w.heap.size < w'.heap.size := by
  go_enter Tryz.func57, Tryz.ntmps57
  go_wp2_with fail
  go_ret
  refine ⟨rfl, (Below.refl _ _).alloc (Nat.le_refl _) _, fun i s hi => ?_, by simp⟩
  refine cell_at_new w _ _ (0, 0) i _ ?_
  match i, hi with
  | 0, hi => simp [Tp.names] at hi; subst hi; rfl
  | 1, hi => simp [Tp.names] at hi; subst hi; rfl
  | 2, hi => simp [Tp.names] at hi; subst hi; rfl
  | 3, hi => simp [Tp.names] at hi; subst hi; rfl
  | 4, hi => simp [Tp.names] at hi; subst hi; rfl
  | i + 5, hi => simp [Tp.names] at hi
set_option maxHeartbeats 1000000 in
set_option maxRecDepth 100000 in
theorem tnew_any (w : World) : Calls Tryz.prog 20 #[.slice none 0 0] w fun e w' => ∃ b, e = .returned (.pointer (some ⟨b, 0, none⟩)) ∧ w.heap.size ≤ b ∧ TypesAt w' b ∧ Below w.heap.size w w' := by
  have hmm := @run_makeMap Tryz.prog
  obtain ⟨w1, hw1⟩ : ∃ x, x = (w.alloc (.map #[] 0)).alloc (.cells #[.map (some w.heap.size), .slice none 0 0] 113) := ⟨_, rfl⟩
  have hs1 : w1.heap.size = w.heap.size + 2 := by rw [hw1]; simp
  have hb1 : Below w.heap.size w w1 := by rw [hw1]; exact ((Below.refl _ _).alloc (Nat.le_refl _) _).alloc (by simp) _
  have hm1 : w1.ownsMap Tryz.prog 9 kindR w.heap.size 0 (Tp.data 0) := by rw [hw1]; exact (World.ownsMap_made w Tryz.prog 9 kindR).alloc _
  have hx1 : w1.heap[w.heap.size + 1]? = some (.cells #[.map (some w.heap.size), .slice none 0 0] 113 (0, 0)) := by
    rw [hw1]
    have := heap_at_new (w.alloc (.map #[] 0)) (.cells #[.map (some w.heap.size), .slice none 0 0] 113)
    simpa using this
  have HW1 := Lib.hid hw1.symm
  have HB1 := Lib.hid hb1
  have HM1 := Lib.hid hm1
  have HX1 := Lib.hid hx1
  have HS1 := Lib.hid hs1
  clear hw1 hs1 hb1 hm1 hx1
  go_enter Tryz.func20, Tryz.ntmps20
  go_wp2_with fail
  rw [HW1.out]
  refine (five_any w1).mono ?_
  rintro e w2 ⟨rfl, hb2, hc2, hs2⟩
  have hm2 : w2.ownsMap Tryz.prog 9 kindR w.heap.size 0 (Tp.data 0) := by
    obtain ⟨es, clock, hb, r⟩ := HM1.out
    exact ⟨es, clock, by rw [hb2.block _ (block_lt hb)]; exact hb, r⟩
  have hx2 : w2.heap[w.heap.size + 1]? = some (.cells #[.map (some w.heap.size), .slice none 0 0] 113 (0, 0)) := by
    rw [hb2.block _ (by rw [HS1.out]; omega)]; exact HX1.out
  have HB2 := Lib.hid (HB1.out.trans (hb2.mono HB1.out.size))
  have HC2 := Lib.hid hc2
  have HM2 := Lib.hid hm2
  have HX2 := Lib.hid hx2
  have HS2 := Lib.hid hs2
  clear hb2 hc2 hm2 hx2 hs2
  go_wp2_with fail
  go_loopg [5, 15] 5 (fun k s5 s15 wq => ∃ i : Nat, i ≤ 5 ∧ k = 5 - i ∧ s15 = .int .i64 (i : Nat) ∧ wq.ownsMap Tryz.prog 9 kindR w.heap.size i (Tp.data i) ∧ w2.grownBy wq (some w.heap.size))
  case atStart => exact ⟨0, Nat.zero_le _, rfl, rfl, HM2.out, ⟨rfl, rfl, rfl, Nat.le_refl _, fun _ _ _ => rfl⟩⟩
  case round =>
    obtain ⟨i, hi, hk, rfl, hown, hg⟩ := hrel
    have HK := Lib.hid hk
    have HOWN := Lib.hid hown
    have HG := Lib.hid hg
    have hi0 : (0 : Int) ≤ (i : Int) := Int.natCast_nonneg _
    have hxr : wr.heap[w.heap.size + 1]? = some (.cells #[.map (some w.heap.size), .slice none 0 0] 113 (0, 0)) := by
      rw [hg.block _ (by have := HS2.out; rw [HS1.out] at this; omega) (by simp)]; exact HX2.out
    have xc : wr.cell? ⟨w.heap.size + 1, 0, none⟩ = some (.map (some w.heap.size)) := by unfold World.cell?; dsimp only; rw [hxr]; rfl
    clear hk hown hxr
    by_cases hin : i < 5
    · have hin1 : (i : Int) < 5 := by omega
      obtain ⟨s, hs⟩ : ∃ s, Tp.names[i]? = some s := ⟨_, List.getElem?_eq_getElem (by simpa [Tp.names] using hin)⟩
      have hcs := HC2.out i s hs
      have hcr : wr.cell? ⟨w1.heap.size, i, none⟩ = some (.string ⟨s.toArray⟩) := by
        rw [World.cell?_of_block (hg.block _ HS2.out (by rw [HS1.out]; simp))]; exact hcs
      have hsl : s.length ≤ 100 := by
        have hm := List.mem_of_getElem? hs
        simp only [Tp.names, List.mem_cons, List.not_mem_nil, or_false] at hm
        rcases hm with rfl | rfl | rfl | rfl | rfl <;> decide
      have hkey := keyOf_string_mk Tryz.underlying9 (s := ⟨s.toArray⟩) (show s.length ≤ maxLen by unfold maxLen; omega)
      have HSD : Hid (Tp.data (i + 1) = (Tp.data i).put (.string s) (.lit (.int .i64 1))) := by
        refine Lib.hid ?_
        show (Tp.data i).put (.string (Tp.names.getD i [])) _ = _
        rw [List.getD_eq_getElem?_getD, hs]
        rfl
      clear hs hcs hg
      go_wp2_with (first | (at_mapUpdate; refine wpList_mapUpdate_own _ rfl _ _ _ 111 rfl 9 63 tyKeyed Tryz.underlying111 kindR w.heap.size i (Tp.data i) rfl HOWN.out (by unfold maxLen; omega) _ _ _ rfl rfl hkey (.lit (.int .i64 1)) [] rfl ?_; intro w3 hown3 hgrow3) | fail)
      go_roundg (5 - (i + 1))
      case measure => rw [HK.out]; omega
      case rel =>
        refine ⟨i + 1, by omega, rfl, by simp, by rw [HSD.out]; exact hown3, ?_⟩
        have hg0 := HG.out
        exact ⟨hgrow3.os.trans hg0.os, hgrow3.tape.trans hg0.tape, hgrow3.output.trans hg0.output, Nat.le_trans hg0.size hgrow3.size, fun j hj hne => (hgrow3.block j (Nat.lt_of_lt_of_le hj hg0.size) hne).trans (hg0.block j hj hne)⟩
    · have hin1 : (5 : Int) ≤ (i : Int) := by omega
      obtain rfl : i = 5 := by omega
      clear hg
      go_wp2_with fail
      go_loopg [29] 1 (fun k s29 wq => k = 1 ∧ s29 = .int .i64 0 ∧ wq = wr)
      case atStart => exact ⟨rfl, rfl, rfl⟩
      case round =>
        obtain ⟨hk9, rfl, hw9⟩ := hrel
        subst hw9
        clear hk9
        go_wp2_with fail
        go_ret
        have hg0 := HG.out
        have hsz := HS2.out
        rw [HS1.out] at hsz
        refine ⟨w.heap.size + 1, rfl, Nat.le_succ _, ⟨⟨w.heap.size, ?_, HOWN.out⟩⟩, ?_⟩
        · rw [hg0.block _ (by omega) (by simp)]; exact HX2.out
        · have hb := HB2.out
          exact ⟨hg0.os.trans hb.os, hg0.tape.trans hb.tape, hg0.output.trans hb.output, Nat.le_trans hb.size hg0.size, fun j hj => (hg0.block j (by omega) (by simp; omega)).trans (hb.block j hj)⟩
end Go.Proofs.YtmgoebfcfgilfaaGreatDoor
namespace Go.Proofs.YtmgoebfcfgilfaaGreatDoor
set_option linter.unusedSimpArgs false
set_option linter.unusedVariables false
open Go Go.RowKit

mutual
/-- This tree is of that type. -/
def HasT (P : Program) : TypeId → D → Prop
  | t, .int n => P.underlying t = some (.int .i64) ∧ (Lit.int .i64 n).wf = true
  | t, .str s => P.underlying t = some .string ∧ s.length ≤ maxLen
  | t, .bool _ => P.underlying t = some .bool
  | t, .obj ds => ∃ fs, P.underlying t = some (.struct fs) ∧ HasTs P (fs.toList.map (·.type)) ds
  | t, .seq k ds => ∃ e, P.underlying t = some (.slice e) ∧ P.cellsOf e = k ∧ ds.length ≤ maxLen ∧ HasTe P e ds
def HasTs (P : Program) : List TypeId → List D → Prop
  | [], [] => True
  | t :: ts, d :: ds => HasT P t d ∧ HasTs P ts ds
  | [], _ :: _ => False
  | _ :: _, [] => False
def HasTe (P : Program) : TypeId → List D → Prop
  | _, [] => True
  | e, d :: ds => HasT P e d ∧ HasTe P e ds
end
section
variable {H : Type} {enc : TypeId × Value → H} {P : Program} {w : World} {sp : Nat → Bool} {held : Bool}
end
section
variable {P : Program} {t : TypeId} {d : D}
theorem HasT.int (ht : P.underlying t = some (.int .i64)) (h : HasT P t d) : ∃ n, d = .int n ∧ (Lit.int .i64 n).wf = true := by
  cases d with
  | int n => unfold HasT at h; exact ⟨n, rfl, h.2⟩
  | str s => unfold HasT at h; rw [ht] at h; cases h.1
  | bool b => unfold HasT at h; rw [ht] at h; cases h
  | obj ds => unfold HasT at h; obtain ⟨fs, h, -⟩ := h; rw [ht] at h; cases h
  | seq k ds => unfold HasT at h; obtain ⟨fs, h, -⟩ := h; rw [ht] at h; cases h
theorem HasT.str (ht : P.underlying t = some .string) (h : HasT P t d) : ∃ s, d = .str s ∧ s.length ≤ maxLen := by
  cases d with
  | int n => unfold HasT at h; rw [ht] at h; cases h.1
  | str s => unfold HasT at h; exact ⟨s, rfl, h.2⟩
  | bool b => unfold HasT at h; rw [ht] at h; cases h
  | obj ds => unfold HasT at h; obtain ⟨fs, h, -⟩ := h; rw [ht] at h; cases h
  | seq k ds => unfold HasT at h; obtain ⟨fs, h, -⟩ := h; rw [ht] at h; cases h
theorem HasT.bool (ht : P.underlying t = some .bool) (h : HasT P t d) : ∃ b, d = .bool b := by
  cases d with
  | int n => unfold HasT at h; rw [ht] at h; cases h.1
  | str s => unfold HasT at h; rw [ht] at h; cases h.1
  | bool b => exact ⟨b, rfl⟩
  | obj ds => unfold HasT at h; obtain ⟨fs, h, -⟩ := h; rw [ht] at h; cases h
  | seq k ds => unfold HasT at h; obtain ⟨fs, h, -⟩ := h; rw [ht] at h; cases h
theorem HasT.obj {fs : Array Field} (ht : P.underlying t = some (.struct fs)) (h : HasT P t d) : ∃ ds, d = .obj ds ∧ HasTs P (fs.toList.map (·.type)) ds := by
  cases d with
  | int n => unfold HasT at h; rw [ht] at h; cases h.1
  | str s => unfold HasT at h; rw [ht] at h; cases h.1
  | bool b => unfold HasT at h; rw [ht] at h; cases h
  | obj ds =>
    unfold HasT at h
    obtain ⟨fs', h1, h2⟩ := h
    rw [ht] at h1
    cases h1
    exact ⟨ds, rfl, h2⟩
  | seq k ds => unfold HasT at h; obtain ⟨fs, h, -⟩ := h; rw [ht] at h; cases h
theorem HasT.seq {e : TypeId} (ht : P.underlying t = some (.slice e)) (h : HasT P t d) : ∃ ds, d = .seq (P.cellsOf e) ds ∧ ds.length ≤ maxLen ∧ HasTe P e ds := by
  cases d with
  | int n => unfold HasT at h; rw [ht] at h; cases h.1
  | str s => unfold HasT at h; rw [ht] at h; cases h.1
  | bool b => unfold HasT at h; rw [ht] at h; cases h
  | obj ds => unfold HasT at h; obtain ⟨fs, h, -⟩ := h; rw [ht] at h; cases h
  | seq k ds =>
    unfold HasT at h
    obtain ⟨e', h1, h2, h3, h4⟩ := h
    rw [ht] at h1
    cases h1
    subst h2
    exact ⟨ds, rfl, h3, h4⟩
theorem HasTs.cons {ts : List TypeId} {ds : List D} (h : HasTs P (t :: ts) ds) : ∃ d r, ds = d :: r ∧ HasT P t d ∧ HasTs P ts r := by
  cases ds with
  | nil => unfold HasTs at h; exact h.elim
  | cons d r => unfold HasTs at h; exact ⟨d, r, rfl, h.1, h.2⟩
theorem HasTs.nil {ds : List D} (h : HasTs P [] ds) : ds = [] := by
  cases ds with
  | nil => rfl
  | cons d r => unfold HasTs at h; exact h.elim
end
end Go.Proofs.YtmgoebfcfgilfaaGreatDoor
