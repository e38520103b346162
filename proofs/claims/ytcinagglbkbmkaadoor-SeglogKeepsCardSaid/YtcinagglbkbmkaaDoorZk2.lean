/-
  Base words of our own: bytes of a string, endings, the frame of a call that writes one old block alone. A region that draws its order, whose operations read what was there, and whose calls only lay new blocks: walked once, in the text's order. (The kit's Deep.Quiet at the class of the later worlds.) A region that draws its order: a first phase, of operations below n, all of which the later ones wait for. What only reads may be taken first, if all of that phase keeps what it reads. (The kit's OrdersHeld, with the condition asked of the first phase alone.) Data in memory: trees of numbers, texts, structs and slices; rows that grow. Data that came in, of any type of numbers, texts, structs and slices: its cells hold a tree of that shape. The file system: plain words; a name's test, walked. The file system in memory: its words (tags of blocks, what is kept), its maps.
-/
import Derived.Test.YtcinagglbkbmkaaDoorProg
import Derived.WalkKit
import Derived.WalkLawsBesides
import Derived.WalkSpells
import Derived.BigQuiet
import Derived.Deep.QuietTactic
import Derived.StillTailTactics
import Derived.Lib.Hide
import Derived.Test.YtcinagglbkbmkaaDoorZk1
import Derived.OrdersHeld
import Derived.OwnWalk
import Derived.ChangeArms
import Derived.DataElems
import Derived.Outline
import Derived.Deep.LoopGhost
import Derived.Maps.OwnSet
import Derived.Maps.AppendAt
namespace Go.Proofs.YtcinagglbkbmkaaDoor
set_option linter.unusedSimpArgs false
set_option linter.unusedVariables false
open Go Go.RowKit

/-- The byte at a place; 0 behind the end. -/
def bt (s : ByteArray) (n : Nat) : UInt8 := s.data.toList.getD n 0
/-- What stands from a place on. -/
def sfx (s : ByteArray) (n : Nat) : List UInt8 := s.data.toList.drop n

theorem getElem_bt (s : ByteArray) (n : Nat) (h : n < s.size) : s[n]'h = bt s n := by
  have h' : n < s.data.toList.length := by simpa using h
  show s.data[n]'h = _
  unfold bt
  rw [List.getD_eq_getElem?_getD, List.getElem?_eq_getElem h']
  simp

theorem sfx_len (s : ByteArray) (n : Nat) : (sfx s n).length = s.size - n := by unfold sfx; simp
theorem sfx_all (s : ByteArray) : sfx s 0 = s.data.toList := by simp [sfx]
theorem sfx_end (s : ByteArray) (n : Nat) (h : s.size ≤ n) : sfx s n = [] := by
  have := sfx_len s n; exact List.eq_nil_of_length_eq_zero (by omega)
theorem sfx_cons (s : ByteArray) (n : Nat) (h : n < s.size) : sfx s n = bt s n :: sfx s (n + 1) := by
  unfold sfx bt
  have h' : n < s.data.toList.length := by simpa using h
  rw [List.drop_eq_getElem_cons h', List.getD_eq_getElem?_getD, List.getElem?_eq_getElem h']
  simp
@[go_sem high] theorem run_index_bt {P : Program} (w : World) (t : TypeId) (s : ByteArray) (k : IntKind) (i : Int) (h : P.underlying t = some .string) :
    (Instr.index t (.string s) (.int k i)).run P w = if 0 ≤ i ∧ i < s.size then .ok (.int .u8 (bt s i.toNat).toNat) w else (boundsPanic k i s.size .index).run P w := by
  rw [run_index_string w t s k i h]
  by_cases hi : 0 ≤ i ∧ i < s.size
  · rw [dif_pos hi, if_pos hi, getElem_bt]
  · rw [dif_neg hi, if_neg hi]

/-- w' is w, but for the blocks that X names, and for new ones. -/
structure But (X : Nat → Prop) (w w' : World) : Prop where
  os : w'.os = w.os
  tape : w'.tape = w.tape
  output : w'.output = w.output
  size : w.heap.size ≤ w'.heap.size
  block : ∀ k, k < w.heap.size → ¬ X k → w'.heap[k]? = w.heap[k]?

theorem But.refl (X : Nat → Prop) (w : World) : But X w w := ⟨rfl, rfl, rfl, Nat.le_refl _, fun _ _ _ => rfl⟩
theorem But.trans {X : Nat → Prop} {a b c : World} (h : But X a b) (k : But X b c) : But X a c :=
  ⟨k.os.trans h.os, k.tape.trans h.tape, k.output.trans h.output, Nat.le_trans h.size k.size,
   fun i hi hx => (k.block i (Nat.lt_of_lt_of_le hi h.size) hx).trans (h.block i hi hx)⟩
theorem But.mono {X Y : Nat → Prop} {w w' : World} (h : But X w w') (hxy : ∀ k, k < w.heap.size → X k → Y k) : But Y w w' :=
  ⟨h.os, h.tape, h.output, h.size, fun k hk hy => h.block k hk (fun hx => hy (hxy k hk hx))⟩
theorem But.drewN {X : Nat → Prop} {a w : World} (h : But X a w) (n : Nat) : But X a (w.drewN n) :=
  h.trans ⟨rfl, rfl, rfl, Nat.le_refl _, fun _ _ _ => rfl⟩
theorem But.drew {X : Nat → Prop} {a w : World} (h : But X a w) : But X a w.drew :=
  h.trans ⟨rfl, rfl, rfl, Nat.le_refl _, fun _ _ _ => rfl⟩
theorem But.alloc {X : Nat → Prop} {a w : World} (h : But X a w) (o : Obj) : But X a (w.alloc o) :=
  h.trans ⟨rfl, rfl, rfl, by simp, fun k hk _ => Below.heap_alloc _ _ _ hk⟩
theorem But.setCell {X : Nat → Prop} {a w : World} (h : But X a w) {p : Addr} (hp : X p.block ∨ a.heap.size ≤ p.block) (u : Value) : But X a (w.setCell p u) :=
  ⟨h.os, h.tape, h.output, by have := h.size; simpa [World.setCell] using this,
   fun k hk hx => by rw [Below.heap_setCell _ _ _ _ (fun e => by subst e; rcases hp with hp | hp; exact hx hp; omega)]; exact h.block k hk hx⟩
theorem But.below {w w' : World} (h : But (fun _ => False) w w') : Below w.heap.size w w' :=
  ⟨h.os, h.tape, h.output, h.size, fun k hk => h.block k hk (fun hf => hf)⟩
theorem But.cell {X : Nat → Prop} {w w' : World} (h : But X w w') {p : Addr} (hp : p.block < w.heap.size) (hx : ¬ X p.block) : w'.cell? p = w.cell? p :=
  World.cell?_of_block (w := w) (h.block p.block hp hx)
theorem But.frozen {X : Nat → Prop} {w w' : World} (h : But X w w') {p : Addr} (hp : p.block < w.heap.size) (hx : ¬ X p.block) : w'.frozen? p = w.frozen? p :=
  World.frozen?_of_block (w := w) (h.block p.block hp hx)

theorem Below.drewN {B : Nat} {a w : World} (h : Below B a w) (n : Nat) : Below B a (w.drewN n) := h.trans ⟨rfl, rfl, rfl, Nat.le_refl _, fun _ _ => rfl⟩
theorem neT {n : Nat} {k : Int} (h : (n : Int) ≠ k) : ((n : Int) != k) = true := by simp [h]
end Go.Proofs.YtcinagglbkbmkaaDoor
namespace Go.Proofs.YtcinagglbkbmkaaDoor
set_option linter.unusedSimpArgs false
set_option linter.unusedVariables false
open Go Go.RowKit

/-- The worlds in which all that there is in w stands as it stood. -/
def Later (w : World) : Type := { w' : World // Below w.heap.size w w' }
instance Later.nonempty (w : World) : Nonempty (Later w) := ⟨⟨w, Below.refl _ _⟩⟩
theorem Later.cell {w : World} {p : Addr} {v : Value} (h : w.cell? p = some v) (x : Later w) : x.1.cell? p = some v := by
  have hlt : p.block < w.heap.size := by
    unfold World.cell? at h
    rcases Nat.lt_or_ge p.block w.heap.size with h' | h'
    · exact h'
    · simp [Array.getElem?_eq_none h'] at h
  rw [x.2.cell hlt]; exact h

theorem Later.call {P : Program} {f : FuncId} {args : Array Value} {w : World} {x : Later w} {v : Value}
    (h : Calls P f args x.1 fun e w' => e = .returned v ∧ Below x.1.heap.size x.1 w') : Calls P f args x.1 fun e w'' => e = .returned v ∧ ∃ y : Later w, w'' = y.1 :=
  h.mono fun _ _ ⟨he, hb⟩ => ⟨he, ⟨_, x.2.trans (hb.mono x.2.size)⟩, rfl⟩
theorem wp_region_later {P : Program} {id : Nat} {Q : Exit → Act → World → Prop} {a : Act} {w : World} {l : List Oper} (hm : P.follows .mixedOrders = true) (hB : Region.lexB .any l.toArray = true)
    (h : wpQuiet P l.toArray (fun w' => ∃ x : Later w, w' = x.1) (fun a' => ∀ w', (∃ x : Later w, w' = x.1) → Q .normal a' w') l a) : (Code.region id l.toArray true).wp P Q a w :=
  wp_region_quiet (C := fun w' => ∃ x : Later w, w' = x.1) hm hB ⟨⟨{ w with drawn := w.drawn + 1 }, ⟨rfl, rfl, rfl, Nat.le_refl _, fun _ _ => rfl⟩⟩, rfl⟩ (by simpa using h)

end Go.Proofs.YtcinagglbkbmkaaDoor
namespace Go.Proofs.YtcinagglbkbmkaaDoor
set_option linter.unusedSimpArgs false
set_option linter.unusedVariables false
open Go Go.RowKit
section
variable {P : Program} {ops : Array Oper} {Q : Exit → Act → World → Prop} {md : Region.Mode} {S : World → Prop} {n : Nat}

/-- Each operation from n on waits for each one below n. -/
def phaseB (md : Region.Mode) (ops : Array Oper) (n : Nat) : Bool :=
  (List.range ops.size).all fun t => decide (t < n) || (List.range n).all fun i => Region.waitsFor md ops t i
theorem phase_not_ready {listed : Array Bool} (hp : phaseB md ops n = true) {i t : Nat} (hi : i < n) (hun : listed.getD i true = false) (ht : t ∈ Region.ready md ops listed) : t < n := by
  rcases Nat.lt_or_ge t n with h | h
  · exact h
  · obtain ⟨_, ot, hot, hall⟩ := mem_ready.1 ht
    have htlt : t < ops.size := (Array.getElem?_eq_some_iff.1 hot).1
    have h1 := List.all_eq_true.1 hp t (List.mem_range.2 htlt)
    simp only [Bool.or_eq_true, decide_eq_true_eq] at h1
    rcases h1 with h1 | h1
    · exact h1
    · have h2 := List.all_eq_true.1 h1 i (List.mem_range.2 hi)
      obtain ⟨o', ho', e, he, hb, hon⟩ := Region.waitsFor_spec h2
      have : o' = ot := Option.some.inj (ho'.symm.trans hot)
      subst this
      have h3 := hall e he hb
      rw [hon, getD_both hun] at h3
      cases h3

/-- Whatever order is picked from here on, and S holds behind every operation below n. -/
def wpAnyB (P : Program) (md : Region.Mode) (ops : Array Oper) (Q : Exit → Act → World → Prop) (S : World → Prop) (n : Nat) : Nat → Array Bool → Act → World → Prop
  | 0, listed, a, w => Region.ready md ops listed = [] ∧ Q .normal a w
  | fuel + 1, listed, a, w =>
    (Region.ready md ops listed = [] → Q .normal a w) ∧
    ∀ i ∈ Region.ready md ops listed, wpOp P ops Q i (fun a' w' => (i < n → S w') ∧ wpAnyB P md ops Q S n fuel (listed.setIfInBounds i true) a' w') a w
theorem wpAny_of_B : ∀ (fuel : Nat) (listed : Array Bool) (a : Act) (w : World), wpAnyB P md ops Q S n fuel listed a w → wpAny P md ops Q fuel listed a w
  | 0, _, _, _, h => h
  | fuel + 1, _, _, _, h => ⟨h.1, fun i hi => wpOp_mono (fun a' w' h' => wpAny_of_B fuel _ a' w' h'.2) (h.2 i hi)⟩
theorem wpAnyB_first {i : Nat} {oi : Oper} {v : Value} (hp : phaseB md ops n = true) (hin : i < n) (hi : ops[i]? = some oi) (hsel : ∀ (j : Nat) (o : Oper) cs b, ops[j]? = some o → o.op ≠ .select cs b)
    (hQ : ∀ c a w, Q (.panic c) (a.put oi.dst v) w → Q (.panic c) a w) :
    ∀ (fuel : Nat) (listed : Array Bool) (a : Act) (w : World),
      (∀ j oj, ops[j]? = some oj → j ≠ i → listed.getD j true = false → (∀ e ∈ oj.after, Region.binds md e = true → e.on ≠ i) → oi.apart ops oj = true) →
      i ∈ Region.ready md ops listed → YieldsIf P ops S oi v a → S w →
      wpAnyB P md ops Q S n fuel (listed.setIfInBounds i true) (a.put oi.dst v) w → wpAnyB P md ops Q S n (fuel + 1) listed a w := by
  intro fuel
  induction fuel with
  | zero =>
    intro listed a w _ hr hy hS H
    refine ⟨fun h => (by rw [h] at hr; cases hr), fun j hj => ?_⟩
    by_cases hji : j = i
    · subst hji; exact hy.wpOp hi hS ⟨fun _ => hS, H⟩
    · have := ready_mono hj hji
      rw [H.1] at this
      cases this
  | succ fuel ih =>
    intro listed a w hfree hr hy hS H
    refine ⟨fun h => (by rw [h] at hr; cases hr), fun j hj => ?_⟩
    by_cases hji : j = i
    · subst hji; exact hy.wpOp hi hS ⟨fun _ => hS, H⟩
    · have hjn : j < n := phase_not_ready hp hin (mem_ready.1 hr).1 hj
      have h1 := H.2 j (ready_mono hj hji)
      obtain ⟨hjun, oj, hoj, hall⟩ := mem_ready.1 hj
      have hnot : ∀ e ∈ oj.after, Region.binds md e = true → e.on ≠ i := fun e he hb heq => by
        have h1 := hall e he hb
        have h0 := (mem_ready.1 hr).1
        rw [heq] at h1
        rcases Nat.lt_or_ge i listed.size with h' | h'
        · simp [h'] at h0 h1; rw [h0] at h1; cases h1
        · simp [Array.getElem?_eq_none h'] at h1
      have h2 := wpOp_putIf hoj (hfree j oj hoj hji hjun hnot) (fun cs b => hsel i oi cs b hi) (fun cs b => hsel j oj cs b hoj) hQ hy h1
      have hfree' : ∀ k ok, ops[k]? = some ok → k ≠ i → (listed.setIfInBounds j true).getD k true = false →
          (∀ e ∈ ok.after, Region.binds md e = true → e.on ≠ i) → oi.apart ops ok = true := fun k ok hk hki hun hno => by
        refine hfree k ok hk hki ?_ hno
        by_cases hjk : j = k
        · subst hjk; exact hjun
        · rw [getD_set_ne true hjk] at hun; exact hun
      refine wpOp_mono (fun a' w' h3 => ⟨h3.2.1, ih (listed.setIfInBounds j true) a' w' hfree' (ready_mono hr (Ne.symm hji)) h3.1 (h3.2.1 hjn) ?_⟩) h2
      rw [Array.setIfInBounds_comm _ _ hji]
      exact h3.2.2
/-- Take number i first. -/
theorem wpAnyB_take {i : Nat} {oi : Oper} {v : Value} {fuel : Nat} {listed : Array Bool} {a : Act} {w : World} (hp : phaseB md ops n = true) (hin : i < n) (hi : ops[i]? = some oi)
    (hs : Region.noSelect ops = true) (hf : Region.free md ops listed i = true) (hr : (Region.ready md ops listed).contains i = true)
    (hQ : ∀ c a w, Q (.panic c) (a.put oi.dst v) w → Q (.panic c) a w) (hy : YieldsIf P ops S oi v a) (hS : S w)
    (h : wpAnyB P md ops Q S n fuel (listed.setIfInBounds i true) (a.put oi.dst v) w) : wpAnyB P md ops Q S n (fuel + 1) listed a w :=
  wpAnyB_first hp hin hi (Region.noSelect_spec hs) hQ fuel listed a w (Region.free_spec hi hf) (by simpa using hr) hy hS h
/-- One that may come up alone. -/
theorem wpAnyB_one {i : Nat} {fuel : Nat} {listed : Array Bool} {a : Act} {w : World} (hr : Region.ready md ops listed = [i])
    (h : wpOp P ops Q i (fun a' w' => (i < n → S w') ∧ wpAnyB P md ops Q S n fuel (listed.setIfInBounds i true) a' w') a w) : wpAnyB P md ops Q S n (fuel + 1) listed a w :=
  ⟨fun h0 => (by rw [hr] at h0; cases h0), fun j hj => by
    rw [hr] at hj
    obtain rfl : j = i := (by simpa using hj)
    exact h⟩
theorem wpAnyB_done {listed : Array Bool} {a : Act} {w : World} (hr : Region.ready md ops listed = []) (h : Q .normal a w) :
    ∀ fuel, wpAnyB P md ops Q S n fuel listed a w
  | 0 => ⟨hr, h⟩
  | _ + 1 => ⟨fun _ => h, by rw [hr]; simp⟩
/-- The beginning. -/
theorem wp_region_phase (S : World → Prop) (n : Nat) {id : Nat} {a : Act} {w : World} (hm : P.follows .mixedOrders = true)
    (h : wpAnyB P .any ops Q S n ops.size (Array.replicate ops.size false) a { w with drawn := w.drawn + 1 }) : (Code.region id ops true).wp P Q a w :=
  wp_region_any hm (wpAny_of_B _ _ _ _ h)
/-- A step, as a list of one operation; what follows is kept shut. -/
theorem wpOp_intro {l : List Oper} {i : Nat} {K : Act → World → Prop} {a : Act} {w : World} (hn : i < l.length)
    (h : ∀ K' : Act → World → Prop, Hid (∀ a w, K a w → K' a w) → wpList P l.toArray (Exit.then K' Q) ((l.drop i).take 1) a w) : wpOp P l.toArray Q i K a w := by
  have hstep := h K (Lib.hid fun _ _ h => h)
  have hget : l.toArray[i]? = some l[i] := by simp [hn]
  have hdrop : (l.drop i).take 1 = [l[i]] := by rw [List.drop_eq_getElem_cons hn, List.take_succ_cons, List.take_zero]
  rw [hdrop] at hstep
  unfold wpOp
  simp only [hget]
  unfold wpList at hstep
  split
  · rename_i hwant
    rw [if_pos hwant] at hstep
    refine hstep.imp (fun hs => ?_) (fun hs => ⟨hs.1, ?_⟩)
    · have e1 := Oper.wp_mono (Q := Exit.then K Q) (K' := K) (fun a w h => h) hs
      unfold Oper.wp at *
      generalize (execOp a.eval l[i]).run P w = r at *
      cases r with
      | ok nx w2 =>
        cases nx with
        | enter f args =>
          exact Calls.mono e1 fun e w3 h3 => by cases e <;> first | exact h3 | (obtain ⟨a4, w4, h4⟩ := h3; exact ⟨a4, w4, h4⟩)
        | _ => exact e1
      | halt x w2 => cases x <;> exact e1
    · obtain ⟨a4, w4, h4⟩ := hs.2
      exact ⟨a4, w4, h4⟩
  · rename_i hwant
    rw [if_neg hwant] at hstep
    exact hstep
end
end Go.Proofs.YtcinagglbkbmkaaDoor
namespace Go.Proofs.YtcinagglbkbmkaaDoor
set_option linter.unusedSimpArgs false
set_option linter.unusedVariables false
open Go Go.RowKit

/-- Data. -/
inductive D where
  | int (n : Int)
  | str (s : List UInt8)
  | bool (b : Bool)
  | obj (fs : List D)
  | seq (k : Nat) (xs : List D)
deriving Inhabited

mutual
/-- These cells hold that, in blocks that P names. -/
inductive Reads (w : World) (P : Nat → Prop) : D → List Value → Prop
  | int (n : Int) : Reads w P (.int n) [.int .i64 n]
  | str (s : List UInt8) : Reads w P (.str s) [.string ⟨s.toArray⟩]
  | bool (b : Bool) : Reads w P (.bool b) [.bool b]
  | obj {fs : List D} {cs : List Value} : ReadsR w P fs cs → Reads w P (.obj fs) cs
  | seq {k : Nat} {xs : List D} {a : Option Addr} {cap : Nat} : ReadsS w P k a 0 xs → Reads w P (.seq k xs) [.slice a xs.length cap]
/-- One behind the other. -/
inductive ReadsR (w : World) (P : Nat → Prop) : List D → List Value → Prop
  | nil : ReadsR w P [] []
  | cons {d : D} {ds : List D} {cs cs' : List Value} : Reads w P d cs → ReadsR w P ds cs' → ReadsR w P (d :: ds) (cs ++ cs')
/-- The elements from the i-th on. -/
inductive ReadsS (w : World) (P : Nat → Prop) : Nat → Option Addr → Nat → List D → Prop
  | nil {k : Nat} {a : Option Addr} {i : Nat} : ReadsS w P k a i []
  | cons {k : Nat} {a : Option Addr} {i g o : Nat} {d : D} {ds : List D} {cs : List Value} : a = some ⟨g, o, none⟩ → P g → g < w.heap.size → cs.length = k →
      (∀ (j : Nat) v, cs[j]? = some v → w.cell? ⟨g, o + i * k + j, none⟩ = some v) → Reads w P d cs → ReadsS w P k a (i + 1) ds → ReadsS w P k a i (d :: ds)
end

/-- What P names stands in w' as it stood in w, and Q names it. -/
structure Stands (w : World) (P : Nat → Prop) (w' : World) (Q : Nat → Prop) : Prop where
  size : w.heap.size ≤ w'.heap.size
  block : ∀ g, g < w.heap.size → P g → Q g ∧ w'.heap[g]? = w.heap[g]?
mutual
theorem Reads.to {w w' : World} {P Q : Nat → Prop} (hs : Stands w P w' Q) : ∀ {d : D} {cs : List Value}, Reads w P d cs → Reads w' Q d cs
  | _, _, .int n => .int n
  | _, _, .str s => .str s
  | _, _, .bool b => .bool b
  | _, _, .obj h => .obj (ReadsR.to hs h)
  | _, _, .seq h => .seq (ReadsS.to hs h)
theorem ReadsR.to {w w' : World} {P Q : Nat → Prop} (hs : Stands w P w' Q) : ∀ {ds : List D} {cs : List Value}, ReadsR w P ds cs → ReadsR w' Q ds cs
  | _, _, .nil => .nil
  | _, _, .cons h t => .cons (Reads.to hs h) (ReadsR.to hs t)
theorem ReadsS.to {w w' : World} {P Q : Nat → Prop} (hs : Stands w P w' Q) : ∀ {k : Nat} {a : Option Addr} {i : Nat} {ds : List D}, ReadsS w P k a i ds → ReadsS w' Q k a i ds
  | _, _, _, _, .nil => .nil
  | _, _, _, _, .cons e hP hg hl hc h t => .cons e (hs.block _ hg hP).1 (Nat.lt_of_lt_of_le hg hs.size) hl (fun j v hv => by
      rw [World.cell?_of_block (w := w) (hs.block _ hg hP).2]; exact hc j v hv) (Reads.to hs h) (ReadsS.to hs t)
end
mutual
theorem Reads.one {w : World} {P : Nat → Prop} : ∀ {d : D} {cs : List Value}, Reads w P d cs → ∀ u ∈ cs, u.oneCell' = true
  | _, _, .int n => fun u hu => by simp at hu; subst hu; rfl
  | _, _, .str s => fun u hu => by simp at hu; subst hu; rfl
  | _, _, .bool b => fun u hu => by simp at hu; subst hu; rfl
  | _, _, .obj h => ReadsR.one h
  | _, _, .seq h => fun u hu => by simp at hu; subst hu; rfl
theorem ReadsR.one {w : World} {P : Nat → Prop} : ∀ {ds : List D} {cs : List Value}, ReadsR w P ds cs → ∀ u ∈ cs, u.oneCell' = true
  | _, _, .nil => fun u hu => by simp at hu
  | _, _, .cons h t => fun u hu => by
    rcases List.mem_append.1 hu with hu | hu
    · exact Reads.one h u hu
    · exact ReadsR.one t u hu
end
section
variable {w w' : World} {P Q : Nat → Prop}
theorem Stands.refl (w : World) (P : Nat → Prop) : Stands w P w P := ⟨Nat.le_refl _, fun _ _ h => ⟨h, rfl⟩⟩
theorem Stands.sub (w : World) (h : ∀ g, g < w.heap.size → P g → Q g) : Stands w P w Q := ⟨Nat.le_refl _, fun g hg hp => ⟨h g hg hp, rfl⟩⟩
theorem Stands.below (h : Below w.heap.size w w') : Stands w P w' P := ⟨h.size, fun g hg hp => ⟨hp, h.block g hg⟩⟩
theorem Stands.trans {w2 : World} {R : Nat → Prop} (h : Stands w P w' Q) (k : Stands w' Q w2 R) : Stands w P w2 R :=
  ⟨Nat.le_trans h.size k.size, fun g hg hp => by
    obtain ⟨q, e⟩ := h.block g hg hp
    obtain ⟨r, f⟩ := k.block g (Nat.lt_of_lt_of_le hg h.size) q
    exact ⟨r, f.trans e⟩⟩
theorem Stands.drewN (h : Stands w P w' Q) (n : Nat) : Stands w P (w'.drewN n) Q := ⟨h.size, h.block⟩

theorem Reads.int_inv {n : Int} {cs : List Value} (h : Reads w P (.int n) cs) : cs = [.int .i64 n] := by cases h; rfl
theorem Reads.seq_inv {k : Nat} {xs : List D} {cs : List Value} (h : Reads w P (.seq k xs) cs) : ∃ a cap, cs = [.slice a xs.length cap] ∧ ReadsS w P k a 0 xs := by cases h; exact ⟨_, _, rfl, by assumption⟩
/-- One element. -/
theorem ReadsS.at {k : Nat} {a : Option Addr} : ∀ {i : Nat} {ds : List D}, ReadsS w P k a i ds → ∀ (j : Nat) (d : D), ds[j]? = some d →
    ∃ g o cs, a = some ⟨g, o, none⟩ ∧ P g ∧ g < w.heap.size ∧ cs.length = k ∧ (∀ (q : Nat) v, cs[q]? = some v → w.cell? ⟨g, o + (i + j) * k + q, none⟩ = some v) ∧ Reads w P d cs
  | _, _, .nil, j, d, h => by simp at h
  | i, _ :: _, .cons e hP hg hl hc h t, 0, d, hd => by
    simp at hd; subst hd
    exact ⟨_, _, _, e, hP, hg, hl, hc, h⟩
  | i, _ :: ds, .cons e hP hg hl hc h t, j + 1, d, hd => by
    have := ReadsS.at t j d (by simpa using hd)
    rw [show i + 1 + j = i + (j + 1) by omega] at this
    exact this
end

/-- Data one behind the other, k cells each. -/
inductive RowsD (w : World) (P : Nat → Prop) (k : Nat) : List D → List Value → Prop
  | nil : RowsD w P k [] []
  | cons {d : D} {ds : List D} {cs cs' : List Value} : Reads w P d cs → cs.length = k → RowsD w P k ds cs' → RowsD w P k (d :: ds) (cs ++ cs')
section
variable {w w' : World} {P Q : Nat → Prop} {k : Nat}
theorem RowsD.to (hs : Stands w P w' Q) : ∀ {ds : List D} {cs : List Value}, RowsD w P k ds cs → RowsD w' Q k ds cs
  | _, _, .nil => .nil
  | _, _, .cons h hl t => .cons (h.to hs) hl (t.to hs)
theorem RowsD.len : ∀ {ds : List D} {cs : List Value}, RowsD w P k ds cs → cs.length = ds.length * k
  | _, _, .nil => by simp
  | _, _, .cons h hl t => by rw [List.length_append, t.len, hl, List.length_cons, Nat.succ_mul]; omega
theorem RowsD.snoc : ∀ {ds : List D} {cs : List Value}, RowsD w P k ds cs → ∀ {d : D} {c : List Value}, Reads w P d c → c.length = k → RowsD w P k (ds ++ [d]) (cs ++ c)
  | _, _, .nil, d, c, h, hl => by
    have := RowsD.cons h hl .nil
    rwa [List.append_nil] at this
  | _, _, .cons h0 hl0 t, d, c, h, hl => by
    rw [List.cons_append, List.append_assoc]
    exact .cons h0 hl0 (t.snoc h hl)
theorem RowsD.seqAt {g : Nat} (hP : P g) (hg : g < w.heap.size) : ∀ {ds : List D} {cs : List Value}, RowsD w P k ds cs → ∀ (i : Nat), (∀ (j : Nat) v, cs[j]? = some v → w.cell? ⟨g, i * k + j, none⟩ = some v) → ReadsS w P k (some ⟨g, 0, none⟩) i ds
  | _, _, .nil, i, hc => .nil
  | _, _, .cons (cs := c) (cs' := c') h hl t, i, hc => by
    refine .cons rfl hP hg hl (fun j v hv => ?_) h (t.seqAt hP hg (i + 1) (fun j v hv => ?_))
    · rw [Nat.zero_add]
      have hj := (List.getElem?_eq_some_iff.1 hv).1
      exact hc j v (by rw [List.getElem?_append_left hj]; exact hv)
    · have := hc (k + j) v (by rw [List.getElem?_append_right (by omega), show k + j - c.length = j by omega]; exact hv)
      rw [show (i + 1) * k + j = i * k + (k + j) by rw [Nat.succ_mul]; omega]
      exact this
end

theorem addr_add0 (g k : Nat) : (⟨g, 0, none⟩ : Addr).add k = ⟨g, k, none⟩ := by
  by_cases h : k = 0
  · subst h; simp [Addr.add]
  · simp [Addr.add, h]
theorem block_lt {w : World} {k : Nat} {o : Obj} (h : w.heap[k]? = some o) : k < w.heap.size := by
  rcases Nat.lt_or_ge k w.heap.size with h' | h'
  · exact h'
  · simp [Array.getElem?_eq_none h'] at h

/-- A row that grows: it holds this; its own block is none of P's. -/
structure Grows (w : World) (P : Nat → Prop) (base : Nat) (T : TypeId) (k : Nat) (v : Value) (xs : List D) : Prop where
  row : ∃ cs, w.ownsRow base T k v xs.length cs ∧ RowsD w P k xs cs
  apart : ∀ g, v.ownBlock = some g → ¬ P g
section
variable {w w' : World} {P Q : Nat → Prop} {base k : Nat} {T : TypeId} {v v' : Value} {xs : List D}
theorem Grows.nil (w : World) (P : Nat → Prop) (base : Nat) (T : TypeId) (k : Nat) : Grows w P base T k (.slice none 0 0) [] :=
  ⟨⟨[], World.ownsRow_nil _ _ _ _, .nil⟩, fun g hg => by simp [Value.ownBlock] at hg⟩
theorem row_to {cs : List Value} {n : Nat} (h : w.ownsRow base T k v n cs) (hb : ∀ g, v.ownBlock = some g → w'.heap[g]? = w.heap[g]?) : w'.ownsRow base T k v n cs := by
  refine ⟨h.1, ?_⟩
  rcases h.2 with h2 | ⟨g, cap, cur, hv, hg, hc, h3⟩
  · exact .inl h2
  · refine .inr ⟨g, cap, cur, hv, hg, ?_, h3⟩
    rw [hb g (by rw [hv]; rfl)]
    exact hc
theorem Grows.to (h : Grows w P base T k v xs) (hs : Stands w P w' Q) (hb : ∀ g, v.ownBlock = some g → ¬ Q g ∧ w'.heap[g]? = w.heap[g]?) : Grows w' Q base T k v xs := by
  obtain ⟨⟨cs, h1, h2⟩, h3⟩ := h
  exact ⟨⟨cs, row_to h1 (fun g hg => (hb g hg).2), h2.to hs⟩, fun g hg => (hb g hg).1⟩
theorem Grows.form (h : Grows w P base T k v xs) : ∃ a c, v = .slice a xs.length c := by
  obtain ⟨⟨cs, h1, h2⟩, h3⟩ := h
  rcases h1.2 with ⟨h4, h5⟩ | ⟨g, cap, cur, hv, hg, hc, h6⟩
  · exact ⟨none, 0, by rw [h5]; exact h4⟩
  · exact ⟨_, _, hv⟩
theorem Grows.lt (h : Grows w P base T k v xs) : ∀ g, v.ownBlock = some g → base ≤ g ∧ g < w.heap.size := by
  obtain ⟨⟨cs, h1, h2⟩, h3⟩ := h
  exact h1.lt
/-- The row, told as data. -/
theorem Grows.reads (h : Grows w P base T k v xs) : Reads w (fun g => P g ∨ v.ownBlock = some g) (.seq k xs) [v] := by
  obtain ⟨⟨cs, h1, h2⟩, h3⟩ := h
  have hc := fun g hg => World.ownsRow.cells (g := g) h1 hg
  rcases h1.2 with ⟨h4, h5⟩ | ⟨g, cap, cur, hv, hg, hcur, h6⟩
  · subst h4
    have : xs = [] := List.eq_nil_of_length_eq_zero h5
    subst this
    exact .seq .nil
  · subst hv
    refine .seq ((h2.to (Q := fun x => P x ∨ (Value.slice (some ⟨g, 0, none⟩) xs.length cap).ownBlock = some x) (Stands.sub w (fun x _ hx => .inl hx))).seqAt (g := g) (.inr rfl) (block_lt hcur) 0 (fun j v hj => ?_))
    have := hc g rfl j v hj
    rw [addr_add0] at this
    rw [Nat.zero_mul, Nat.zero_add]
    exact this
/-- One more. -/
theorem Grows.more {d : D} {c : List Value} (h : Grows w P base T k v xs) (hd : Reads w P d c) (hk : c.length = k) {w1 : World} (hs : Stands w P w1 P)
    (hrow : ∀ cs, RowsD w P k xs cs → w1.ownsRow base T k v' (xs.length + 1) (cs ++ c)) (hap : ∀ g, v'.ownBlock = some g → ¬ P g) : Grows w1 P base T k v' (xs ++ [d]) := by
  obtain ⟨⟨cs, h1, h2⟩, h3⟩ := h
  refine ⟨⟨cs ++ c, ?_, (h2.snoc hd hk).to hs⟩, hap⟩
  rw [List.length_append]
  exact hrow cs h2
end
end Go.Proofs.YtcinagglbkbmkaaDoor
namespace Go.Proofs.YtcinagglbkbmkaaDoor
set_option linter.unusedSimpArgs false
set_option linter.unusedVariables false
open Go Go.RowKit

mutual
/-- This tree is of that type. -/
def HasT (P : Program) : TypeId → D → Prop
  | t, .int n => P.underlying t = some (.int .i64) ∧ (Lit.int .i64 n).wf = true
  | t, .str s => P.underlying t = some .string ∧ s.length ≤ maxLen
  | t, .bool _ => P.underlying t = some .bool
  | t, .obj ds => ∃ fs, P.underlying t = some (.struct fs) ∧ HasTs P (fs.toList.map (·.type)) ds
  | t, .seq k ds => ∃ e, P.underlying t = some (.slice e) ∧ P.cellsOf e = k ∧ ds.length ≤ maxLen ∧ HasTe P e ds
def HasTs (P : Program) : List TypeId → List D → Prop
  | [], [] => True
  | t :: ts, d :: ds => HasT P t d ∧ HasTs P ts ds
  | [], _ :: _ => False
  | _ :: _, [] => False
def HasTe (P : Program) : TypeId → List D → Prop
  | _, [] => True
  | e, d :: ds => HasT P e d ∧ HasTe P e ds
end
/-- A list of types that hold no others. -/
def niceB (P : Program) (L : List TypeId) : Bool := L.all fun t => match P.underlying t with
  | some (.int k) => decide (k = .i64)
  | some .string => true
  | some .bool => true
  | some (.struct fs) => P.consecB fs.toList 0 (P.cellsOf t) && fs.toList.all fun f => L.contains f.type
  | some (.slice e) => L.contains e && decide (0 < P.cellsOf e)
  | _ => false
section
variable {H : Type} {enc : TypeId × Value → H} {P : Program} {w : World} {sp : Nat → Bool} {held : Bool}
theorem fields_read {n : Nat} {L : List TypeId} (IH : ∀ t cs x, t ∈ L → DataW.trod enc P w 0 sp held n t cs = some x → ∃ d, Reads w (fun _ => True) d cs ∧ HasT P t d) :
    ∀ (fs : List Field) (xs : List (DataW H × List MemPlace)) (off : Nat) (cs : List Value), P.consecB fs off cs.length = true → (∀ f ∈ fs, f.type ∈ L) → xs.length = fs.length →
      (∀ (i : Nat) (f : Field), fs[i]? = some f → DataW.trod enc P w 0 sp held n f.type ((cs.drop f.offset).take (P.cellsOf f.type)) = xs[i]?) →
      ∃ ds, ReadsR w (fun _ => True) ds (cs.drop off) ∧ HasTs P (fs.map (·.type)) ds
  | [], xs, off, cs, hc, _, _, _ => by
    unfold Program.consecB at hc
    have : off = cs.length := by simpa using hc
    subst this
    rw [List.drop_length]
    exact ⟨[], .nil, trivial⟩
  | f :: fs, [], off, cs, hc, _, hl, _ => by simp at hl
  | f :: fs, x :: xs, off, cs, hc, hT, hl, h => by
    unfold Program.consecB at hc
    rw [Bool.and_eq_true] at hc
    have ho : f.offset = off := by simpa using hc.1
    have h0 := h 0 f rfl
    rw [ho] at h0
    obtain ⟨d, hd, ht⟩ := IH _ _ _ (hT f (by simp)) h0
    obtain ⟨ds, hds, hts⟩ := fields_read IH fs xs (off + P.cellsOf f.type) cs hc.2 (fun g hg => hT g (by simp [hg])) (by simpa using hl) (fun i g hg => h (i + 1) g hg)
    refine ⟨d :: ds, ?_, ht, hts⟩
    rw [← take_drop_step cs off (P.cellsOf f.type)]
    exact .cons hd hds
theorem elems_read {n k : Nat} {e : TypeId} (IH : ∀ cs x, DataW.trod enc P w 0 sp held n e cs = some x → ∃ d, Reads w (fun _ => True) d cs ∧ HasT P e d) (hk : P.cellsOf e = k) (h0 : 0 < k) (a : Addr) (len : Nat) (hs : 0 < len → a.spot = none) :
    ∀ (m i : Nat) (elems : List (DataW H × List MemPlace)), i + m = len → elems.length = len → (∀ i, i < len → (w.cells? 0 (a.add (i * P.cellsOf e)) (P.cellsOf e)).bind (DataW.trod enc P w 0 sp held n e) = elems[i]?) →
      ∃ ds, ds.length = m ∧ ReadsS w (fun _ => True) k (some a) i ds ∧ HasTe P e ds
  | 0, i, elems, hi, hl, h => ⟨[], rfl, .nil, trivial⟩
  | m + 1, i, elems, hi, hl, h => by
    obtain ⟨ds, hdl, hds, hts⟩ := elems_read IH hk h0 a len hs m (i + 1) elems (by omega) hl h
    have hx := h i (by omega)
    rw [List.getElem?_eq_getElem (by omega : i < elems.length), Option.bind_eq_some_iff] at hx
    obtain ⟨cs, hcells, hd⟩ := hx
    obtain ⟨d, hr, ht⟩ := IH cs _ hd
    obtain ⟨_, hlc, hcell⟩ := World.cells?_some hcells
    rw [hk] at hcell hlc
    have hc0 := hcell 0 h0
    rw [List.getElem?_eq_getElem (by omega : 0 < cs.length)] at hc0
    obtain ⟨g, o, spot⟩ := a
    have hspot : spot = none := hs (by omega)
    subst hspot
    have hlt : g < w.heap.size := by
      have hb := World.block_lt_of_cell? w _ hc0
      rw [Addr.add_add] at hb
      unfold Addr.add at hb
      split at hb <;> exact hb
    refine ⟨d :: ds, by rw [List.length_cons, hdl], ?_, ht, hts⟩
    refine .cons rfl trivial hlt hlc (fun j v hj => ?_) hr hds
    have hjl : j < k := by rw [← hlc]; exact (List.getElem?_eq_some_iff.1 hj).1
    have := hcell j hjl
    rw [hj, Addr.add_add] at this
    rw [← this]
    congr 1
    unfold Addr.add
    split
    · rename_i hz
      have h1 : i * k = 0 := by omega
      have h2 : j = 0 := by omega
      rw [h1, h2]; rfl
    · show _ = (⟨g, o + (i * k + j), _⟩ : Addr)
      rw [Nat.add_assoc]
theorem open_data {L : List TypeId} (hL : niceB P L = true) : ∀ (fuel : Nat) (t : TypeId) (cs : List Value) (x : DataW H × List MemPlace), t ∈ L → DataW.trod enc P w 0 sp held fuel t cs = some x → ∃ d, Reads w (fun _ => True) d cs ∧ HasT P t d
  | 0, t, cs, x, _, h => by simp [DataW.trod] at h
  | n + 1, t, cs, x, ht, h => by
    have hn := List.all_eq_true.1 hL t ht
    split at hn
    · rename_i k hu
      obtain rfl : k = .i64 := of_decide_eq_true hn
      obtain ⟨m, rfl, -, hw⟩ := DataW.trod_int hu h
      exact ⟨.int m, .int m, hu, hw⟩
    · rename_i hu
      obtain ⟨s, rfl, -, hs⟩ := DataW.trod_string hu h
      have e : s = ⟨s.data.toList.toArray⟩ := by cases s; simp
      refine ⟨.str s.data.toList, ?_, hu, hs⟩
      have := Reads.str (w := w) (P := fun _ => True) s.data.toList
      rw [← e] at this
      exact this
    · rename_i hu
      obtain ⟨b, rfl, -⟩ := DataW.trod_bool hu h
      exact ⟨.bool b, .bool b, hu⟩
    · rename_i fs hu
      rw [Bool.and_eq_true] at hn
      obtain ⟨xs, n', e, -, hl, hxl, hf⟩ := DataW.trod_struct hu h
      obtain rfl : n = n' := by omega
      obtain ⟨ds, hds, hts⟩ := fields_read (fun t cs x ht hx => open_data hL n t cs x ht hx) fs.toList xs 0 cs (by rw [hl]; exact hn.1) (fun f hf => by simpa using List.all_eq_true.1 hn.2 f hf) (by rw [hxl]; simp) (fun i f hi => hf i f (by simpa using hi))
      rw [List.drop_zero] at hds
      exact ⟨.obj ds, .obj hds, fs, hu, hts⟩
    · rename_i e hu
      rw [Bool.and_eq_true, decide_eq_true_eq] at hn
      have heL : e ∈ L := by simpa using hn.1
      rcases DataW.trod_slice hu h with ⟨rfl, -⟩ | ⟨a, len, cap, elems, rest, n', e2, rfl, -, -, hlc, hcm, hel, hrd, -⟩
      · exact ⟨.seq (P.cellsOf e) [], .seq .nil, e, hu, rfl, by simp, trivial⟩
      · obtain rfl : n = n' := by omega
        have hspot : 0 < len → a.spot = none := fun h0 => by
          have hx := hrd 0 h0
          rw [List.getElem?_eq_getElem (by omega : 0 < elems.length), Option.bind_eq_some_iff] at hx
          obtain ⟨cs, hcells, -⟩ := hx
          obtain ⟨_, hlc, hcell⟩ := World.cells?_some hcells
          have hc0 := hcell 0 hn.2
          rw [List.getElem?_eq_getElem (by omega : 0 < cs.length)] at hc0
          have ha : (a.add (0 * P.cellsOf e)).add 0 = a := by simp [Addr.add]
          rw [ha] at hc0
          exact World.cell?_spot hc0
        obtain ⟨ds, hdl, hds, hts⟩ := elems_read (fun cs x hx => open_data hL n e cs x heL hx) rfl hn.2 a len hspot len 0 elems (by omega) hel hrd
        subst hdl
        exact ⟨.seq (P.cellsOf e) ds, .seq hds, e, hu, rfl, by omega, hts⟩
    · cases hn
theorem open_arg {L : List TypeId} (hL : niceB P L = true) {t : TypeId} {v : Value} {x : DataW H} {ps : List MemPlace} (ht : t ∈ L) (h : DataW.Trod enc P w 0 sp held t v x ps) : ∃ d, Reads w (fun _ => True) d v.cells.toList ∧ HasT P t d := by
  obtain ⟨fuel, hf⟩ := h
  exact open_data hL fuel t _ _ ht hf
end
section
variable {P : Program} {t : TypeId} {d : D}
theorem HasT.int (ht : P.underlying t = some (.int .i64)) (h : HasT P t d) : ∃ n, d = .int n ∧ (Lit.int .i64 n).wf = true := by
  cases d with
  | int n => unfold HasT at h; exact ⟨n, rfl, h.2⟩
  | str s => unfold HasT at h; rw [ht] at h; cases h.1
  | bool b => unfold HasT at h; rw [ht] at h; cases h
  | obj ds => unfold HasT at h; obtain ⟨fs, h, -⟩ := h; rw [ht] at h; cases h
  | seq k ds => unfold HasT at h; obtain ⟨fs, h, -⟩ := h; rw [ht] at h; cases h
theorem HasT.str (ht : P.underlying t = some .string) (h : HasT P t d) : ∃ s, d = .str s ∧ s.length ≤ maxLen := by
  cases d with
  | int n => unfold HasT at h; rw [ht] at h; cases h.1
  | str s => unfold HasT at h; exact ⟨s, rfl, h.2⟩
  | bool b => unfold HasT at h; rw [ht] at h; cases h
  | obj ds => unfold HasT at h; obtain ⟨fs, h, -⟩ := h; rw [ht] at h; cases h
  | seq k ds => unfold HasT at h; obtain ⟨fs, h, -⟩ := h; rw [ht] at h; cases h
theorem HasT.bool (ht : P.underlying t = some .bool) (h : HasT P t d) : ∃ b, d = .bool b := by
  cases d with
  | int n => unfold HasT at h; rw [ht] at h; cases h.1
  | str s => unfold HasT at h; rw [ht] at h; cases h.1
  | bool b => exact ⟨b, rfl⟩
  | obj ds => unfold HasT at h; obtain ⟨fs, h, -⟩ := h; rw [ht] at h; cases h
  | seq k ds => unfold HasT at h; obtain ⟨fs, h, -⟩ := h; rw [ht] at h; cases h
theorem HasT.obj {fs : Array Field} (ht : P.underlying t = some (.struct fs)) (h : HasT P t d) : ∃ ds, d = .obj ds ∧ HasTs P (fs.toList.map (·.type)) ds := by
  cases d with
  | int n => unfold HasT at h; rw [ht] at h; cases h.1
  | str s => unfold HasT at h; rw [ht] at h; cases h.1
  | bool b => unfold HasT at h; rw [ht] at h; cases h
  | obj ds =>
    unfold HasT at h
    obtain ⟨fs', h1, h2⟩ := h
    rw [ht] at h1
    cases h1
    exact ⟨ds, rfl, h2⟩
  | seq k ds => unfold HasT at h; obtain ⟨fs, h, -⟩ := h; rw [ht] at h; cases h
theorem HasT.seq {e : TypeId} (ht : P.underlying t = some (.slice e)) (h : HasT P t d) : ∃ ds, d = .seq (P.cellsOf e) ds ∧ ds.length ≤ maxLen ∧ HasTe P e ds := by
  cases d with
  | int n => unfold HasT at h; rw [ht] at h; cases h.1
  | str s => unfold HasT at h; rw [ht] at h; cases h.1
  | bool b => unfold HasT at h; rw [ht] at h; cases h
  | obj ds => unfold HasT at h; obtain ⟨fs, h, -⟩ := h; rw [ht] at h; cases h
  | seq k ds =>
    unfold HasT at h
    obtain ⟨e', h1, h2, h3, h4⟩ := h
    rw [ht] at h1
    cases h1
    subst h2
    exact ⟨ds, rfl, h3, h4⟩
theorem HasTs.cons {ts : List TypeId} {ds : List D} (h : HasTs P (t :: ts) ds) : ∃ d r, ds = d :: r ∧ HasT P t d ∧ HasTs P ts r := by
  cases ds with
  | nil => unfold HasTs at h; exact h.elim
  | cons d r => unfold HasTs at h; exact ⟨d, r, rfl, h.1, h.2⟩
theorem HasTs.nil {ds : List D} (h : HasTs P [] ds) : ds = [] := by
  cases ds with
  | nil => rfl
  | cons d r => unfold HasTs at h; exact h.elim
end
end Go.Proofs.YtcinagglbkbmkaaDoor
namespace Go.Proofs.YtcinagglbkbmkaaDoor
set_option linter.unusedSimpArgs false
set_option linter.unusedVariables false
open Go Go.RowKit

/-- A slice of strings. -/
def Strs (w : World) (v : Value) (ls : List ByteArray) : Prop :=
  ∃ a cap, v = .slice a ls.length cap ∧ ∀ (i : Nat) s, ls[i]? = some s → ∃ b off, a = some ⟨b, off, none⟩ ∧ b < w.heap.size ∧ w.cell? ⟨b, off + i, none⟩ = some (.string s)
theorem Strs.form {w : World} {v : Value} {ls : List ByteArray} (h : Strs w v ls) : ∃ a cap, v = .slice a ls.length cap := by
  obtain ⟨a, cap, h1, h2⟩ := h
  exact ⟨a, cap, h1⟩
theorem Strs.at {w : World} {a : Option Addr} {n cap : Nat} {ls : List ByteArray} (h : Strs w (.slice a n cap) ls) {i : Nat} {s : ByteArray} (hi : ls[i]? = some s) :
    ∃ b off, a = some ⟨b, off, none⟩ ∧ w.cell? ⟨b, off + i, none⟩ = some (.string s) := by
  obtain ⟨a', cap', h1, h2⟩ := h
  obtain ⟨b, off, e, h3, h4⟩ := h2 i s hi
  simp only [Value.slice.injEq] at h1
  exact ⟨b, off, by rw [h1.1, e], h4⟩

namespace Fs
def goodB (c : UInt8) : Bool := (decide (97 ≤ c.toNat) && decide (c.toNat ≤ 122)) || (decide (48 ≤ c.toNat) && decide (c.toNat ≤ 57)) || decide (c.toNat = 46) || decide (c.toNat = 45)
/-- A file's name. -/
def good (l : List UInt8) : Bool := decide (1 ≤ l.length) && decide (l.length ≤ 20) && l.all goodB
end Fs

theorem all_sfx (s : ByteArray) (p : UInt8 → Bool) (a : Nat) (h : a < s.size) : (sfx s a).all p = (p (bt s a) && (sfx s (a + 1)).all p) := by
  rw [sfx_cons s a h, List.all_cons]
theorem good_size (s : ByteArray) : Fs.good s.data.toList = (decide (1 ≤ s.size) && decide (s.size ≤ 20) && (sfx s 0).all Fs.goodB) := by
  unfold Fs.good
  rw [sfx_all]
  rfl
theorem all_split (ls : List ByteArray) (p : ByteArray → Bool) (j : Nat) (s : ByteArray) (h : ls[j]? = some s) : (ls.drop j).all p = (p s && (ls.drop (j + 1)).all p) := by
  obtain ⟨hj, rfl⟩ := List.getElem?_eq_some_iff.1 h
  rw [List.drop_eq_getElem_cons hj, List.all_cons]
def goodAll (ls : List ByteArray) : Bool := ls.all fun s => Fs.good s.data.toList

set_option maxHeartbeats 1000000 in
set_option maxRecDepth 100000 in
theorem named_any (v : Value) (ls : List ByteArray) (w : World) (hV : Strs w v ls) (hl : ls.length ≤ 1000000) (hs : ∀ s ∈ ls, s.size ≤ 9223372036854775807) :
    Calls Tryd.prog 30 #[v] w fun e w' => e = .returned (.bool (goodAll ls)) ∧ w' = w := by
  obtain ⟨va, vc, rfl⟩ := hV.form
  go_enter Tryd.func30, Tryd.ntmps30
  go_wp2
  go_loopg [9] ls.length (fun k s9 wr => ∃ j : Nat, j ≤ ls.length ∧ k = ls.length - j ∧ s9 = .int .i64 (j : Nat) ∧ (ls.drop j).all (fun s => Fs.good s.data.toList) = goodAll ls ∧ wr = w)
  case atStart => exact ⟨0, Nat.zero_le _, rfl, rfl, rfl, rfl⟩
  case round =>
    obtain ⟨j, hj, hk, rfl, hall, rfl⟩ := hrel
    have HK := Lib.hid hk
    have HALL := Lib.hid hall
    clear hk hall
    have hj0 : (0 : Int) ≤ (j : Int) := Int.natCast_nonneg _
    by_cases hjn : j < ls.length
    · have hjn1 : (j : Int) < (ls.length : Int) := by omega
      obtain ⟨s, hs1⟩ : ∃ s, ls[j]? = some s := ⟨_, List.getElem?_eq_getElem hjn⟩
      have hsz := hs s (List.mem_of_getElem? hs1)
      obtain ⟨g, o, rfl, hcell⟩ := hV.at hs1
      have HSP := Lib.hid (all_split ls (fun s => Fs.good s.data.toList) j s hs1)
      have HG := Lib.hid (good_size s)
      clear hs1
      have hs0 : (0 : Int) ≤ (s.size : Int) := Int.natCast_nonneg _
      by_cases hlen : s.size < 1 ∨ 20 < s.size
      · have HF : Hid (goodAll ls = false) := by
          rw [← HALL.out, HSP.out]
          have : Fs.good s.data.toList = false := by
            rw [HG.out]
            rcases hlen with h | h
            · rw [decide_eq_false (by omega)]; rfl
            · rw [decide_eq_false (p := s.size ≤ 20) (by omega)]; simp
          refine Lib.hid ?_
          show (Fs.good s.data.toList && _) = false
          rw [this, Bool.false_and]
        rcases hlen with h | h
        · have h1 : (s.size : Int) < 1 := by omega
          go_wp2
          go_ret
          exact ⟨congrArg (fun b => Ending.returned (.bool b)) HF.out.symm, rfl⟩
        · have h1 : (1 : Int) ≤ (s.size : Int) := by omega
          have h2 : (20 : Int) < (s.size : Int) := by omega
          go_wp2
          go_ret
          exact ⟨congrArg (fun b => Ending.returned (.bool b)) HF.out.symm, rfl⟩
      · have h1 : (1 : Int) ≤ (s.size : Int) := by omega
        have h2 : (s.size : Int) ≤ 20 := by omega
        have HG2 : Hid (Fs.good s.data.toList = (sfx s 0).all Fs.goodB) := by
          rw [HG.out, decide_eq_true (by omega), decide_eq_true (by omega)]
          exact Lib.hid rfl
        clear hlen HG
        go_wp2
        go_loopg [23] s.size (fun k s23 wq => ∃ a : Nat, a ≤ s.size ∧ k = s.size - a ∧ s23 = .int .i64 (a : Nat) ∧ (sfx s a).all Fs.goodB = (sfx s 0).all Fs.goodB ∧ wq = wr)
        case atStart => exact ⟨0, Nat.zero_le _, rfl, rfl, rfl, rfl⟩
        case round =>
          obtain ⟨a, ha, hk, rfl, hal, rfl⟩ := hrel
          have HK2 := Lib.hid hk
          have HAL := Lib.hid hal
          clear hk hal
          have ha0 : (0 : Int) ≤ (a : Int) := Int.natCast_nonneg _
          by_cases hlt : a < s.size
          · have hlt1 : (a : Int) < (s.size : Int) := by omega
            have HA := Lib.hid (all_sfx s Fs.goodB a hlt)
            have HB : Hid (Fs.goodB (bt s a) = true ↔ (97 ≤ (bt s a).toNat ∧ (bt s a).toNat ≤ 122) ∨ (48 ≤ (bt s a).toNat ∧ (bt s a).toNat ≤ 57) ∨ (bt s a).toNat = 46 ∨ (bt s a).toNat = 45) := by
              refine Lib.hid ?_
              unfold Fs.goodB
              simp only [Bool.or_eq_true, Bool.and_eq_true, decide_eq_true_eq]
              omega
            have hcases : ((97 ≤ (bt s a).toNat ∧ (bt s a).toNat ≤ 122) ∨ (48 ≤ (bt s a).toNat ∧ (bt s a).toNat ≤ 57) ∨ (bt s a).toNat = 46 ∨ (bt s a).toNat = 45) ∨ (((bt s a).toNat < 48 ∧ (bt s a).toNat ≠ 46 ∧ (bt s a).toNat ≠ 45) ∨ (57 < (bt s a).toNat ∧ (bt s a).toNat < 97) ∨ 122 < (bt s a).toNat) := by omega
            rcases hcases with hgd | hbd
            · have HBB : Hid (Fs.goodB (bt s a) = true) := Lib.hid (HB.out.2 hgd)
              rcases hgd with ⟨g1, g2⟩ | ⟨g1, g2⟩ | g1 | g1
              · have q1 : (97 : Int) ≤ ((bt s a).toNat : Int) := by omega
                have q2 : ((bt s a).toNat : Int) ≤ 122 := by omega
                go_wp2
                go_roundg (s.size - (a + 1))
                case measure => rw [HK2.out]; omega
                case rel => exact ⟨a + 1, hlt, rfl, by simp, by rw [← HAL.out, HA.out, HBB.out, Bool.true_and], rfl⟩
              · have q1 : (48 : Int) ≤ ((bt s a).toNat : Int) := by omega
                have q2 : ((bt s a).toNat : Int) ≤ 57 := by omega
                go_wp2
                go_roundg (s.size - (a + 1))
                case measure => rw [HK2.out]; omega
                case rel => exact ⟨a + 1, hlt, rfl, by simp, by rw [← HAL.out, HA.out, HBB.out, Bool.true_and], rfl⟩
              · have q1 : ((bt s a).toNat : Int) = 46 := by omega
                clear g1
                go_wp2
                go_roundg (s.size - (a + 1))
                case measure => rw [HK2.out]; omega
                case rel => exact ⟨a + 1, hlt, rfl, by simp, by rw [← HAL.out, HA.out, HBB.out, Bool.true_and], rfl⟩
              · have q1 : ((bt s a).toNat : Int) = 45 := by omega
                clear g1
                go_wp2
                go_roundg (s.size - (a + 1))
                case measure => rw [HK2.out]; omega
                case rel => exact ⟨a + 1, hlt, rfl, by simp, by rw [← HAL.out, HA.out, HBB.out, Bool.true_and], rfl⟩
            · have HBB : Hid (Fs.goodB (bt s a) = false) := by
                refine Lib.hid ?_
                cases hh : Fs.goodB (bt s a)
                · rfl
                · have := HB.out.1 hh
                  omega
              rcases hbd with ⟨g1, g2, g3⟩ | ⟨g1, g2⟩ | g1
              · have q1 : ((bt s a).toNat : Int) < 48 := by omega
                have q2 := neT (n := (bt s a).toNat) (k := 46) (by omega)
                have q3 := neT (n := (bt s a).toNat) (k := 45) (by omega)
                clear g2 g3
                go_wp2
                go_ret
                refine ⟨congrArg (fun b => Ending.returned (.bool b)) ?_, rfl⟩
                rw [← HALL.out, HSP.out, HG2.out, ← HAL.out, HA.out, HBB.out]
                rfl
              · have q1 : ((bt s a).toNat : Int) < 97 := by omega
                have q4 : (57 : Int) < ((bt s a).toNat : Int) := by omega
                have q2 := neT (n := (bt s a).toNat) (k := 46) (by omega)
                have q3 := neT (n := (bt s a).toNat) (k := 45) (by omega)
                go_wp2
                go_ret
                refine ⟨congrArg (fun b => Ending.returned (.bool b)) ?_, rfl⟩
                rw [← HALL.out, HSP.out, HG2.out, ← HAL.out, HA.out, HBB.out]
                rfl
              · have q1 : (122 : Int) < ((bt s a).toNat : Int) := by omega
                have q2 := neT (n := (bt s a).toNat) (k := 46) (by omega)
                have q3 := neT (n := (bt s a).toNat) (k := 45) (by omega)
                go_wp2
                go_ret
                refine ⟨congrArg (fun b => Ending.returned (.bool b)) ?_, rfl⟩
                rw [← HALL.out, HSP.out, HG2.out, ← HAL.out, HA.out, HBB.out]
                rfl
          · have hlt1 : (s.size : Int) ≤ (a : Int) := by omega
            go_wp2
            go_roundg (ls.length - (j + 1))
            case measure => rw [HK.out]; omega
            case rel =>
              refine ⟨j + 1, hjn, rfl, by simp, ?_, rfl⟩
              rw [← HALL.out, HSP.out, HG2.out, ← HAL.out, sfx_end s a (by omega)]
              rfl
    · have hjn1 : (ls.length : Int) ≤ (j : Int) := by omega
      go_wp2
      go_ret
      refine ⟨congrArg (fun b => Ending.returned (.bool b)) ?_, rfl⟩
      rw [← HALL.out, List.drop_of_length_le (by omega)]
      rfl
end Go.Proofs.YtcinagglbkbmkaaDoor
namespace Go.Proofs.YtcinagglbkbmkaaDoor
set_option linter.unusedSimpArgs false
set_option linter.unusedVariables false
open Go Go.RowKit
open Go.Maps

/-! ### A map from names to numbers -/
namespace Fs
abbrev Names := List (List UInt8 × Int)
def mins (x : List UInt8 × Int) : Names → Names
  | [] => [x]
  | y :: r => if (Lit.string x.1).before (.string y.1) then x :: y :: r else y :: mins x r
def mdel (l : Names) (k : List UInt8) : Names := l.filter fun p => !(p.1 == k)
def mput (l : Names) (k : List UInt8) (v : Int) : Names := mins (k, v) (mdel l k)
def mhas (l : Names) (k : List UInt8) : Bool := l.any fun p => p.1 == k
def mget (l : Names) (k : List UInt8) : Int := match l.find? (fun p => p.1 == k) with | some p => p.2 | none => 0
def ent (p : List UInt8 × Int) : Lit × DataW Unit := (.string p.1, .lit (.int .i64 p.2))
def datum (l : Names) : DataW Unit := .map (l.map ent)

theorem ins_ent (x : List UInt8 × Int) : ∀ l : Names, DataW.insert (ent x) (l.map ent) = (mins x l).map ent
  | [] => rfl
  | y :: r => by
    rw [List.map_cons]
    unfold DataW.insert mins
    by_cases h : (Lit.string x.1).before (.string y.1) = true
    · rw [if_pos h, if_pos (by exact h)]; rfl
    · rw [if_neg h, if_neg (by exact h), List.map_cons, ins_ent x r]
theorem filter_ent (k : List UInt8) : ∀ l : Names, (l.map ent).filter (fun p => !p.1.sameKey (.string k)) = (mdel l k).map ent := by
  intro l
  unfold mdel
  rw [List.filter_map]
  rfl
theorem datum_del (l : Names) (k : List UInt8) : (datum l).del (.string k) = datum (mdel l k) := by
  unfold datum DataW.del
  simp only [filter_ent]
theorem datum_put (l : Names) (k : List UInt8) (v : Int) : (datum l).put (.string k) (.lit (.int .i64 v)) = datum (mput l k v) := by
  unfold datum DataW.put mput
  simp only [filter_ent]
  rw [show ((Lit.string k, DataW.lit (Lit.int .i64 v)) : Lit × DataW Unit) = ent (k, v) from rfl, ins_ent]
theorem datum_has (l : Names) (k : List UInt8) : Maps.has (datum l) (.string k) = mhas l k := by
  unfold datum mhas
  rw [Maps.has_eq, List.any_map]
  rfl
theorem datum_get (l : Names) (k : List UInt8) : (datum l).atKey (.string k) (.lit (.int .i64 0)) = .lit (.int .i64 (mget l k)) := by
  unfold datum DataW.atKey mget
  simp only [List.find?_map]
  have : ((fun p : Lit × DataW Unit => p.1.sameKey (.string k)) ∘ ent) = fun p => p.1 == k := rfl
  rw [this]
  cases l.find? (fun p => p.1 == k) <;> rfl
theorem datum_size (l : Names) : Maps.size (datum l) = l.length := by
  unfold datum
  rw [Maps.size_eq, List.length_map]
end Fs

theorem strKeyed : Keyed Tryd.prog 9 := string_keyed Tryd.underlying9
theorem zeroInt (w : World) : (zeroValue 3).run Tryd.prog w = .ok (.int .i64 0) w := by kernel_rfl
/-- A block that is a map of names. -/
def MapOf (w : World) (b : Nat) (l : Fs.Names) : Prop := w.ownsMap Tryd.prog 9 (plainElem Tryd.prog 3) b l.length (Fs.datum l)
theorem MapOf.of {w : World} {b n : Nat} {l : Fs.Names} (h : w.ownsMap Tryd.prog 9 (plainElem Tryd.prog 3) b n (Fs.datum l)) : MapOf w b l := by
  obtain ⟨es, clock, hb, F, hs, hD⟩ := h
  refine ⟨es, clock, hb, F, ?_, hD⟩
  have h1 := congrArg Maps.size hD
  rw [Fs.datum_size] at h1
  rw [h1]
  simp [Maps.size, length_sorted]
theorem MapOf.heap {w w' : World} {b : Nat} {l : Fs.Names} (h : MapOf w b l) (he : w'.heap[b]? = w.heap[b]?) : MapOf w' b l := by
  obtain ⟨es, clock, hb, r⟩ := h
  exact ⟨es, clock, by rw [he]; exact hb, r⟩
theorem MapOf.lt {w : World} {b : Nat} {l : Fs.Names} (h : MapOf w b l) : b < w.heap.size := World.ownsMap.lt h
theorem MapOf.nodup {w : World} {b : Nat} {l : Fs.Names} (h : MapOf w b l) : l.Pairwise (fun p q => p.1 ≠ q.1) := by
  obtain ⟨es, he, hp⟩ := World.ownsMap.tidy h strKeyed
  unfold Fs.datum at he
  simp only [DataW.map.injEq] at he
  subst he
  rw [List.pairwise_map] at hp
  exact hp.imp (fun {a b} h e => h (by simp [Fs.ent, e]))

/-! ### Tags -/
inductive Tag where
  | root | plan | files | file (i : Nat) | data (i : Nat) | dir | sure | chg | chgs | other
deriving DecidableEq

/-- w' is w but for blocks of these tags, and new ones. -/
structure Kept (own : Nat → Tag) (T : Tag → Prop) (w w' : World) : Prop where
  os : w'.os = w.os
  tape : w'.tape = w.tape
  output : w'.output = w.output
  size : w.heap.size ≤ w'.heap.size
  block : ∀ k, k < w.heap.size → ¬ T (own k) → w'.heap[k]? = w.heap[k]?
theorem Kept.refl (own : Nat → Tag) (T : Tag → Prop) (w : World) : Kept own T w w := ⟨rfl, rfl, rfl, Nat.le_refl _, fun _ _ _ => rfl⟩
theorem Kept.trans {own : Nat → Tag} {T : Tag → Prop} {a b c : World} (h : Kept own T a b) (k : Kept own T b c) : Kept own T a c :=
  ⟨k.os.trans h.os, k.tape.trans h.tape, k.output.trans h.output, Nat.le_trans h.size k.size, fun i hi ht => (k.block i (Nat.lt_of_lt_of_le hi h.size) ht).trans (h.block i hi ht)⟩
theorem Kept.mono {own : Nat → Tag} {T U : Tag → Prop} {w w' : World} (h : Kept own T w w') (hTU : ∀ t, T t → U t) : Kept own U w w' := ⟨h.os, h.tape, h.output, h.size, fun k hk hu => h.block k hk (fun ht => hu (hTU _ ht))⟩
theorem Kept.setCell {own : Nat → Tag} {T : Tag → Prop} {a w : World} (h : Kept own T a w) (p : Addr) (hp : T (own p.block)) (v : Value) : Kept own T a (w.setCell p v) :=
  ⟨h.os, h.tape, h.output, by simp [World.setCell]; exact h.size, fun k hk ht => by
    rw [Below.heap_setCell _ _ _ _ (fun e => ht (by rw [e]; exact hp))]; exact h.block k hk ht⟩
theorem Kept.alloc {own : Nat → Tag} {T : Tag → Prop} {a w : World} (h : Kept own T a w) (o : Obj) : Kept own T a (w.alloc o) :=
  ⟨h.os, h.tape, h.output, by have := h.size; simp; omega, fun k hk ht => by rw [Lib.alloc_old w o k (Nat.lt_of_lt_of_le hk h.size)]; exact h.block k hk ht⟩
theorem Kept.grown {own : Nat → Tag} {T : Tag → Prop} {a w w' : World} {r : Option Nat} (h : Kept own T a w) (hg : w.grownBy w' r) (hr : ∀ k, r = some k → T (own k) ∨ a.heap.size ≤ k) : Kept own T a w' :=
  ⟨hg.os.trans h.os, hg.tape.trans h.tape, hg.output.trans h.output, Nat.le_trans h.size hg.size, fun k hk ht => by
    rw [hg.block k (Nat.lt_of_lt_of_le hk h.size) (fun e => by rcases hr k e.symm with x | x <;> first | exact ht x | omega)]
    exact h.block k hk ht⟩
theorem Kept.below {own : Nat → Tag} {T : Tag → Prop} {a w w' : World} (h : Kept own T a w) (hb : Below w.heap.size w w') : Kept own T a w' :=
  ⟨hb.os.trans h.os, hb.tape.trans h.tape, hb.output.trans h.output, Nat.le_trans h.size hb.size, fun k hk ht => (hb.block k (Nat.lt_of_lt_of_le hk h.size)).trans (h.block k hk ht)⟩
theorem Kept.drewN {own : Nat → Tag} {T : Tag → Prop} {a w : World} (h : Kept own T a w) (n : Nat) : Kept own T a (w.drewN n) := ⟨h.os, h.tape, h.output, h.size, h.block⟩
/-- Another's tags, alike on what stood. -/
theorem Kept.tags {own own' : Nat → Tag} {T : Tag → Prop} {w w' : World} (h : Kept own T w w') (ho : ∀ k, k < w.heap.size → own' k = own k) : Kept own' T w w' :=
  ⟨h.os, h.tape, h.output, h.size, fun k hk ht => h.block k hk (by rw [← ho k hk]; exact ht)⟩

theorem Kept.tagsO {own own' : Nat → Tag} {T : Tag → Prop} {w w' : World} (h : Kept own T w w') (ho : ∀ k, k < w.heap.size → own k ≠ .other → own' k = own k) (hT : ¬ T .other) : Kept own' T w w' :=
  ⟨h.os, h.tape, h.output, h.size, fun k hk ht => by
    by_cases hx : own k = .other
    · exact h.block k hk (by rw [hx]; exact hT)
    · exact h.block k hk (by rw [← ho k hk hx]; exact ht)⟩
theorem heap_lt {w : World} {k : Nat} {o : Obj} (h : w.heap[k]? = some o) : k < w.heap.size := by
  rcases Nat.lt_or_ge k w.heap.size with h' | h'
  · exact h'
  · simp [Array.getElem?_eq_none h'] at h
theorem heap_set {w : World} {b k : Nat} {cs : Array Value} {t : TypeId} {fz : Nat × Nat} (h : w.heap[b]? = some (.cells cs t fz)) (v : Value) :
    (w.setCell ⟨b, k, none⟩ v).heap[b]? = some (.cells (cs.setIfInBounds k v) t fz) := by
  simp [World.setCell, Array.getElem?_modify, h]

/-- A row's block stands: the row stands. -/
theorem row_kept {w w' : World} {base : Nat} {t : TypeId} {k n : Nat} {v : Value} {cs : List Value} (h : w.ownsRow base t k v n cs) (he : ∀ g, v.ownBlock = some g → w'.heap[g]? = w.heap[g]?) : w'.ownsRow base t k v n cs := by
  refine ⟨h.1, ?_⟩
  rcases h.2 with h2 | ⟨g, cap, cur, hv, hg, hc, h3⟩
  · exact .inl h2
  · refine .inr ⟨g, cap, cur, hv, hg, ?_, h3⟩
    rw [he g (by rw [hv]; rfl)]
    exact hc
theorem row_block_lt {w : World} {base : Nat} {t : TypeId} {k n : Nat} {v : Value} {cs : List Value} (h : w.ownsRow base t k v n cs) (g : Nat) (hg : v.ownBlock = some g) : base ≤ g ∧ g < w.heap.size := World.ownsRow.lt h g hg
end Go.Proofs.YtcinagglbkbmkaaDoor
