/-
  Base words of our own: bytes of a string, endings, the frame of a call that writes one old block alone.
-/
import Derived.Test.YtcimobbppmpmgaaDoorProg
import Derived.WalkKit
import Derived.WalkLawsBesides
import Derived.WalkSpells
import Derived.BigQuiet
import Derived.Deep.QuietTactic
import Derived.StillTailTactics
import Derived.Lib.Hide
namespace Go.Proofs.YtcimobbppmpmgaaDoor
set_option linter.unusedSimpArgs false
set_option linter.unusedVariables false
open Go Go.RowKit

theorem ret_bool {a b : Bool} (h : a = b) : Ending.returned (.bool a) = .returned (.bool b) := by rw [h]
theorem ret_int {k : IntKind} {a b : Int} (h : a = b) : Ending.returned (.int k a) = .returned (.int k b) := by rw [h]

/-- The byte at a place; 0 behind the end. -/
def bt (s : ByteArray) (n : Nat) : UInt8 := s.data.toList.getD n 0
/-- What stands from a place on. -/
def sfx (s : ByteArray) (n : Nat) : List UInt8 := s.data.toList.drop n

theorem bt_lt (s : ByteArray) (n : Nat) : (bt s n).toNat < 256 := UInt8.toNat_lt _

theorem getElem_bt (s : ByteArray) (n : Nat) (h : n < s.size) : s[n]'h = bt s n := by
  have h' : n < s.data.toList.length := by simpa using h
  show s.data[n]'h = _
  unfold bt
  rw [List.getD_eq_getElem?_getD, List.getElem?_eq_getElem h']
  simp

theorem sfx_len (s : ByteArray) (n : Nat) : (sfx s n).length = s.size - n := by unfold sfx; simp
theorem sfx_all (s : ByteArray) : sfx s 0 = s.data.toList := by simp [sfx]
theorem sfx_end (s : ByteArray) (n : Nat) (h : s.size ≤ n) : sfx s n = [] := by
  have := sfx_len s n; exact List.eq_nil_of_length_eq_zero (by omega)
theorem sfx_cons (s : ByteArray) (n : Nat) (h : n < s.size) : sfx s n = bt s n :: sfx s (n + 1) := by
  unfold sfx bt
  have h' : n < s.data.toList.length := by simpa using h
  rw [List.drop_eq_getElem_cons h', List.getD_eq_getElem?_getD, List.getElem?_eq_getElem h']
  simp
theorem sfx_drop (s : ByteArray) (n k : Nat) : (sfx s n).drop k = sfx s (n + k) := by simp [sfx, List.drop_drop]
theorem bt_end (s : ByteArray) (n : Nat) (h : s.size ≤ n) : bt s n = 0 := by
  unfold bt; rw [List.getD_eq_getElem?_getD, List.getElem?_eq_none (by simpa using h)]; rfl
theorem sfx_getD (s : ByteArray) (n k : Nat) : (sfx s n).getD k 0 = bt s (n + k) := by
  unfold sfx bt; simp [List.getD_eq_getElem?_getD, List.getElem?_drop]

@[go_sem high] theorem run_index_bt {P : Program} (w : World) (t : TypeId) (s : ByteArray) (k : IntKind) (i : Int) (h : P.underlying t = some .string) :
    (Instr.index t (.string s) (.int k i)).run P w = if 0 ≤ i ∧ i < s.size then .ok (.int .u8 (bt s i.toNat).toNat) w else (boundsPanic k i s.size .index).run P w := by
  rw [run_index_string w t s k i h]
  by_cases hi : 0 ≤ i ∧ i < s.size
  · rw [dif_pos hi, if_pos hi, getElem_bt]
  · rw [dif_neg hi, if_neg hi]

/-- w' is w, but for the blocks that X names, and for new ones. -/
structure But (X : Nat → Prop) (w w' : World) : Prop where
  os : w'.os = w.os
  tape : w'.tape = w.tape
  output : w'.output = w.output
  size : w.heap.size ≤ w'.heap.size
  block : ∀ k, k < w.heap.size → ¬ X k → w'.heap[k]? = w.heap[k]?

theorem But.refl (X : Nat → Prop) (w : World) : But X w w := ⟨rfl, rfl, rfl, Nat.le_refl _, fun _ _ _ => rfl⟩
theorem But.trans {X : Nat → Prop} {a b c : World} (h : But X a b) (k : But X b c) : But X a c :=
  ⟨k.os.trans h.os, k.tape.trans h.tape, k.output.trans h.output, Nat.le_trans h.size k.size,
   fun i hi hx => (k.block i (Nat.lt_of_lt_of_le hi h.size) hx).trans (h.block i hi hx)⟩
theorem But.mono {X Y : Nat → Prop} {w w' : World} (h : But X w w') (hxy : ∀ k, k < w.heap.size → X k → Y k) : But Y w w' :=
  ⟨h.os, h.tape, h.output, h.size, fun k hk hy => h.block k hk (fun hx => hy (hxy k hk hx))⟩
theorem But.drewN {X : Nat → Prop} {a w : World} (h : But X a w) (n : Nat) : But X a (w.drewN n) :=
  h.trans ⟨rfl, rfl, rfl, Nat.le_refl _, fun _ _ _ => rfl⟩
theorem But.drew {X : Nat → Prop} {a w : World} (h : But X a w) : But X a w.drew :=
  h.trans ⟨rfl, rfl, rfl, Nat.le_refl _, fun _ _ _ => rfl⟩
theorem But.alloc {X : Nat → Prop} {a w : World} (h : But X a w) (o : Obj) : But X a (w.alloc o) :=
  h.trans ⟨rfl, rfl, rfl, by simp, fun k hk _ => Below.heap_alloc _ _ _ hk⟩
theorem But.setCell {X : Nat → Prop} {a w : World} (h : But X a w) {p : Addr} (hp : X p.block ∨ a.heap.size ≤ p.block) (u : Value) : But X a (w.setCell p u) :=
  ⟨h.os, h.tape, h.output, by have := h.size; simpa [World.setCell] using this,
   fun k hk hx => by rw [Below.heap_setCell _ _ _ _ (fun e => by subst e; rcases hp with hp | hp; exact hx hp; omega)]; exact h.block k hk hx⟩
theorem But.of_below {X : Nat → Prop} {w w' : World} (h : Below w.heap.size w w') : But X w w' :=
  ⟨h.os, h.tape, h.output, h.size, fun k hk _ => h.block k hk⟩
theorem But.below {w w' : World} (h : But (fun _ => False) w w') : Below w.heap.size w w' :=
  ⟨h.os, h.tape, h.output, h.size, fun k hk => h.block k hk (fun hf => hf)⟩
theorem But.cell {X : Nat → Prop} {w w' : World} (h : But X w w') {p : Addr} (hp : p.block < w.heap.size) (hx : ¬ X p.block) : w'.cell? p = w.cell? p :=
  World.cell?_of_block (w := w) (h.block p.block hp hx)
theorem But.frozen {X : Nat → Prop} {w w' : World} (h : But X w w') {p : Addr} (hp : p.block < w.heap.size) (hx : ¬ X p.block) : w'.frozen? p = w.frozen? p :=
  World.frozen?_of_block (w := w) (h.block p.block hp hx)

theorem drewN_size (w : World) (n : Nat) : (w.drewN n).heap.size = w.heap.size := rfl
theorem Below.drewN {B : Nat} {a w : World} (h : Below B a w) (n : Nat) : Below B a (w.drewN n) := h.trans ⟨rfl, rfl, rfl, Nat.le_refl _, fun _ _ => rfl⟩
theorem Below.undrew {w w' : World} {n : Nat} (h : Below (w.drewN n).heap.size (w.drewN n) w') : Below w.heap.size w w' := ⟨h.os, h.tape, h.output, h.size, h.block⟩
theorem But.undrew {X : Nat → Prop} {w w' : World} {n : Nat} (h : But X (w.drewN n) w') : But X w w' := ⟨h.os, h.tape, h.output, h.size, h.block⟩

theorem eqF {n : Nat} {k : Int} (h : (n : Int) ≠ k) : ((n : Int) == k) = false := by rw [beq_eq_false_iff_ne]; exact h
theorem eqT {n : Nat} {k : Int} (h : (n : Int) = k) : ((n : Int) == k) = true := by rw [beq_iff_eq]; exact h
theorem neF {n : Nat} {k : Int} (h : (n : Int) = k) : ((n : Int) != k) = false := by simp [h]
theorem neT {n : Nat} {k : Int} (h : (n : Int) ≠ k) : ((n : Int) != k) = true := by simp [h]
theorem ltF {a b : Int} (h : b ≤ a) : decide (a < b) = false := by simp; omega
theorem ltT {a b : Int} (h : a < b) : decide (a < b) = true := by simp; omega

end Go.Proofs.YtcimobbppmpmgaaDoor
