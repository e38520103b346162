/-
  What the world holds while the lexer runs: the library's tables; the scanner's block.
-/
import Derived.Test.YtonblegbnkfhbaaDoorBase
import Derived.Test.YtonblegbnkfhbaaDoorLxr
import Derived.Test.YtonblegbnkfhbaaDoorShelf
namespace Go.Proofs.YtonblegbnkfhbaaDoor
set_option linter.unusedSimpArgs false
set_option linter.unusedVariables false
open Go Go.RowKit

/-- The library's variables hold what their initialisers lay. -/
def Env (w : World) : Prop :=
  Lib.Utf8Tabs 0 1 w ∧ ∃ m, w.cell? ⟨2, 0, none⟩ = some (.int .i64 m)

theorem cell_lt {w : World} {a : Addr} {v : Value} (h : w.cell? a = some v) : a.block < w.heap.size := by
  unfold World.cell? at h
  rcases Nat.lt_or_ge a.block w.heap.size with h' | h'
  · exact h'
  · simp [Array.getElem?_eq_none h'] at h

theorem Env.but {X : Nat → Prop} {w w' : World} (h : Env w) (hb : But X w w') (hx : ∀ k, X k → 3 ≤ k) : Env w' := by
  obtain ⟨⟨h1, h2⟩, m, h3⟩ := h
  refine ⟨⟨fun c hc => ?_, fun i hi => ⟨?_, ?_⟩⟩, m, ?_⟩
  · rw [hb.cell (cell_lt (h1 c hc)) (fun x => by have := hx _ x; simp at this)]; exact h1 c hc
  · rw [hb.cell (cell_lt (h2 i hi).1) (fun x => by have := hx _ x; simp at this)]; exact (h2 i hi).1
  · rw [hb.cell (cell_lt (h2 i hi).2) (fun x => by have := hx _ x; simp at this)]; exact (h2 i hi).2
  · rw [hb.cell (cell_lt h3) (fun x => by have := hx _ x; simp at this)]; exact h3

theorem Env.below {w w' : World} (h : Env w) (hb : Below w.heap.size w w') : Env w' := h.but (X := fun _ => False) (But.of_below hb) (fun _ f => f.elim)
theorem Env.drewN {w : World} (h : Env w) (n : Nat) : Env (w.drewN n) := h.but (X := fun _ => False) ((But.refl _ w).drewN n) (fun _ f => f.elim)

/-- The scanner's block: the text, the place. -/
def Scan (w : World) (bx : Nat) (s : ByteArray) (a : Nat) : Prop := w.heap[bx]? = some (.cells #[.string s, .int .i64 a] 43 (0, 0))

theorem Scan.c0 {w : World} {bx : Nat} {s : ByteArray} {a : Nat} (h : Scan w bx s a) : w.cell? ⟨bx, 0, none⟩ = some (.string s) := by
  unfold Scan at h; simp [World.cell?, h]
theorem Scan.c1 {w : World} {bx : Nat} {s : ByteArray} {a : Nat} (h : Scan w bx s a) : w.cell? ⟨bx, 1, none⟩ = some (.int .i64 a) := by
  unfold Scan at h; simp [World.cell?, h]
theorem Scan.f1 {w : World} {bx : Nat} {s : ByteArray} {a : Nat} (h : Scan w bx s a) : w.frozen? ⟨bx, 1, none⟩ = false := by
  unfold Scan at h; simp [World.frozen?, h]
theorem Scan.lt {w : World} {bx : Nat} {s : ByteArray} {a : Nat} (h : Scan w bx s a) : bx < w.heap.size := cell_lt h.c0
theorem Scan.put {w : World} {bx : Nat} {s : ByteArray} {a : Nat} (h : Scan w bx s a) (b : Nat) : Scan (w.setCell ⟨bx, 1, none⟩ (.int .i64 b)) bx s b := by
  unfold Scan at *; simp [World.setCell, Array.getElem?_modify, h]
theorem Scan.drewN {w : World} {bx : Nat} {s : ByteArray} {a : Nat} (h : Scan w bx s a) (n : Nat) : Scan (w.drewN n) bx s a := h
theorem Scan.drew {w : World} {bx : Nat} {s : ByteArray} {a : Nat} (h : Scan w bx s a) : Scan w.drew bx s a := h
theorem Scan.but {X : Nat → Prop} {w w' : World} {bx : Nat} {s : ByteArray} {a : Nat} (h : Scan w bx s a) (hb : But X w w') (hx : ¬ X bx) : Scan w' bx s a := by
  unfold Scan at *; rw [hb.block bx (Scan.lt h) hx]; exact h
theorem Scan.below {w w' : World} {bx : Nat} {s : ByteArray} {a : Nat} (h : Scan w bx s a) (hb : Below w.heap.size w w') : Scan w' bx s a := by
  have h' := h; unfold Scan at *; rw [hb.block bx (Scan.lt h')]; exact h

/-- The frame of a scanner's method. -/
abbrev Fr (bx : Nat) (w w' : World) : Prop := But (fun k => k = bx) w w'
theorem Fr.set {bx : Nat} {w w' : World} (h : Fr bx w w') (o : Nat) (v : Value) : Fr bx w (w'.setCell ⟨bx, o, none⟩ v) := But.setCell h (.inl rfl) v
theorem Env.fr {w w' : World} {bx : Nat} (h : Env w) (hb : Fr bx w w') (h3 : 3 ≤ bx) : Env w' := h.but hb (fun k hk => by rw [hk]; exact h3)

end Go.Proofs.YtonblegbnkfhbaaDoor
