/-
  The lexer's 'token': its world.
-/
import Derived.Test.YtonblegbnkfhbaaDoorLxst
namespace Go.Proofs.YtonblegbnkfhbaaDoor
set_option linter.unusedSimpArgs false
set_option linter.unusedVariables false
open Go Go.RowKit

/-- A block that holds one token. -/
def Tk (w : World) (k : Nat) (K : Int) (T : ByteArray) (A : Int) : Prop := w.heap[k]? = some (.cells #[.int .i64 K, .string T, .int .i64 A] 28 (0, 0))
theorem Tk.c0 {w : World} {k : Nat} {K A : Int} {T : ByteArray} (h : Tk w k K T A) : w.cell? ⟨k, 0, none⟩ = some (.int .i64 K) := by unfold Tk at h; simp [World.cell?, h]
theorem Tk.c1 {w : World} {k : Nat} {K A : Int} {T : ByteArray} (h : Tk w k K T A) : w.cell? ⟨k, 1, none⟩ = some (.string T) := by unfold Tk at h; simp [World.cell?, h]
theorem Tk.c2 {w : World} {k : Nat} {K A : Int} {T : ByteArray} (h : Tk w k K T A) : w.cell? ⟨k, 2, none⟩ = some (.int .i64 A) := by unfold Tk at h; simp [World.cell?, h]
theorem Tk.fz {w : World} {k : Nat} {K A : Int} {T : ByteArray} (h : Tk w k K T A) (i : Nat) : w.frozen? ⟨k, i, none⟩ = false := by unfold Tk at h; simp [World.frozen?, h]
theorem Tk.lt {w : World} {k : Nat} {K A : Int} {T : ByteArray} (h : Tk w k K T A) : k < w.heap.size := heap_lt h
theorem Tk.set0 {w : World} {k : Nat} {K A : Int} {T : ByteArray} (h : Tk w k K T A) (K' : Int) : Tk (w.setCell ⟨k, 0, none⟩ (.int .i64 K')) k K' T A := by
  unfold Tk at *; simp [World.setCell, Array.getElem?_modify, h]
theorem Tk.set1 {w : World} {k : Nat} {K A : Int} {T : ByteArray} (h : Tk w k K T A) (T' : ByteArray) : Tk (w.setCell ⟨k, 1, none⟩ (.string T')) k K T' A := by
  unfold Tk at *; simp [World.setCell, Array.getElem?_modify, h]
theorem Tk.set_other {w : World} {k : Nat} {K A : Int} {T : ByteArray} (h : Tk w k K T A) (p : Addr) (v : Value) (hp : p.block ≠ k) : Tk (w.setCell p v) k K T A := by
  unfold Tk at *; rw [Below.heap_setCell _ _ _ _ (Ne.symm hp)]; exact h

structure TS (w0 : World) (bx : Nat) (s : ByteArray) (b : Nat) (K : Int) (T : ByteArray) (A : Int) (w : World) : Prop where
  scan : Scan w bx s b
  fr : Fr bx w0 w
  env : Env w
  res : Tk w w0.heap.size 0 ⟨#[]⟩ 0
  tok : Tk w (w0.heap.size + 1) K T A
  lo : bx < w0.heap.size
  three : 3 ≤ bx

section
variable {w0 : World} {bx : Nat} {s : ByteArray} {b : Nat} {K : Int} {T : ByteArray} {A : Int} {w : World}
theorem TS.drewN (h : TS w0 bx s b K T A w) (n : Nat) : TS w0 bx s b K T A (w.drewN n) := ⟨h.scan.drewN n, h.fr.drewN n, h.env.drewN n, h.res, h.tok, h.lo, h.three⟩
theorem TS.call {b' : Nat} {w' : World} (h : TS w0 bx s b K T A w) (hs : Scan w' bx s b') (hf : Fr bx w w') : TS w0 bx s b' K T A w' := by
  have l := h.lo
  refine ⟨hs, h.fr.trans hf, h.env.fr hf h.three, ?_, ?_, h.lo, h.three⟩
  · have := h.res; have hl := Tk.lt this; unfold Tk at *; rw [hf.block _ hl (by omega)]; exact this
  · have := h.tok; have hl := Tk.lt this; unfold Tk at *; rw [hf.block _ hl (by omega)]; exact this
theorem TS.below {w' : World} (h : TS w0 bx s b K T A w) (hb : Below w.heap.size w w') : TS w0 bx s b K T A w' := h.call (h.scan.below hb) (But.of_below hb)
theorem TS.kind (h : TS w0 bx s b K T A w) (K' : Int) : TS w0 bx s b K' T A (w.setCell ⟨w0.heap.size + 1, 0, none⟩ (.int .i64 K')) := by
  have l := h.lo
  have hb : But (fun k => k = w0.heap.size + 1) w (w.setCell ⟨w0.heap.size + 1, 0, none⟩ (.int .i64 K')) := But.setCell (X := fun k => k = w0.heap.size + 1) (But.refl _ _) (.inl rfl) _
  refine ⟨h.scan.but hb (by omega), ⟨hb.os.trans h.fr.os, hb.tape.trans h.fr.tape, hb.output.trans h.fr.output, Nat.le_trans h.fr.size hb.size, fun k hk hx => ?_⟩, h.env.but hb (fun k hk => by have := h.three; omega), h.res.set_other _ _ (by simp), h.tok.set0 K', h.lo, h.three⟩
  rw [hb.block k (Nat.lt_of_lt_of_le hk h.fr.size) (by omega)]; exact h.fr.block k hk hx
theorem TS.text (h : TS w0 bx s b K T A w) (T' : ByteArray) : TS w0 bx s b K T' A (w.setCell ⟨w0.heap.size + 1, 1, none⟩ (.string T')) := by
  have l := h.lo
  have hb : But (fun k => k = w0.heap.size + 1) w (w.setCell ⟨w0.heap.size + 1, 1, none⟩ (.string T')) := But.setCell (X := fun k => k = w0.heap.size + 1) (But.refl _ _) (.inl rfl) _
  refine ⟨h.scan.but hb (by omega), ⟨hb.os.trans h.fr.os, hb.tape.trans h.fr.tape, hb.output.trans h.fr.output, Nat.le_trans h.fr.size hb.size, fun k hk hx => ?_⟩, h.env.but hb (fun k hk => by have := h.three; omega), h.res.set_other _ _ (by simp), h.tok.set1 T', h.lo, h.three⟩
  rw [hb.block k (Nat.lt_of_lt_of_le hk h.fr.size) (by omega)]; exact h.fr.block k hk hx
theorem TS.put (h : TS w0 bx s b K T A w) (n : Nat) : TS w0 bx s n K T A (w.setCell ⟨bx, 1, none⟩ (.int .i64 n)) := h.call (h.scan.put n) (Fr.set (But.refl _ _) 1 _)
end
theorem TS.done {w0 : World} {bx : Nat} {s : ByteArray} {b : Nat} {K : Int} {T : ByteArray} {A : Int} {w : World} (h : TS w0 bx s b K T A w) (k : Int) (t : ByteArray) (x : Int) :
    ∃ W, W = ((w.setCell ⟨w0.heap.size, 0, none⟩ (.int .i64 k)).setCell ⟨w0.heap.size, 1, none⟩ (.string t)).setCell ⟨w0.heap.size, 2, none⟩ (.int .i64 x) ∧
      Tk W w0.heap.size k t x ∧ Scan W bx s b ∧ Fr bx w0 W ∧ Env W := by
  refine ⟨_, rfl, ?_⟩
  have l := h.lo
  have hb : But (fun k => k = w0.heap.size) w (((w.setCell ⟨w0.heap.size, 0, none⟩ (.int .i64 k)).setCell ⟨w0.heap.size, 1, none⟩ (.string t)).setCell ⟨w0.heap.size, 2, none⟩ (.int .i64 x)) :=
    But.setCell (X := fun k => k = w0.heap.size) (But.setCell (X := fun k => k = w0.heap.size) (But.setCell (X := fun k => k = w0.heap.size) (But.refl _ _) (.inl rfl) _) (.inl rfl) _) (.inl rfl) _
  refine ⟨?_, h.scan.but hb (by omega), ⟨hb.os.trans h.fr.os, hb.tape.trans h.fr.tape, hb.output.trans h.fr.output, Nat.le_trans h.fr.size hb.size, fun k hk hx => ?_⟩, h.env.but hb (fun k hk => by have := h.three; omega)⟩
  · have hr := h.res
    unfold Tk at *
    simp [World.setCell, Array.getElem?_modify, hr]
  · rw [hb.block k (Nat.lt_of_lt_of_le hk h.fr.size) (by omega)]; exact h.fr.block k hk hx
theorem TS.start {w : World} {bx : Nat} {s : ByteArray} {b : Nat} (hs : Scan w bx s b) (he : Env w) (h3 : 3 ≤ bx) (A : Int) :
    TS w bx s b 0 ⟨#[]⟩ A ((w.alloc (.cells #[.int .i64 0, .string ⟨#[]⟩, .int .i64 0] 28)).alloc (.cells #[.int .i64 0, .string ⟨#[]⟩, .int .i64 A] 28)) := by
  have hb : Below w.heap.size w ((w.alloc (.cells #[.int .i64 0, .string ⟨#[]⟩, .int .i64 0] 28)).alloc (.cells #[.int .i64 0, .string ⟨#[]⟩, .int .i64 A] 28)) := ((Below.refl _ _).alloc (Nat.le_refl _) _).alloc (by simp) _
  refine ⟨hs.below hb, But.of_below hb, he.below hb, ?_, ?_, hs.lt, h3⟩
  · show ((w.heap.push _).push _)[w.heap.size]? = _
    rw [Array.getElem?_push, if_neg (by simp)]
    simp
  · show ((w.heap.push _).push _)[w.heap.size + 1]? = _
    rw [Array.getElem?_push, if_pos (by simp)]
end Go.Proofs.YtonblegbnkfhbaaDoor
