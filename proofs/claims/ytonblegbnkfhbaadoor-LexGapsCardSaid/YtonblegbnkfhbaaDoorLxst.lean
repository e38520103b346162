/-
  A scanner's method that builds a text: what its world is like.
-/
import Derived.Test.YtonblegbnkfhbaaDoorLxEnv
import Derived.Test.YtonblegbnkfhbaaDoorSb
namespace Go.Proofs.YtonblegbnkfhbaaDoor
set_option linter.unusedSimpArgs false
set_option linter.unusedVariables false
open Go Go.RowKit

theorem heap_lt {w : World} {k : Nat} {o : Obj} (h : w.heap[k]? = some o) : k < w.heap.size := by
  rcases Nat.lt_or_ge k w.heap.size with h' | h'
  · exact h'
  · simp [Array.getElem?_eq_none h'] at h

/-- A builder stays one where its own blocks stand. -/
theorem isB_keep {T e : TypeId} {B b : Nat} {bs : List Value} {w w' : World} (h : Lib.IsBuilderF T e B b bs w) (hk : ∀ k, B ≤ k → k < w.heap.size → w'.heap[k]? = w.heap[k]?) : Lib.IsBuilderF T e B b bs w' := by
  have one : ∀ p, Lib.BuilderAtF T e B b p bs w → Lib.BuilderAtF T e B b p bs w' := by
    rintro p ⟨hB, v, hb, ⟨hl, ho⟩, hne⟩
    refine ⟨hB, v, by rw [hk b hB (heap_lt hb)]; exact hb, ⟨hl, ?_⟩, hne⟩
    rcases ho with ho | ⟨g, cap, cur, fz, h1, h2, h3, h4⟩
    · exact .inl ho
    · exact .inr ⟨g, cap, cur, fz, h1, h2, by rw [hk g h2 (heap_lt h3)]; exact h3, h4⟩
  exact h.imp (one _) (one _)

structure St (w0 : World) (bx bo : Nat) (s : ByteArray) (b : Nat) (out : List UInt8) (w : World) : Prop where
  scan : Scan w bx s b
  bld : IsB bo out w
  fr : Fr bx w0 w
  env : Env w
  lo : bx < bo
  hi : bo = w0.heap.size
  three : 3 ≤ bx

theorem St.le {w0 : World} {bx bo : Nat} {s : ByteArray} {b : Nat} {out : List UInt8} {w : World} (h : St w0 bx bo s b out w) : bo ≤ w.heap.size := by
  have := h.fr.size; rw [h.hi]; exact this
theorem St.drewN {w0 : World} {bx bo : Nat} {s : ByteArray} {b : Nat} {out : List UInt8} {w : World} (h : St w0 bx bo s b out w) (n : Nat) : St w0 bx bo s b out (w.drewN n) :=
  ⟨h.scan.drewN n, isB_keep h.bld (fun _ _ _ => rfl), h.fr.drewN n, h.env.drewN n, h.lo, h.hi, h.three⟩
theorem St.put {w0 : World} {bx bo : Nat} {s : ByteArray} {b : Nat} {out : List UInt8} {w : World} (h : St w0 bx bo s b out w) (n : Nat) : St w0 bx bo s n out (w.setCell ⟨bx, 1, none⟩ (.int .i64 n)) :=
  ⟨h.scan.put n, isB_keep h.bld (fun k hk _ => by have := h.lo; exact Below.heap_setCell _ _ _ _ (fun e => by simp at e; omega)), h.fr.set 1 _, h.env.fr (Fr.set (But.refl _ _) 1 _) h.three, h.lo, h.hi, h.three⟩
theorem St.below {w0 : World} {bx bo : Nat} {s : ByteArray} {b : Nat} {out : List UInt8} {w w' : World} (h : St w0 bx bo s b out w) (hb : Below w.heap.size w w') : St w0 bx bo s b out w' :=
  ⟨h.scan.below hb, isB_keep h.bld (fun k _ hk => hb.block k hk), h.fr.trans (But.of_below hb), h.env.below hb, h.lo, h.hi, h.three⟩
theorem St.wrote {w0 : World} {bx bo : Nat} {s : ByteArray} {b : Nat} {out out' : List UInt8} {w w' : World} (h : St w0 bx bo s b out w) (hB : IsB bo out' w') (hb : Below bo w w') : St w0 bx bo s b out' w' := by
  have hf : Fr bx w0 w' := ⟨hb.os.trans h.fr.os, hb.tape.trans h.fr.tape, hb.output.trans h.fr.output, Nat.le_trans h.fr.size hb.size,
    fun k hk hx => (hb.block k (by rw [h.hi]; exact hk)).trans (h.fr.block k hk hx)⟩
  have hs : Scan w' bx s b := by have := h.scan; unfold Scan at *; rw [hb.block bx h.lo]; exact this
  have he : Env w' := by
    have e := h.env
    have l1 := h.lo; have l2 := h.three
    obtain ⟨⟨h1, h2⟩, m, h3⟩ := e
    exact ⟨⟨fun c hc => by rw [hb.cell (by simp; omega)]; exact h1 c hc, fun i hi => ⟨by rw [hb.cell (by simp; omega)]; exact (h2 i hi).1, by rw [hb.cell (by simp; omega)]; exact (h2 i hi).2⟩⟩, m, by rw [hb.cell (by simp; omega)]; exact h3⟩
  exact ⟨hs, hB, hf, he, h.lo, h.hi, h.three⟩

theorem St.start {w0 w : World} {bx : Nat} {s : ByteArray} {b : Nat} (hS : Scan w bx s b) (hF : Fr bx w0 w) (hE : Env w) (hsz : w.heap.size = w0.heap.size) (h3 : 3 ≤ bx) :
    St w0 bx w.heap.size s b [] (w.alloc (.cells #[.pointer none, .slice none 0 0] 49)) := by
  have hlt := hS.lt
  refine ⟨hS.below ((Below.refl _ _).alloc (Nat.le_refl _) _), .inl ⟨Nat.le_refl _, .slice none 0 0, ?_, ⟨rfl, .inl ⟨rfl, rfl⟩⟩, by simp [Value.ownBlock]⟩, hF.alloc _, hE.below ((Below.refl _ _).alloc (Nat.le_refl _) _), hlt, hsz, h3⟩
  show (w.heap.push _)[w.heap.size]? = _
  simp

/-- The writers, in one word. -/
theorem St.rune {w0 : World} {bx bo : Nat} {s : ByteArray} {b : Nat} {out : List UInt8} {w : World} (h : St w0 bx bo s b out w) (hl : out.length ≤ 5000) (r : Nat) (hr : r < 55296 ∨ (57343 < r ∧ r ≤ 1114111)) :
    Calls Tryd.prog 43 #[.pointer (some ⟨bo, 0, none⟩), .int .i32 r] w fun e w' => (∃ n : Int, e = .returned (.tuple #[.int .i64 n, .nilIface])) ∧ St w0 bx bo s b (out ++ Lx.enc r) w' := by
  refine (WriteRune_k bo bo _ r (by omega) (by omega) w h.bld (by rw [Lib.byteCells_length]; omega) h.le).mono ?_
  rintro e w' ⟨rfl, h1, h2, _⟩
  refine ⟨⟨_, rfl⟩, h.wrote (.inr ?_) h2⟩
  rw [← Lx.enc_lib r hr, Lib.byteCells_append, Lib.byteCells_encodeRune]
  exact h1
theorem St.byte {w0 : World} {bx bo : Nat} {s : ByteArray} {b : Nat} {out : List UInt8} {w : World} (h : St w0 bx bo s b out w) (hl : out.length ≤ 5000) (c : UInt8) :
    Calls Tryd.prog 23 #[.pointer (some ⟨bo, 0, none⟩), .int .u8 c.toNat] w fun e w' => e = .returned .nilIface ∧ St w0 bx bo s b (out ++ [c]) w' := by
  refine (WriteByte_k bo bo _ c.toNat w h.bld (by rw [Lib.byteCells_length]; omega) h.le).mono ?_
  rintro e w' ⟨rfl, h1, h2, _⟩
  refine ⟨rfl, h.wrote (.inr ?_) h2⟩
  rw [Lib.byteCells_append]
  exact h1
theorem St.str {w0 : World} {bx bo : Nat} {s : ByteArray} {b : Nat} {out : List UInt8} {w : World} (h : St w0 bx bo s b out w) (hl : out.length ≤ 5000) (l : List UInt8) (hl2 : l.length ≤ 5000) :
    Calls Tryd.prog 25 #[.pointer (some ⟨bo, 0, none⟩), .string ⟨l.toArray⟩] w fun e w' => (∃ n : Int, e = .returned (.tuple #[.int .i64 n, .nilIface])) ∧ St w0 bx bo s b (out ++ l) w' := by
  refine (WriteString_k bo bo _ ⟨l.toArray⟩ w h.bld (by rw [Lib.byteCells_length]; show _ + l.length ≤ _; omega) h.le).mono ?_
  rintro e w' ⟨rfl, h1, h2, _⟩
  refine ⟨⟨_, rfl⟩, h.wrote (.inr ?_) h2⟩
  rw [Lib.byteCells_append]
  exact h1
theorem St.string {w0 : World} {bx bo : Nat} {s : ByteArray} {b : Nat} {out : List UInt8} {w : World} (h : St w0 bx bo s b out w) :
    Calls Tryd.prog 26 #[.pointer (some ⟨bo, 0, none⟩)] w fun e w' => e = .returned (.string ⟨out.toArray⟩) ∧ St w0 bx bo s b out w' := by
  refine (Tryd.Builder_String_any_k bo bo out w h.bld h.le).mono ?_
  rintro e w' ⟨rfl, h1, h2, _⟩
  exact ⟨rfl, h.wrote h1 h2⟩

end Go.Proofs.YtonblegbnkfhbaaDoor
