/-
  A word's place among words; a part of code; the frame of a call behind new blocks. Types as data: what their cells hold.
-/
import Derived.Test.YtabcaljnpahgpaaGreatDoorK15
import Derived.Test.YtabcaljnpahgpaaGreatDoorShelf
import Derived.Lib.SlicesS
namespace Go.Proofs.YtabcaljnpahgpaaGreatDoor
set_option linter.unusedSimpArgs false
set_option linter.unusedVariables false
open Go Go.RowKit

theorem idx_from (t : List UInt8) : ∀ (l : List (List UInt8)) (i : Nat), Lib.idxFromS (l.map fun s => (⟨s.toArray⟩ : ByteArray)) ⟨t.toArray⟩ i = match l.findIdx? (fun w => decide (w = t)) with
    | some k => ((i + k : Nat) : Int)
    | none => -1
  | [], i => rfl
  | x :: l, i => by
    rw [List.map_cons, List.findIdx?_cons]
    unfold Lib.idxFromS
    by_cases h : x = t
    · subst h
      simp
    · have h2 : ¬ (⟨x.toArray⟩ : ByteArray) = ⟨t.toArray⟩ := fun e => h (by
        have := congrArg (fun y : ByteArray => y.data.toList) e
        simpa using this)
      rw [idx_from t l (i + 1)]
      simp only [h, decide_false, Bool.false_eq_true, if_false, h2]
      cases l.findIdx? (fun w => decide (w = t)) with
      | none => simp [h2]
      | some k => simp [h2, Int.add_assoc, Int.add_comm 1]
def sndC : Code → Code
  | .seq _ c => c
  | c => c
theorem below_fr {n b : Nat} {w w2 wr : World} (h : Below n w w2) (hw : n ≤ w.heap.size) (hf : Fr b w2 wr) (hb : n ≤ b) : Below n w wr :=
  ⟨hf.os.trans h.os, hf.tape.trans h.tape, hf.output.trans h.output, Nat.le_trans h.size hf.size, fun k hk => by rw [hf.block k (by have := h.size; omega) (by omega)]; exact h.block k hk⟩
end Go.Proofs.YtabcaljnpahgpaaGreatDoor
namespace Go.Proofs.YtabcaljnpahgpaaGreatDoor
set_option linter.unusedSimpArgs false
set_option linter.unusedVariables false
open Go Go.RowKit

section
variable {w : World} {P : Nat → Prop}
theorem Td_open {x : Sd.Td} {cs : List Value} (h : Reads w P x.d cs) : ∃ (a1 a2 a3 a4 : Option Addr) (c1 c2 c3 c4 : Nat),
    cs = [.int .i64 x.kind, .string ⟨x.name.toArray⟩, .slice a1 x.impl.length c1, .slice a2 x.fields.length c2, .slice a3 x.members.length c3, .slice a4 x.inputs.length c4, .int .i64 x.at_] ∧
    Reads w P (.seq 1 (sds x.impl)) [.slice a1 x.impl.length c1] ∧ Reads w P (.seq 4 (x.fields.map Sd.Fd.d)) [.slice a2 x.fields.length c2] ∧ Reads w P (.seq 1 (sds x.members)) [.slice a3 x.members.length c3] ∧ Reads w P (.seq 9 (x.inputs.map Sd.In.d)) [.slice a4 x.inputs.length c4] := by
  unfold Sd.Td.d at h
  obtain ⟨x1, r1, rfl, e1, h1⟩ := h.obj_inv.cons_inv
  obtain ⟨x2, r2, rfl, e2, h2⟩ := h1.cons_inv
  obtain ⟨x3, r3, rfl, e3, h3⟩ := h2.cons_inv
  obtain ⟨x4, r4, rfl, e4, h4⟩ := h3.cons_inv
  obtain ⟨x5, r5, rfl, e5, h5⟩ := h4.cons_inv
  obtain ⟨x6, r6, rfl, e6, h6⟩ := h5.cons_inv
  obtain ⟨x7, r7, rfl, e7, h7⟩ := h6.cons_inv
  obtain rfl := e1.int_inv
  obtain rfl := e2.str_inv
  obtain ⟨b3, d3, rfl, _⟩ := e3.seq_inv
  obtain ⟨b4, d4, rfl, _⟩ := e4.seq_inv
  obtain ⟨b5, d5, rfl, _⟩ := e5.seq_inv
  obtain ⟨b6, d6, rfl, _⟩ := e6.seq_inv
  obtain rfl := e7.int_inv
  obtain rfl := h7.nil_inv
  simp only [sds_len, List.length_map] at e3 e4 e5 e6 ⊢
  exact ⟨b3, b4, b5, b6, d3, d4, d5, d6, rfl, e3, e4, e5, e6⟩
theorem Fd_open {x : Sd.Fd} {cs : List Value} (h : Reads w P x.d cs) : ∃ (a1 : Option Addr) (c1 : Nat),
    cs = [.string ⟨x.name.toArray⟩, .slice a1 x.args.length c1, .string ⟨x.type.toArray⟩, .int .i64 x.at_] ∧ Reads w P (.seq 9 (x.args.map Sd.In.d)) [.slice a1 x.args.length c1] := by
  unfold Sd.Fd.d at h
  obtain ⟨x1, r1, rfl, e1, h1⟩ := h.obj_inv.cons_inv
  obtain ⟨x2, r2, rfl, e2, h2⟩ := h1.cons_inv
  obtain ⟨x3, r3, rfl, e3, h3⟩ := h2.cons_inv
  obtain ⟨x4, r4, rfl, e4, h4⟩ := h3.cons_inv
  obtain rfl := e1.str_inv
  obtain ⟨b1, d1, rfl, _⟩ := e2.seq_inv
  obtain rfl := e3.str_inv
  obtain rfl := e4.int_inv
  obtain rfl := h4.nil_inv
  simp only [List.length_map] at e2 ⊢
  exact ⟨b1, d1, rfl, e2⟩
theorem V_open {v : Rd.V} {cs : List Value} (h : Reads w P v.d cs) : ∃ (a1 a2 : Option Addr) (c1 c2 : Nat), cs = [.int .i64 v.kind, .string ⟨v.text.toArray⟩, .slice a1 v.items.length c1, .slice a2 v.fields.length c2, .int .i64 v.at_] ∧
    Reads w P (.seq 5 (v.items.map Rd.V.d)) [.slice a1 v.items.length c1] ∧ Reads w P (.seq 7 (v.fields.map Rd.A.d)) [.slice a2 v.fields.length c2] := by
  cases v with
  | mk k t is fs a =>
    unfold Rd.V.d at h
    rw [Rd.V.dl_map, Rd.A.dl_map] at h
    obtain ⟨x1, r1, rfl, e1, h1⟩ := h.obj_inv.cons_inv
    obtain ⟨x2, r2, rfl, e2, h2⟩ := h1.cons_inv
    obtain ⟨x3, r3, rfl, e3, h3⟩ := h2.cons_inv
    obtain ⟨x4, r4, rfl, e4, h4⟩ := h3.cons_inv
    obtain ⟨x5, r5, rfl, e5, h5⟩ := h4.cons_inv
    obtain rfl := e1.int_inv
    obtain rfl := e2.str_inv
    obtain ⟨b3, d3, rfl, _⟩ := e3.seq_inv
    obtain ⟨b4, d4, rfl, _⟩ := e4.seq_inv
    obtain rfl := e5.int_inv
    obtain rfl := h5.nil_inv
    simp only [List.length_map] at e3 e4 ⊢
    exact ⟨b3, b4, d3, d4, rfl, e3, e4⟩
theorem In_open {x : Sd.In} {cs : List Value} (h : Reads w P x.d cs) : ∃ (a1 a2 : Option Addr) (c1 c2 : Nat),
    cs = [.string ⟨x.name.toArray⟩, .string ⟨x.type.toArray⟩, .bool x.has, .int .i64 x.dflt.kind, .string ⟨x.dflt.text.toArray⟩, .slice a1 x.dflt.items.length c1, .slice a2 x.dflt.fields.length c2, .int .i64 x.dflt.at_, .int .i64 x.at_] ∧
    Reads w P (.seq 5 (x.dflt.items.map Rd.V.d)) [.slice a1 x.dflt.items.length c1] ∧ Reads w P (.seq 7 (x.dflt.fields.map Rd.A.d)) [.slice a2 x.dflt.fields.length c2] := by
  unfold Sd.In.d at h
  obtain ⟨x1, r1, rfl, e1, h1⟩ := h.obj_inv.cons_inv
  obtain ⟨x2, r2, rfl, e2, h2⟩ := h1.cons_inv
  obtain ⟨x3, r3, rfl, e3, h3⟩ := h2.cons_inv
  obtain ⟨x4, r4, rfl, e4, h4⟩ := h3.cons_inv
  obtain ⟨x5, r5, rfl, e5, h5⟩ := h4.cons_inv
  obtain rfl := e1.str_inv
  obtain rfl := e2.str_inv
  obtain rfl := e3.bool_inv
  obtain ⟨a1, a2, c1, c2, rfl, k1, k2⟩ := V_open e4
  obtain rfl := e5.int_inv
  obtain rfl := h5.nil_inv
  exact ⟨a1, a2, c1, c2, rfl, k1, k2⟩
end
end Go.Proofs.YtabcaljnpahgpaaGreatDoor
