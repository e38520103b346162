/-
  Values in memory.
-/
import Derived.Test.YtabcaljnpahgpaaGreatDoorK13
import Derived.Test.YtabcaljnpahgpaaGreatDoorVz
namespace Go.Proofs.YtabcaljnpahgpaaGreatDoor
set_option linter.unusedSimpArgs false
set_option linter.unusedVariables false
open Go Go.RowKit
namespace Vl
mutual
def Z.d : Z → D
  | .mk k t items fields a => .obj [.int k, .str t, .seq 5 (Z.dl items), .seq 7 (ZA.dl fields), .int a]
def Z.dl : List Z → List D
  | [] => []
  | x :: r => Z.d x :: Z.dl r
def ZA.d : ZA → D
  | .mk n v a => .obj [.str n, Z.d v, .int a]
def ZA.dl : List ZA → List D
  | [] => []
  | x :: r => ZA.d x :: ZA.dl r
end
theorem Z.dl_map : ∀ l : List Z, Z.dl l = l.map Z.d
  | [] => by rw [Z.dl]; rfl
  | x :: r => by rw [Z.dl, Z.dl_map r]; rfl
theorem ZA.dl_map : ∀ l : List ZA, ZA.dl l = l.map ZA.d
  | [] => by rw [ZA.dl]; rfl
  | x :: r => by rw [ZA.dl, ZA.dl_map r]; rfl
mutual
theorem ofV_d : ∀ v : Rd.V, (ofV v).d = v.d
  | .mk k t i f a => by unfold ofV Z.d Rd.V.d; rw [ofVs_d i, ofAs_d f]
theorem ofVs_d : ∀ l : List Rd.V, Z.dl (ofVs l) = Rd.V.dl l
  | [] => by rw [ofVs, Z.dl, Rd.V.dl]
  | x :: r => by rw [ofVs, Z.dl, Rd.V.dl, ofV_d x, ofVs_d r]
theorem ofA_d : ∀ v : Rd.A, (ofA v).d = v.d
  | .mk n v a => by unfold ofA ZA.d Rd.A.d; rw [ofV_d v]
theorem ofAs_d : ∀ l : List Rd.A, ZA.dl (ofAs l) = Rd.A.dl l
  | [] => by rw [ofAs, ZA.dl, Rd.A.dl]
  | x :: r => by rw [ofAs, ZA.dl, Rd.A.dl, ofA_d x, ofAs_d r]
end
end Vl
section
variable {w : World} {P : Nat → Prop}
theorem Reads.el {k : Nat} {xs : List D} {a : Option Addr} {n c : Nat} (h : Reads w P (.seq k xs) [.slice a n c]) : ∀ (j : Nat) d, xs[j]? = some d → ∃ g o cs, a = some ⟨g, o, none⟩ ∧ P g ∧ g < w.heap.size ∧ cs.length = k ∧
    (∀ (q : Nat) v, cs[q]? = some v → w.cell? ⟨g, o + j * k + q, none⟩ = some v) ∧ Reads w P d cs := by
  obtain ⟨a', c', e, hr⟩ := h.seq_inv
  obtain ⟨rfl, rfl, rfl⟩ : a = a' ∧ n = xs.length ∧ c = c' := by simpa using e
  intro j d hj
  have := hr.at j d hj
  rw [Nat.zero_add] at this
  exact this
theorem Z_open {v : Vl.Z} {cs : List Value} (h : Reads w P v.d cs) : ∃ (a1 a2 : Option Addr) (c1 c2 : Nat), cs = [.int .i64 v.kind, .string ⟨v.text.toArray⟩, .slice a1 v.items.length c1, .slice a2 v.fields.length c2, .int .i64 v.at_] ∧
    Reads w P (.seq 5 (v.items.map Vl.Z.d)) [.slice a1 v.items.length c1] ∧ Reads w P (.seq 7 (v.fields.map Vl.ZA.d)) [.slice a2 v.fields.length c2] := by
  cases v with
  | mk k t is fs a =>
    unfold Vl.Z.d at h
    rw [Vl.Z.dl_map, Vl.ZA.dl_map] at h
    obtain ⟨x1, r1, rfl, e1, h1⟩ := h.obj_inv.cons_inv
    obtain ⟨x2, r2, rfl, e2, h2⟩ := h1.cons_inv
    obtain ⟨x3, r3, rfl, e3, h3⟩ := h2.cons_inv
    obtain ⟨x4, r4, rfl, e4, h4⟩ := h3.cons_inv
    obtain ⟨x5, r5, rfl, e5, h5⟩ := h4.cons_inv
    obtain rfl := e1.int_inv
    obtain rfl := e2.str_inv
    obtain ⟨b3, d3, rfl, _⟩ := e3.seq_inv
    obtain ⟨b4, d4, rfl, _⟩ := e4.seq_inv
    obtain rfl := e5.int_inv
    obtain rfl := h5.nil_inv
    simp only [List.length_map] at e3 e4 ⊢
    exact ⟨b3, b4, d3, d4, rfl, e3, e4⟩
theorem ZA_open {x : Vl.ZA} {cs : List Value} (h : Reads w P x.d cs) : ∃ (a1 a2 : Option Addr) (c1 c2 : Nat),
    cs = [.string ⟨x.name.toArray⟩, .int .i64 x.v.kind, .string ⟨x.v.text.toArray⟩, .slice a1 x.v.items.length c1, .slice a2 x.v.fields.length c2, .int .i64 x.v.at_, .int .i64 x.at_] ∧
    Reads w P x.v.d [.int .i64 x.v.kind, .string ⟨x.v.text.toArray⟩, .slice a1 x.v.items.length c1, .slice a2 x.v.fields.length c2, .int .i64 x.v.at_] := by
  cases x with
  | mk nm v a =>
    unfold Vl.ZA.d at h
    obtain ⟨x1, r1, rfl, e1, h1⟩ := h.obj_inv.cons_inv
    obtain ⟨x2, r2, rfl, e2, h2⟩ := h1.cons_inv
    obtain ⟨x3, r3, rfl, e3, h3⟩ := h2.cons_inv
    obtain rfl := e1.str_inv
    obtain ⟨a1, a2, c1, c2, rfl, -, -⟩ := Z_open e2
    obtain rfl := e3.int_inv
    obtain rfl := h3.nil_inv
    exact ⟨a1, a2, c1, c2, rfl, e2⟩
end
def zcells (z : Vl.Z) (a1 a2 : Option Addr) (n1 n2 : Nat) : Array Value := #[.int .i64 z.kind, .string ⟨z.text.toArray⟩, .slice a1 z.items.length n1, .slice a2 z.fields.length n2, .int .i64 z.at_]
end Go.Proofs.YtabcaljnpahgpaaGreatDoor
