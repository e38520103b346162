/-
  Values, whatever their numbers: the same, but for places (no program in sight).
-/
import Derived.Test.YtabcaljnpahgpaaGreatDoorK1
namespace Go.Proofs.YtabcaljnpahgpaaGreatDoor
set_option linter.unusedSimpArgs false
set_option linter.unusedVariables false
namespace Vl
mutual
inductive Z where
  | mk (kind : Int) (text : List UInt8) (items : List Z) (fields : List ZA) (at_ : Int)
inductive ZA where
  | mk (name : List UInt8) (v : Z) (at_ : Int)
end
namespace Z
def kind : Z → Int | .mk k _ _ _ _ => k
def text : Z → List UInt8 | .mk _ t _ _ _ => t
def items : Z → List Z | .mk _ _ l _ _ => l
def fields : Z → List ZA | .mk _ _ _ l _ => l
def at_ : Z → Int | .mk _ _ _ _ a => a
end Z
namespace ZA
def name : ZA → List UInt8 | .mk n _ _ => n
def v : ZA → Z | .mk _ v _ => v
def at_ : ZA → Int | .mk _ _ a => a
end ZA
mutual
def Z.same : Z → Z → Bool
  | .mk k t i f _, .mk k' t' i' f' _ => decide (k = k') && (decide (t = t') && (Z.sames i i' && ZA.sames f f'))
def Z.sames : List Z → List Z → Bool
  | [], [] => true
  | x :: r, y :: s => Z.same x y && Z.sames r s
  | [], _ :: _ => false
  | _ :: _, [] => false
def ZA.same : ZA → ZA → Bool
  | .mk n v _, .mk n' v' _ => decide (n = n') && Z.same v v'
def ZA.sames : List ZA → List ZA → Bool
  | [], [] => true
  | x :: r, y :: s => ZA.same x y && ZA.sames r s
  | [], _ :: _ => false
  | _ :: _, [] => false
end
theorem Z.same_eq (x y : Z) : x.same y = (decide (x.kind = y.kind) && (decide (x.text = y.text) && (Z.sames x.items y.items && ZA.sames x.fields y.fields))) := by
  cases x; cases y; unfold Z.same; rfl
theorem ZA.same_eq (x y : ZA) : x.same y = (decide (x.name = y.name) && x.v.same y.v) := by
  cases x; cases y; unfold ZA.same; rfl
theorem Z.sames_cons (x y : Z) (r s : List Z) : Z.sames (x :: r) (y :: s) = (x.same y && Z.sames r s) := by rw [Z.sames]
theorem ZA.sames_cons (x y : ZA) (r s : List ZA) : ZA.sames (x :: r) (y :: s) = (x.same y && ZA.sames r s) := by rw [ZA.sames]
theorem Z.sames_nil : Z.sames [] [] = true := by rw [Z.sames]
theorem ZA.sames_nil : ZA.sames [] [] = true := by rw [ZA.sames]
theorem Z.sames_len : ∀ {l m : List Z}, l.length ≠ m.length → Z.sames l m = false
  | [], [], h => absurd rfl h
  | x :: r, y :: s, h => by rw [Z.sames_cons, Z.sames_len (l := r) (m := s) (by simpa using h), Bool.and_false]
  | [], _ :: _, _ => by rw [Z.sames]
  | _ :: _, [], _ => by rw [Z.sames]
theorem ZA.sames_len : ∀ {l m : List ZA}, l.length ≠ m.length → ZA.sames l m = false
  | [], [], h => absurd rfl h
  | x :: r, y :: s, h => by rw [ZA.sames_cons, ZA.sames_len (l := r) (m := s) (by simpa using h), Bool.and_false]
  | [], _ :: _, _ => by rw [ZA.sames]
  | _ :: _, [], _ => by rw [ZA.sames]
mutual
def ofV : Rd.V → Z
  | .mk k t i f a => .mk k t (ofVs i) (ofAs f) a
def ofVs : List Rd.V → List Z
  | [] => []
  | x :: r => ofV x :: ofVs r
def ofA : Rd.A → ZA
  | .mk n v a => .mk n (ofV v) a
def ofAs : List Rd.A → List ZA
  | [] => []
  | x :: r => ofA x :: ofAs r
end
theorem ofVs_map : ∀ l : List Rd.V, ofVs l = l.map ofV
  | [] => by rw [ofVs]; rfl
  | x :: r => by rw [ofVs, ofVs_map r]; rfl
theorem ofAs_map : ∀ l : List Rd.A, ofAs l = l.map ofA
  | [] => by rw [ofAs]; rfl
  | x :: r => by rw [ofAs, ofAs_map r]; rfl
-- How many there are in one.
mutual
def Z.n : Z → Nat
  | .mk _ _ i f _ => 1 + Z.ns i + ZA.ns f
def Z.ns : List Z → Nat
  | [] => 0
  | x :: r => Z.n x + Z.ns r
def ZA.n : ZA → Nat
  | .mk _ v _ => 1 + Z.n v
def ZA.ns : List ZA → Nat
  | [] => 0
  | x :: r => ZA.n x + ZA.ns r
end
theorem Z.n_eq (x : Z) : x.n = 1 + Z.ns x.items + ZA.ns x.fields := by cases x; rw [Z.n]; rfl
theorem ZA.n_eq (x : ZA) : x.n = 1 + x.v.n := by cases x; rw [ZA.n]; rfl
theorem Z.n_pos (x : Z) : 1 ≤ x.n := by rw [Z.n_eq]; omega
theorem ZA.n_pos (x : ZA) : 1 ≤ x.n := by rw [ZA.n_eq]; omega
theorem Z.ns_len : ∀ l : List Z, l.length ≤ Z.ns l
  | [] => Nat.zero_le _
  | x :: r => by
    have := Z.ns_len r
    have := Z.n_pos x
    rw [Z.ns, List.length_cons]; omega
theorem ZA.ns_len : ∀ l : List ZA, l.length ≤ ZA.ns l
  | [] => Nat.zero_le _
  | x :: r => by
    have := ZA.ns_len r
    have := ZA.n_pos x
    rw [ZA.ns, List.length_cons]; omega
theorem Z.ns_mem : ∀ {l : List Z} {x : Z}, x ∈ l → x.n ≤ Z.ns l
  | y :: r, x, h => by
    rw [Z.ns]
    rcases List.mem_cons.1 h with rfl | h
    · omega
    · have := Z.ns_mem h; omega
theorem ZA.ns_mem : ∀ {l : List ZA} {x : ZA}, x ∈ l → x.n ≤ ZA.ns l
  | y :: r, x, h => by
    rw [ZA.ns]
    rcases List.mem_cons.1 h with rfl | h
    · omega
    · have := ZA.ns_mem h; omega
end Vl
end Go.Proofs.YtabcaljnpahgpaaGreatDoor
