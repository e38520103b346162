/-
  Values, whatever their numbers: the same, but for places (no program in sight). The reader of types, as plain functions (no program in sight). The reader of types, plain: what its functions leave alone, how they go on (no program in sight). The reader of documents, as plain functions (no program in sight). The reader of documents, plain: what its functions leave alone, how they go on (no program in sight). The reader of documents, plain: operations, fragments, the rounds (no program in sight). The two texts of 'awake' of the documents' law, read plain.
-/
import Derived.Test.YtmgoebfcfgilfaaGreatDoorZi3
namespace Go.Proofs.YtmgoebfcfgilfaaGreatDoor
set_option linter.unusedSimpArgs false
set_option linter.unusedVariables false
namespace Vl
mutual
inductive Z where
  | mk (kind : Int) (text : List UInt8) (items : List Z) (fields : List ZA) (at_ : Int)
inductive ZA where
  | mk (name : List UInt8) (v : Z) (at_ : Int)
end
namespace Z
def kind : Z → Int | .mk k _ _ _ _ => k
def text : Z → List UInt8 | .mk _ t _ _ _ => t
def items : Z → List Z | .mk _ _ l _ _ => l
def fields : Z → List ZA | .mk _ _ _ l _ => l
def at_ : Z → Int | .mk _ _ _ _ a => a
end Z
namespace ZA
def name : ZA → List UInt8 | .mk n _ _ => n
def v : ZA → Z | .mk _ v _ => v
def at_ : ZA → Int | .mk _ _ a => a
end ZA
mutual
def Z.same : Z → Z → Bool
  | .mk k t i f _, .mk k' t' i' f' _ => decide (k = k') && (decide (t = t') && (Z.sames i i' && ZA.sames f f'))
def Z.sames : List Z → List Z → Bool
  | [], [] => true
  | x :: r, y :: s => Z.same x y && Z.sames r s
  | [], _ :: _ => false
  | _ :: _, [] => false
def ZA.same : ZA → ZA → Bool
  | .mk n v _, .mk n' v' _ => decide (n = n') && Z.same v v'
def ZA.sames : List ZA → List ZA → Bool
  | [], [] => true
  | x :: r, y :: s => ZA.same x y && ZA.sames r s
  | [], _ :: _ => false
  | _ :: _, [] => false
end
mutual
def ofV : Rd.V → Z
  | .mk k t i f a => .mk k t (ofVs i) (ofAs f) a
def ofVs : List Rd.V → List Z
  | [] => []
  | x :: r => ofV x :: ofVs r
def ofA : Rd.A → ZA
  | .mk n v a => .mk n (ofV v) a
def ofAs : List Rd.A → List ZA
  | [] => []
  | x :: r => ofA x :: ofAs r
end
-- How many there are in one.
mutual
def Z.n : Z → Nat
  | .mk _ _ i f _ => 1 + Z.ns i + ZA.ns f
def Z.ns : List Z → Nat
  | [] => 0
  | x :: r => Z.n x + Z.ns r
def ZA.n : ZA → Nat
  | .mk _ v _ => 1 + Z.n v
def ZA.ns : List ZA → Nat
  | [] => 0
  | x :: r => ZA.n x + ZA.ns r
end
end Vl
end Go.Proofs.YtmgoebfcfgilfaaGreatDoor
namespace Go.Proofs.YtmgoebfcfgilfaaGreatDoor
set_option linter.unusedSimpArgs false
set_option linter.unusedVariables false
namespace Sd
open Rd
structure In where
  name : List UInt8
  type : List UInt8
  has : Bool
  dflt : V
  at_ : Nat
structure Fd where
  name : List UInt8
  args : List In
  type : List UInt8
  at_ : Nat
structure Td where
  kind : Nat
  name : List UInt8
  impl : List (List UInt8)
  fields : List Fd
  members : List (List UInt8)
  inputs : List In
  at_ : Nat
def eq_ : List UInt8 := [61]
def amp : List UInt8 := [38]
def bar : List UInt8 := [124]
def words : List (List UInt8) := [[115, 99, 97, 108, 97, 114], [116, 121, 112, 101], [105, 110, 116, 101, 114, 102, 97, 99, 101], [117, 110, 105, 111, 110], [101, 110, 117, 109], [105, 110, 112, 117, 116]]
def sImpl : List UInt8 := [105, 109, 112, 108, 101, 109, 101, 110, 116, 115]
/-- A string is passed by. -/
def told (s : St) : St := if (peek s).kind = 4 then next s else s
/-- Names with a sign between. -/
def namesGo (c : List UInt8) : Nat → St → List (List UInt8) → St × List (List UInt8)
  | 0, s, out => (s, out)
  | n + 1, s, out => if isS s c then namesGo c n (name (next s)).1 (out ++ [(name (next s)).2]) else (s, out)
def names (c : List UInt8) (s : St) : St × List (List UInt8) := namesGo c ((name (take c s)).1.rest.length + 1) (name (take c s)).1 [(name (take c s)).2]
/-- A default, if there is one. -/
def dflt (n : Nat) (s : St) : St × V := if isS s eq_ then value true n (next s) else (s, V.none)
def input (n : Nat) (s : St) : St × In :=
  let r := name (told s)
  let t := type n (want colon r.1)
  ((dflt n t.1).1, ⟨r.2, t.2, isS t.1 eq_, (dflt n t.1).2, (peek (told s)).at_⟩)
/-- Something between two signs, once at least; or nothing. -/
def between {α : Type} (c e : List UInt8) (f : St → St × α) (n : Nat) (s : St) : St × List α :=
  if isS s c then (want e (loop1 e f n (next s)).1, (loop1 e f n (next s)).2) else (s, [])
def field (n : Nat) (s : St) : St × Fd :=
  let r := name (told s)
  let q := between lpar rpar (input n) n r.1
  let t := type n (want colon q.1)
  (t.1, ⟨r.2, q.2, t.2, (peek (told s)).at_⟩)
def member (s : St) : St × List UInt8 := name (if isW (told s) [sTrue, sFalse, sNull] then wrong (told s) else told s)
/-- The place of a word among those that begin definitions, from 1 on; 0: it is none. -/
def kindOf (t : List UInt8) : Nat := match words.findIdx? (fun w => decide (w = t)) with
  | some i => i + 1
  | none => 0
def impl (s : St) : St × List (List UInt8) := if isW s [sImpl] then names amp (next s) else (s, [])
def body (n : Nat) (k : Nat) (nm : List UInt8) (a : Nat) (s : St) : St × Td :=
  if k = 2 ∨ k = 3 then
    let i := impl s
    let f := between lbrc rbrc (field n) n i.1
    (f.1, ⟨k, nm, i.2, f.2, [], [], a⟩)
  else if k = 4 then
    if isS s eq_ then
      let m := names bar (next s)
      (m.1, ⟨k, nm, [], [], m.2, [], a⟩)
    else (s, ⟨k, nm, [], [], [], [], a⟩)
  else if k = 5 then
    let m := between lbrc rbrc member n s
    (m.1, ⟨k, nm, [], [], m.2, [], a⟩)
  else if k = 6 then
    let m := between lbrc rbrc (input n) n s
    (m.1, ⟨k, nm, [], [], [], m.2, a⟩)
  else (s, ⟨k, nm, [], [], [], [], a⟩)
def def_ (n : Nat) (s : St) : St × Td :=
  let s1 := told s
  let s2 := if isW s1 words then s1 else wrong s1
  let t := peek s2
  let r := name (next s2)
  body n (kindOf t.text) r.2 t.at_ r.1
/-- All definitions, from the first on. -/
def defs (n : Nat) : Nat → St → List Td → St × List Td
  | 0, s, out => (s, out)
  | k + 1, s, out => if s.err = 0 ∧ (peek s).kind ≠ 0 then defs n k (def_ n s).1 (out ++ [(def_ n s).2]) else (s, out)
def parse (l : List UInt8) : St × List Td :=
  let s := begin_ l
  let n := s.rest.length + 1
  if s.err = 0 then defs n n (def_ n s).1 [(def_ n s).2] else (s, [])
end Sd
end Go.Proofs.YtmgoebfcfgilfaaGreatDoor
namespace Go.Proofs.YtmgoebfcfgilfaaGreatDoor
set_option linter.unusedSimpArgs false
set_option linter.unusedVariables false
namespace Sd
open Rd
end Sd
end Go.Proofs.YtmgoebfcfgilfaaGreatDoor
namespace Go.Proofs.YtmgoebfcfgilfaaGreatDoor
set_option linter.unusedSimpArgs false
set_option linter.unusedVariables false
namespace Qr
open Rd
structure Dir where
  name : List UInt8
  args : List A
  at_ : Nat
inductive Sel where
  | mk (kind : Nat) (alias name : List UInt8) (args : List A) (dirs : List Dir) (sels : List Sel) (at_ : Nat)
namespace Sel
def kind : Sel → Nat | .mk k _ _ _ _ _ _ => k
def alias : Sel → List UInt8 | .mk _ x _ _ _ _ _ => x
def name : Sel → List UInt8 | .mk _ _ x _ _ _ _ => x
def args : Sel → List A | .mk _ _ _ x _ _ _ => x
def dirs : Sel → List Dir | .mk _ _ _ _ x _ _ => x
def sels : Sel → List Sel | .mk _ _ _ _ _ x _ => x
def at_ : Sel → Nat | .mk _ _ _ _ _ _ x => x
end Sel
structure Vd where
  name : List UInt8
  type : List UInt8
  has : Bool
  dflt : V
  at_ : Nat
structure Op where
  kind : Nat
  name : List UInt8
  vars : List Vd
  dirs : List Dir
  sels : List Sel
  at_ : Nat
structure Fr where
  name : List UInt8
  on : List UInt8
  dirs : List Dir
  sels : List Sel
  at_ : Nat
def sAt : List UInt8 := [64]
def sDots : List UInt8 := [46, 46, 46]
def sOn : List UInt8 := [111, 110]
def sEq : List UInt8 := [61]
def sFrag : List UInt8 := [102, 114, 97, 103, 109, 101, 110, 116]
def kinds : List (List UInt8) := [[113, 117, 101, 114, 121], [109, 117, 116, 97, 116, 105, 111, 110], [115, 117, 98, 115, 99, 114, 105, 112, 116, 105, 111, 110]]
/-- One directive, its sign being at hand. -/
def dir (n : Nat) (s : St) : St × Dir :=
  let r := name (next s)
  let q := args false n r.1
  (q.1, ⟨r.2, q.2, (peek s).at_⟩)
def dirsGo (n : Nat) : Nat → St → List Dir → St × List Dir
  | 0, s, out => (s, out)
  | k + 1, s, out => if isS s sAt then dirsGo n k (dir n s).1 (out ++ [(dir n s).2]) else (s, out)
def dirs (n : Nat) (s : St) : St × List Dir := dirsGo n (s.rest.length + 1) s []
/-- A name that isn't on. -/
def but (s : St) : St × List UInt8 := name (if isW s [sOn] then wrong s else s)
/-- A selection set, a selection's reader being given. -/
def selsOf (f : St → St × Sel) (s : St) : St × List Sel :=
  let r := loop1 rbrc f ((down lbrc s).rest.length + 1) (down lbrc s)
  (up rbrc r.1, r.2)
/-- A name, perhaps one ahead of it. -/
def aliasOf (s : St) : St × (List UInt8 × List UInt8) := if isS (name s).1 colon then ((name (next (name s).1)).1, ((name s).2, (name (next (name s).1)).2)) else ((name s).1, ([], (name s).2))
/-- A selection set, if one comes. -/
def setIf (f : St → St × Sel) (s : St) : St × List Sel := if isS s lbrc then selsOf f s else (s, [])
/-- A field, from its first name on. -/
def fieldOf (f : St → St × Sel) (n a : Nat) (s : St) : St × Sel :=
  let q := aliasOf s
  let g := args false n q.1
  let d := dirs n g.1
  let z := setIf f d.1
  (z.1, .mk 1 q.2.1 q.2.2 g.2 d.2 z.2 a)
/-- On which type, if that is told. -/
def onOf (s : St) : St × List UInt8 := if isW s [sOn] then name (next s) else (s, [])
def spreadOf (n a : Nat) (s : St) : St × Sel :=
  let r := name s
  let d := dirs n r.1
  (d.1, .mk 2 [] r.2 [] d.2 [] a)
def inlineOf (f : St → St × Sel) (n a : Nat) (s : St) : St × Sel :=
  let r := onOf s
  let d := dirs n r.1
  let z := selsOf f d.1
  (z.1, .mk 3 [] r.2 [] d.2 z.2 a)
def selOf (f : St → St × Sel) (n : Nat) (s : St) : St × Sel :=
  if isS s sDots then
    if isW (next s) [] && !isW (next s) [sOn] then spreadOf n (peek s).at_ (next s)
    else inlineOf f n (peek s).at_ (next s)
  else fieldOf f n (peek s).at_ s
def sel (n : Nat) : Nat → St → St × Sel
  | 0, s => (s, .mk 0 [] [] [] [] [] 0)
  | k + 1, s => selOf (sel n k) n s
def sels (n k : Nat) (s : St) : St × List Sel := selsOf (sel n k) s
def dflt (n : Nat) (s : St) : St × V := if isS s sEq then value true n (next s) else (s, V.none)
def variable_ (n : Nat) (s : St) : St × Vd :=
  let r := name (want dollar s)
  let t := type n (want colon r.1)
  ((dflt n t.1).1, ⟨r.2, t.2, isS t.1 sEq, (dflt n t.1).2, (peek s).at_⟩)
def kindOf (t : List UInt8) : Nat := match kinds.findIdx? (fun w => decide (w = t)) with
  | some i => i + 1
  | none => 0
/-- Variables between brackets, if they come. -/
def vars (n : Nat) (s : St) : St × List Vd := if isS s lpar then (want rpar (loop1 rpar (variable_ n) n (next s)).1, (loop1 rpar (variable_ n) n (next s)).2) else (s, [])
def op (n : Nat) (s : St) : St × Op :=
  if isS s lbrc then
    let z := sels n n s
    (z.1, ⟨1, [], [], [], z.2, (peek s).at_⟩)
  else
    let s1 := next s
    let r := if isW s1 [] then name s1 else (s1, [])
    let v := vars n r.1
    let d := dirs n v.1
    let z := sels n n d.1
    (z.1, ⟨kindOf (peek s).text, r.2, v.2, d.2, z.2, (peek s).at_⟩)
def frag (n : Nat) (s : St) : St × Fr :=
  let b := but (next s)
  let s2 := next (if isW b.1 [sOn] then b.1 else wrong b.1)
  let o := name s2
  let d := dirs n o.1
  let z := sels n n d.1
  (z.1, ⟨b.2, o.2, d.2, z.2, (peek s).at_⟩)
/-- One round of the document's reader. -/
def step (n : Nat) (s : St) (d : List Op × List Fr) : St × (List Op × List Fr) :=
  if isW s [sFrag] then ((frag n s).1, (d.1, d.2 ++ [(frag n s).2]))
  else if isS s lbrc || isW s kinds then ((op n s).1, (d.1 ++ [(op n s).2], d.2))
  else (wrong s, d)
def go (n : Nat) : Bool → Nat → St → List Op × List Fr → St × (List Op × List Fr)
  | _, 0, s, d => (s, d)
  | ff, k + 1, s, d => if s.err = 0 ∧ (ff = true ∨ (peek s).kind ≠ 0) then go n false k (step n s d).1 (step n s d).2 else (s, d)
def parse (l : List UInt8) : St × (List Op × List Fr) :=
  let s := begin_ l
  go (s.rest.length + 1) true (s.rest.length + 2) s ([], [])
end Qr
end Go.Proofs.YtmgoebfcfgilfaaGreatDoor
namespace Go.Proofs.YtmgoebfcfgilfaaGreatDoor
set_option linter.unusedSimpArgs false
set_option linter.unusedVariables false
namespace Qr
open Rd
end Qr
end Go.Proofs.YtmgoebfcfgilfaaGreatDoor
namespace Go.Proofs.YtmgoebfcfgilfaaGreatDoor
set_option linter.unusedSimpArgs false
set_option linter.unusedVariables false
namespace Qr
open Rd
end Qr
end Go.Proofs.YtmgoebfcfgilfaaGreatDoor
namespace Go.Proofs.YtmgoebfcfgilfaaGreatDoor
set_option linter.unusedSimpArgs false
set_option linter.unusedVariables false

end Go.Proofs.YtmgoebfcfgilfaaGreatDoor
