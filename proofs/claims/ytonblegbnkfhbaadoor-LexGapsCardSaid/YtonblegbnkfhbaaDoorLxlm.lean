/-
  The lexer's 'Lex' as a plain function.
-/
import Derived.Test.YtonblegbnkfhbaaDoorLxd
namespace Go.Proofs.YtonblegbnkfhbaaDoor
set_option linter.unusedSimpArgs false
set_option linter.unusedVariables false
namespace Lx

/-- A token: its kind, its text, its place. -/
structure Tok where
  kind : Nat
  text : List UInt8
  at_ : Nat

/-- What 'Lex' answers: the tokens; or a place and a code. -/
inductive Res where
  | ok (ts : List Tok)
  | err (a c : Nat)

/-- The lexer's rounds: what is left of the text, the tokens so far. -/
def lexGo (size : Nat) : Nat → List UInt8 → List Tok → Res
  | 0, _, _ => .err 0 0
  | n + 1, l, out =>
    if (gap (decide (l.length = size)) l).2 = false then .err (size - (gap (decide (l.length = size)) l).1.length) 40
    else if (gap (decide (l.length = size)) l).1.length = 0 then .ok (out ++ [⟨0, [], size⟩])
    else match token (gap (decide (l.length = size)) l).1 with
      | none => .err (size - (gap (decide (l.length = size)) l).1.length) 40
      | some (k, t, rest) =>
        if out.length = 1500 then .err (size - (gap (decide (l.length = size)) l).1.length) 8
        else lexGo size n rest (out ++ [⟨k, t, size - (gap (decide (l.length = size)) l).1.length⟩])

/-- 'Lex'. -/
def lex (l : List UInt8) : Res := if 4096 < l.length then .err 0 5 else lexGo l.length (l.length + 1) l []
end Lx
end Go.Proofs.YtonblegbnkfhbaaDoor
