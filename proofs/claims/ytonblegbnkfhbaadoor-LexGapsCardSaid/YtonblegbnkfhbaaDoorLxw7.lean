/-
  The lexer's 'indent', walked.
-/
import Derived.Test.YtonblegbnkfhbaaDoorLater
import Derived.Test.YtonblegbnkfhbaaDoorLxEnv
import Derived.Test.YtonblegbnkfhbaaDoorLxd
import Derived.Shelf.Strings.SlTrimAscii
import Derived.Outline
namespace Go.Proofs.YtonblegbnkfhbaaDoor
set_option linter.unusedSimpArgs false
set_option linter.unusedVariables false
open Go Go.RowKit

theorem asciiInfo : (Tryd.prog.info? 96).map (fun i => (i.zero, i.size)) = some (some (.agg (Array.replicate 256 (.bool false))), 256) := by kernel_rfl

theorem trimSp (l : ByteArray) (w : World) :
    Calls Tryd.prog 57 #[.string l, .string ⟨#[32, 9]⟩] w fun e w' => e = .returned (.string ⟨(l.data.toList.dropWhile Lx.isSp).toArray⟩) ∧ Below w.heap.size w w' :=
  Any.strings_TrimLeft_laid Tryd.lays161 asciiInfo l ⟨#[32, 9]⟩ w (by decide) (by
    intro j b h
    match j with
    | 0 => simp at h; subst h; decide
    | 1 => simp at h; subst h; decide
    | j + 2 => simp at h)

set_option maxHeartbeats 400000 in
theorem indent_any (l : ByteArray) (w : World) (hl : l.size ≤ 100000) :
    Calls Tryd.prog 52 #[.string l] w fun e w' => e = .returned (.int .i64 (Lx.ind l.data.toList)) ∧ Below w.heap.size w w' := by
  have h1 := Lx.dropWhile_le Lx.isSp l.data.toList
  have h2 : l.data.toList.length = l.size := by simp
  go_enter Tryd.func52, Tryd.ntmps52
  go_wp2_with fail
  refine (trimSp _ _).mono ?_
  rintro e w1 ⟨rfl, hb⟩
  have hsz : (ByteArray.mk (List.dropWhile Lx.isSp l.data.toList).toArray).size = (List.dropWhile Lx.isSp l.data.toList).length := rfl
  go_wp2
  go_ret
  refine ⟨ret_int ?_, hb⟩
  unfold Lx.ind
  rw [h2]
  show (l.size : Int) - ((List.dropWhile Lx.isSp l.data.toList).length : Int) = _
  omega
end Go.Proofs.YtonblegbnkfhbaaDoor
