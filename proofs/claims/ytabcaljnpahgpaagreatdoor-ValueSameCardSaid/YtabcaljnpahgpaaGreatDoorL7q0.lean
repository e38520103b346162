/-
  Quoting, byte by byte: what the two ways to write it share.
-/
import Derived.Test.YtabcaljnpahgpaaGreatDoorK9
import Derived.Test.YtabcaljnpahgpaaGreatDoorK3
namespace Go.Proofs.YtabcaljnpahgpaaGreatDoor
set_option linter.unusedSimpArgs false
set_option linter.unusedVariables false
open Go Go.RowKit

def Lx.spl : List UInt8 := [34, 92, 8, 9, 10, 12, 13]
def Lx.asl : List UInt8 := [34, 92, 98, 116, 110, 102, 114]
/-- What the document's inner loop has written behind so many rounds. -/
def Lx.qpart (c : UInt8) : Nat → List UInt8
  | 0 => []
  | j + 1 => Lx.qpart c j ++ if Lx.spl.getD j 0 = c then [92, Lx.asl.getD j 0] else []
theorem qpart_len (c : UInt8) : ∀ j, (Lx.qpart c j).length ≤ 2 * j
  | 0 => Nat.zero_le _
  | j + 1 => by
    have := qpart_len c j
    rw [Lx.qpart, List.length_append]
    split
    · simp; omega
    · simp; omega
def qpartOk (c : UInt8) : Bool := decide (Lx.qpart c 7 = if (Lx.qs c).toNat ≠ 0 then [92, Lx.qs c] else [])
set_option maxRecDepth 100000 in
theorem qpart_fin : ∀ n : Fin 256, qpartOk (UInt8.ofNat n.val) = true := by decide +kernel
theorem qpart_all (c : UInt8) : Lx.qpart c 7 = if (Lx.qs c).toNat ≠ 0 then [92, Lx.qs c] else [] := by
  have := qpart_fin ⟨c.toNat, UInt8.toNat_lt c⟩
  exact of_decide_eq_true (by simpa [qpartOk] using this)
theorem spl_bt (j : Nat) : bt ⟨#[34, 92, 8, 9, 10, 12, 13]⟩ j = Lx.spl.getD j 0 := rfl
theorem asl_bt (j : Nat) : bt ⟨#[34, 92, 98, 116, 110, 102, 114]⟩ j = Lx.asl.getD j 0 := rfl
theorem extract_one (s : ByteArray) (a : Nat) (h : a < s.size) : s.extract a (a + 1) = ⟨#[bt s a]⟩ := by
  rw [extract_between, sfx_cons s a h, show a + 1 - a = 1 by omega]
  rfl
theorem take_flat (s : ByteArray) (a : Nat) (h : a < s.size) (f : UInt8 → List UInt8) : (s.data.toList.take (a + 1)).flatMap f = (s.data.toList.take a).flatMap f ++ f (bt s a) := by
  have hl : a < s.data.toList.length := h
  have : s.data.toList[a]? = some (bt s a) := by
    rw [List.getElem?_eq_getElem hl]
    unfold bt
    rw [List.getD_eq_getElem?_getD, List.getElem?_eq_getElem hl]
    rfl
  rw [List.take_add_one, this, List.flatMap_append]
  simp

theorem drewN_add (w : World) (n m : Nat) : (w.drewN n).drewN m = w.drewN (n + m) := by simp [World.drewN, Nat.add_assoc]
def hexdOk (n : Nat) : Bool := decide (bt ⟨#[48, 49, 50, 51, 52, 53, 54, 55, 56, 57, 97, 98, 99, 100, 101, 102]⟩ n = Lx.hexd n)
theorem hexd_fin : ∀ n : Fin 16, hexdOk n.val = true := by decide +kernel
theorem hexd_bt (n : Nat) (h : n < 16) : bt ⟨#[48, 49, 50, 51, 52, 53, 54, 55, 56, 57, 97, 98, 99, 100, 101, 102]⟩ n = Lx.hexd n := of_decide_eq_true (hexd_fin ⟨n, h⟩)
end Go.Proofs.YtabcaljnpahgpaaGreatDoor
