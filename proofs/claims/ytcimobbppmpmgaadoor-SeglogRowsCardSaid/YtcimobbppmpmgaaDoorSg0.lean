/-
  Segments: names; what the library's variables hold.
-/
import Derived.Test.YtcimobbppmpmgaaDoorFr7
import Derived.Lib.ItoaMem
import Derived.Lib.ItoaLen
import Derived.Lib.AppendIntMem
import Derived.Lib.SmallJoins
import Derived.WalkSmall
namespace Go.Proofs.YtcimobbppmpmgaaDoor
set_option linter.unusedSimpArgs false
set_option linter.unusedVariables false
open Go Go.RowKit
open Go.Maps Go.WideMaps

/-- What the library's variables hold. -/
structure SgEnv (B : Nat) (w : World) : Prop where
  tab : Lib.TabIs Tryd.prog w "internal/strconv.uint64pow10" .u64 Lib.pow10Tab
  rng : ∃ tp p, w.var? Tryd.prog "strconv.ErrRange" = some #[.iface tp p]
  syn : ∃ tp p, w.var? Tryd.prog "strconv.ErrSyntax" = some #[.iface tp p]
  low : 2 < B ∧ 1 < B ∧ 0 < B
theorem SgEnv.below {B : Nat} {w w' : World} (h : SgEnv B w) (hb : Below B w w') : SgEnv B w' := by
  obtain ⟨h1, ⟨a, b, h2⟩, ⟨c, d, h3⟩, l1, l2, l3⟩ := h
  exact ⟨var?_below hb (by kernel_rfl) l1 h1, ⟨a, b, var?_below hb (by kernel_rfl) l2 h2⟩, ⟨c, d, var?_below hb (by kernel_rfl) l3 h3⟩, l1, l2, l3⟩
theorem SgEnv.mono {B B' : Nat} {w : World} (h : SgEnv B w) (hb : B ≤ B') : SgEnv B' w := ⟨h.tab, h.rng, h.syn, Nat.lt_of_lt_of_le h.low.1 hb, Nat.lt_of_lt_of_le h.low.2.1 hb, Nat.lt_of_lt_of_le h.low.2.2 hb⟩

namespace Sg
def nameE (id : Int) : Int := if id < 1 ∨ 2147483647 < id then 1 else 0
/-- A segment's file's name. -/
def nameB (id : Int) : List UInt8 := if id < 1 ∨ 2147483647 < id then [] else [115, 101, 103, 45] ++ Lib.itoa id
theorem nameB_len (id : Int) : (nameB id).length ≤ 25 := by
  unfold nameB
  split
  · simp
  · have := Lib.itoa_length_le id (by omega) (by omega)
    simp
    omega
end Sg
theorem bytes_add (a b : List UInt8) : (⟨a.toArray⟩ : ByteArray) ++ (⟨b.toArray⟩ : ByteArray) = ⟨(a ++ b).toArray⟩ := by
  apply ByteArray.ext
  simp

set_option maxHeartbeats 1000000 in
set_option maxRecDepth 100000 in
theorem name_any (id : Int) (w : World) (B : Nat) (hE : SgEnv B w) :
    Calls Tryd.prog 7 #[.int .i64 id] w fun e w' => e = .returned (.tuple #[.string ⟨(Sg.nameB id).toArray⟩, .int .i64 (Sg.nameE id)]) ∧ Below w.heap.size w w' := by
  by_cases hid : id < 1 ∨ 2147483647 < id
  · have HB : Hid (Sg.nameB id = []) := by unfold Sg.nameB; rw [if_pos hid]; exact Lib.hid rfl
    have HE : Hid (Sg.nameE id = 1) := by unfold Sg.nameE; rw [if_pos hid]; exact Lib.hid rfl
    rcases hid with h | h
    · go_enter Tryd.func7, Tryd.ntmps7
      go_wp2_with fail
      refine bodyPost_ret (v := .tuple #[.string ⟨#[]⟩, .int .i64 1]) (by simp [results, Tryd.results7, go_sem]) rfl ?_
      exact ⟨by rw [HB.out, HE.out], Below.refl _ _⟩
    · have h2 : 1 ≤ id := by omega
      go_enter Tryd.func7, Tryd.ntmps7
      go_wp2_with fail
      refine bodyPost_ret (v := .tuple #[.string ⟨#[]⟩, .int .i64 1]) (by simp [results, Tryd.results7, go_sem]) rfl ?_
      exact ⟨by rw [HB.out, HE.out], Below.refl _ _⟩
  · have h1 : 1 ≤ id := by omega
    have h2 : id ≤ 2147483647 := by omega
    have HB : Hid (Sg.nameB id = [115, 101, 103, 45] ++ Lib.itoa id) := by unfold Sg.nameB; rw [if_neg hid]; exact Lib.hid rfl
    have HE : Hid (Sg.nameE id = 0) := by unfold Sg.nameE; rw [if_neg hid]; exact Lib.hid rfl
    have hlen := Lib.itoa_length_le id (by omega) (by omega)
    clear hid
    go_enter Tryd.func7, Tryd.ntmps7
    go_wp2_with fail
    refine (Tryd.strconv_Itoa id (by omega) (by omega) w hE.tab).mono ?_
    rintro e w1 ⟨rfl, k, os, hw1⟩
    have hb : Below w.heap.size w w1 := by rw [hw1]; exact Lib.below_grow w.heap.size w (Nat.le_refl _) k os
    have HBB := Lib.hid hb
    clear hw1
    obtain ⟨s, hs⟩ : ∃ s : ByteArray, s = ⟨(Lib.itoa id).toArray⟩ := ⟨_, rfl⟩
    have hsz : (s.size : Int) ≤ 21 := by
      rw [hs]
      show ((Lib.itoa id).toArray.size : Int) ≤ 21
      simp
      omega
    rw [← hs]
    have HS := Lib.hid hs
    clear hs hlen hb
    go_wp2_with fail
    refine bodyPost_ret (v := .tuple #[.string (⟨#[115, 101, 103, 45]⟩ ++ s), .int .i64 0]) (by simp [results, Tryd.results7, go_sem]) rfl ?_
    exact ⟨by rw [HB.out, HE.out, HS.out, ← bytes_add], HBB.out⟩
end Go.Proofs.YtcimobbppmpmgaaDoor
