/-
  The file system: Sync, SyncDir, Read, New, walked.
-/
import Derived.Test.YtcimobbppmpmgaaDoorFs3
import Derived.Test.YtcimobbppmpmgaaDoorShelf
import Derived.Shelf.SlMaps.Clone
namespace Go.Proofs.YtcimobbppmpmgaaDoor
set_option linter.unusedSimpArgs false
set_option linter.unusedVariables false
open Go Go.RowKit
open Go.Maps Go.WideMaps

def cloneB_ren : Go.Shelf.Ren := ⟨fun | 41 => 37 | n => n, fun | 22 => 32 | 23 => 5 | 4 => 4 | n => n, fun | n => n⟩
theorem cloneB_lays : Go.Proofs.SlLaysE0.n41 Tryd.prog cloneB_ren := {
  mixed := by kernel_rfl
  f41 := ⟨Tryd.f37.name, by decide, Tryd.func37.trans (congrArg some (by kernel_rfl))⟩
  t4 := Tryd.underlying4
  a4 := Tryd.isAgg4
  z4 := Tryd.sizeOf4
  v4 := Tryd.zeroValue4
  t22 := Tryd.underlying32
  a22 := Tryd.isAgg32
  z22 := Tryd.sizeOf32
  v22 := Tryd.zeroValue32 }
def cloneM_ren : Go.Shelf.Ren := ⟨fun | 5 => 33 | 7 => 49 | n => n, fun | 4 => 4 | 20 => 20 | 23 => 54 | 25 => 9 | 3 => 3 | n => n, fun | n => n⟩
theorem cloneM_lays : Go.Proofs.SlLaysW.n5 Tryd.prog cloneM_ren := {
  mixed := by kernel_rfl
  f5 := ⟨Tryd.f33.name, by decide, Tryd.func33.trans (congrArg some (by kernel_rfl))⟩
  f7 := Tryd.func49.trans (congrArg some (by kernel_rfl))
  t4 := Tryd.underlying4
  a4 := Tryd.isAgg4
  z4 := Tryd.sizeOf4
  v4 := Tryd.zeroValue4
  t20 := Tryd.underlying20
  a20 := Tryd.isAgg20
  z20 := Tryd.sizeOf20
  v20 := Tryd.zeroValue20
  t23 := Tryd.underlying54
  a23 := Tryd.isAgg54
  z23 := Tryd.sizeOf54
  v23 := Tryd.zeroValue54 }

theorem infoB : (Tryd.prog.info? 5).map (fun i => (i.zero, i.size, i.bytes)) = some (some (.int .u8 0), 1, 1) := by kernel_rfl
/-- A slice of bytes in memory of the call's own. -/
def OwnB (w : World) (base : Nat) (v : Value) (l : List UInt8) : Prop := w.ownsRow base 5 1 v l.length (u8Cells l)
theorem u8Cells_one (l : List UInt8) : ∀ u ∈ u8Cells l, u.oneCell' = true := fun u hu => by
  unfold u8Cells at hu
  obtain ⟨c, _, rfl⟩ := List.mem_map.1 hu
  rfl
theorem u8Cells_len (l : List UInt8) : (u8Cells l).length = l.length := by simp [u8Cells]
theorem cloneB (base : Nat) (v : Value) (l : List UInt8) (w : World) (h : OwnB w base v l) (hl : l.length ≤ 1000000000) :
    Calls Tryd.prog 37 #[v] w fun e w' => ∃ v', e = .returned v' ∧ OwnB w' w.heap.size v' l ∧ Below w.heap.size w w' := by
  obtain ⟨i0, hi, hz0, hz1, hz2⟩ := info_parts infoB
  rcases h.2 with ⟨h1, h2⟩ | ⟨g, cap, cur, h1, hg, hc, hcap, hmax, hsz, htk⟩
  · rw [h1]
    refine (AnyE.slices_Clone_nil cloneB_lays 0 0 w).mono ?_
    rintro e w' ⟨rfl, rfl⟩
    have hl0 : l = [] := List.length_eq_zero_iff.1 h2
    subst hl0
    exact ⟨_, rfl, World.ownsRow_nil _ _ _ _, Below.refl _ _⟩
  · rw [h1]
    refine (AnyE.slices_Clone cloneB_lays i0 (.int .u8 0) 1 1 hi hz0 hz1 hz2 rfl (by decide) (fun w => Tryd.sizeOf5 w) g 0 l.length cap (u8Cells l) w (by rw [u8Cells_len]; omega) (by unfold maxLen; omega) (by omega) ?_ (u8Cells_one l)).mono ?_
    · intro j u hj
      rw [Nat.zero_add]
      have := World.ownsRow.cells h (by rw [h1]; rfl) j u hj
      rw [addr_add] at this
      exact this
    · rintro e w' ⟨v', rfl, h3, _, h4⟩
      exact ⟨v', rfl, h3, h4⟩
theorem cloneM (b : Nat) (l : Fs.Names) (w : World) (h : MapOf w b l) :
    Calls Tryd.prog 33 #[.map (some b)] w fun e w' => e = .returned (.map (some w.heap.size)) ∧ MapOf w' w.heap.size l ∧ Below w.heap.size w w' := by
  refine (AnyW.maps_Clone_owns cloneM_lays 9 (plainElem Tryd.prog 3) b l.length (Fs.datum l) w h).mono ?_
  rintro e w' ⟨rfl, h1, _, h2⟩
  exact ⟨rfl, h1, h2⟩
end Go.Proofs.YtcimobbppmpmgaaDoor
