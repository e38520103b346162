/-
  SeglogNames, walked.
-/
import Derived.Test.YtcimobbppmpmgaaDoorSg9
namespace Go.Proofs.YtcimobbppmpmgaaDoor
set_option linter.unusedSimpArgs false
set_option linter.unusedVariables false
open Go Go.RowKit
open Go.Maps Go.WideMaps

set_option maxHeartbeats 1000000 in
set_option maxRecDepth 100000 in
theorem names_any (id : Int) (s : ByteArray) (w : World) (B : Nat) (hE : SgEnv B w) (hB : B ≤ w.heap.size) (hs0 : s.size ≤ 9223372036854775807) :
    Calls Tryd.prog 3 #[.int .i64 id, .string s] w fun e w' => e = .returned (.bool true) ∧ Below w.heap.size w w' := by
  have HE := Lib.hid hE
  have hsn : (0 : Int) ≤ (s.size : Int) := Int.natCast_nonneg _
  clear hE
  go_enter Tryd.func3, Tryd.ntmps3
  go_wp2_with fail
  refine (awake_any w B HE.out hB).mono ?_
  rintro e w1 ⟨rfl, hb1⟩
  have HB1 := Lib.hid hb1
  have HE1 := Lib.hid (HE.out.below (hb1.mono hB))
  have hB1 := Nat.le_trans hB hb1.size
  clear hb1
  by_cases hlong : 200 < s.size
  · have h1 : (200 : Int) < (s.size : Int) := by omega
    go_wp2_with fail
    refine (awake_any w1 B HE1.out hB1).mono ?_
    rintro e w2 ⟨rfl, hb2⟩
    have HB2 := Lib.hid (HB1.out.trans (hb2.mono HB1.out.size))
    clear hb2
    go_wp2_with fail
    go_ret
    exact ⟨rfl, HB2.out⟩
  · have h1 : (s.size : Int) ≤ 200 := by omega
    go_wp2_with fail
    refine (name_any id w1 B HE1.out).mono ?_
    rintro e w2 ⟨rfl, hb2⟩
    have HB2 := Lib.hid (HB1.out.trans (hb2.mono HB1.out.size))
    clear hb2
    obtain ⟨E, hE⟩ : ∃ E, E = Sg.nameE id := ⟨_, rfl⟩
    obtain ⟨sn, hsn⟩ : ∃ t : ByteArray, t = ⟨(Sg.nameB id).toArray⟩ := ⟨_, rfl⟩
    have HSN := Lib.hid hsn
    have hsz : sn.size ≤ 1000000 := by rw [hsn]; have := nameSz id; omega
    rw [← hsn, ← hE]
    have HEE := Lib.hid hE
    clear hE
    go_wp2_with fail
    refine (refName_any id w2).mono ?_
    rintro e w3 ⟨rfl, hb3⟩
    have HB3 := Lib.hid (HB2.out.trans (hb3.mono HB2.out.size))
    rw [← hsn, ← HEE.out]
    clear hb3 hsn
    go_wp2_with fail
    refine (id_any s w3 B (HE.out.below (HB3.out.mono hB)) (Nat.le_trans hB HB3.out.size) (by omega)).mono ?_
    rintro e w4 ⟨rfl, hb4⟩
    have HB4 := Lib.hid (HB3.out.trans (hb4.mono HB3.out.size))
    clear hb4
    obtain ⟨n, hn⟩ : ∃ n, n = Sg.idOf s.data.toList := ⟨_, rfl⟩
    rw [← hn]
    have HNN := Lib.hid hn
    clear hn
    go_wp2_with fail
    refine (refId_any s w4 (by omega)).mono ?_
    rintro e w5 ⟨rfl, hb5⟩
    rw [← Sg.id_ref, ← HNN.out]
    have HB5 := Lib.hid (HB4.out.trans (hb5.mono HB4.out.size))
    clear hb5
    have hte : (sn.toList == sn.toList) = true := by simp
    have hne : (n == n) = true := by simp
    have hee : (E == E) = true := by simp
    have hdd : (decide (0 < n) == decide (0 < n)) = true := by simp
    by_cases hE0 : E = 0
    · subst hE0
      have HID : Hid (Sg.idOf sn.data.toList = id ∧ 0 < id) := by
        rw [HSN.out]
        have := Sg.name_of HEE.out.symm
        exact Lib.hid ⟨(Sg.id_name HEE.out.symm).1, by omega⟩
      go_wp2_with fail
      refine (id_any sn w5 B (HE.out.below (HB5.out.mono hB)) (Nat.le_trans hB HB5.out.size) hsz).mono ?_
      rintro e w6 ⟨rfl, hb6⟩
      rw [HID.out.1]
      have HB6 := Lib.hid (HB5.out.trans (hb6.mono HB5.out.size))
      have hp : decide (0 < id) = true := by simp [HID.out.2]
      rw [hp]
      clear hb6 hp
      go_wp2_with fail
      go_ret
      exact ⟨rfl, HB6.out⟩
    · have hte2 : (E != 0) = true := by rw [bne_iff_ne]; exact hE0
      have hte3 : (E == 0) = false := by rw [beq_eq_false_iff_ne]; exact hE0
      clear hE0
      go_wp2_with fail
      go_ret
      exact ⟨rfl, HB5.out⟩
end Go.Proofs.YtcimobbppmpmgaaDoor
