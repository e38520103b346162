/-
  'awake' of the values' law, walked.
-/
import Derived.Test.YtabcaljnpahgpaaGreatDoorVk0
import Derived.Test.YtabcaljnpahgpaaGreatDoorVlp
import Derived.Test.YtabcaljnpahgpaaGreatDoorShelf
namespace Go.Proofs.YtabcaljnpahgpaaGreatDoor
set_option linter.unusedSimpArgs false
set_option linter.unusedVariables false
open Go Go.RowKit

set_option maxRecDepth 100000 in
theorem vnullable (w : World) : Calls Tryz.prog 89 #[.string ⟨#[91, 73, 110, 116, 33, 93, 33]⟩] w fun e w' => e = .returned (.string ⟨#[91, 73, 110, 116, 33, 93]⟩) ∧ w' = w := by
  go_enter Tryz.func89, Tryz.ntmps89
  go_wp2_with fail
  refine (Tryz.strings_TrimSuffix _ _ w (by decide)).mono ?_
  rintro e w1 ⟨rfl, rfl⟩
  rw [show (Lib.trimSuffix (ByteArray.data ⟨#[91, 73, 110, 116, 33, 93, 33]⟩).toList (ByteArray.data ⟨#[33]⟩).toList) = [91, 73, 110, 116, 33, 93] by kernel_rfl]
  go_wp2_with fail
  go_ret
  exact ⟨rfl, rfl⟩
set_option maxRecDepth 100000 in
theorem vitem (w : World) : Calls Tryz.prog 45 #[.string ⟨#[91, 73, 110, 116, 33, 93, 33]⟩] w fun e w' => e = .returned (.tuple #[.string ⟨#[73, 110, 116, 33]⟩, .bool true]) ∧ w' = w := by
  go_enter Tryz.func45, Tryz.ntmps45
  go_wp2_with fail
  refine (vnullable w).mono ?_
  rintro e w1 ⟨rfl, rfl⟩
  go_wp2_with fail
  refine (Tryz.strings_CutPrefix _ _ _).mono ?_
  rintro e w2 ⟨rfl, rfl⟩
  rw [show (Lib.trimPrefix (ByteArray.data ⟨#[91, 73, 110, 116, 33, 93]⟩).toList (ByteArray.data ⟨#[91]⟩).toList) = [73, 110, 116, 33, 93] by kernel_rfl, show (Lib.hasPrefix (ByteArray.data ⟨#[91, 73, 110, 116, 33, 93]⟩).toList (ByteArray.data ⟨#[91]⟩).toList) = true by kernel_rfl]
  go_wp2_with fail
  refine (Tryz.strings_TrimSuffix _ _ _ (by decide)).mono ?_
  rintro e w3 ⟨rfl, rfl⟩
  rw [show (Lib.trimSuffix (ByteArray.data ⟨#[73, 110, 116, 33, 93]⟩).toList (ByteArray.data ⟨#[93]⟩).toList) = [73, 110, 116, 33] by kernel_rfl]
  go_wp2_with fail
  go_ret2
  exact ⟨rfl, rfl⟩
set_option maxRecDepth 100000 in
theorem vbase (w : World) : Calls Tryz.prog 46 #[.string ⟨#[91, 73, 110, 116, 33, 93, 33]⟩] w fun e w' => e = .returned (.string ⟨#[73, 110, 116]⟩) ∧ Below w.heap.size w w' := by
  go_enter Tryz.func46, Tryz.ntmps46
  go_wp2_with fail
  refine (Any.strings_Trim_laid Tryz.lays160 asciiInfo ⟨#[91, 73, 110, 116, 33, 93, 33]⟩ ⟨#[91, 93, 33]⟩ w (by decide) (by decide) (ascii_of_all (by decide))).mono ?_
  rintro e w1 ⟨rfl, hb⟩
  rw [show (Lib.trimS (ByteArray.data ⟨#[91, 73, 110, 116, 33, 93, 33]⟩).toList (ByteArray.data ⟨#[91, 93, 33]⟩).toList) = [73, 110, 116] by kernel_rfl]
  go_wp2_with fail
  go_ret
  exact ⟨rfl, hb⟩

set_option maxHeartbeats 1000000 in
set_option maxRecDepth 100000 in
theorem vAwake_any (w : World) (hE : Env w) (h3 : 3 ≤ w.heap.size) :
    Calls Tryz.prog 22 #[] w (fun e w' => e = .returned (.bool true) ∧ Below w.heap.size w w' ∧ Env w') := by
  have HE := Lib.hid hE
  clear hE
  go_enter Tryz.func22, Tryz.ntmps22
  go_wp2_with fail
  refine (vparse_any _ false w (by decide) HE.out h3).mono ?_
  rintro e w1 ⟨hb1, -, hres⟩
  obtain ⟨p1, p2, p3, p4⟩ := Vl.parse_t1
  rcases hres with ⟨z, a1, a2, n1, n2, hz, -, rfl, hrd⟩ | ⟨he, -⟩
  rotate_left
  · exact absurd p1 he
  have hz' : z = Vl.ofV (Vl.parse Vl.t1 false).2 := hz
  rw [← hz'] at p2 p3 p4
  obtain ⟨w2, hw2⟩ : ∃ q, q = w1.alloc (.cells (zcells z a1 a2 n1 n2) 55) := ⟨_, rfl⟩
  have hb2 : Below w1.heap.size w1 w2 := by rw [hw2]; exact (Below.refl _ _).alloc (Nat.le_refl _) _
  have hb12 := hb1.trans (hb2.mono hb1.size)
  have hE2 := HE.out.below hb12
  have h32 : 3 ≤ w2.heap.size := by have := hb12.size; omega
  have HC := Lib.hid (vshow_any z a1 a2 n1 n2 w2 hE2 h32 (by omega) ((hrd.to (Stands.below hb2)).to (Stands.sub _ (fun _ _ _ => trivial))))
  have HB12 := Lib.hid hb12
  rw [hw2] at HC
  unfold zcells at HC hw2
  have HW2 := Lib.hid hw2
  have HP2 := Lib.hid p2
  have HP3 := Lib.hid p3
  have HE2 := Lib.hid hE2
  clear p1 p2 p3 p4 hz hz' hrd hb1 hb2 hb12 hE2 hw2
  go_wp2_with fail
  refine HC.out.mono ?_
  rw [← HW2.out]
  rintro e w3 ⟨hb3, hres⟩
  have hr2 : e = .returned (.tuple #[.string ⟨#[91, 49, 44, 32, 123, 97, 58, 32, 36, 98, 125, 93]⟩, .int .i64 0]) := by
    rcases hres with ⟨-, h⟩ | ⟨h, -⟩
    · rw [h, HP2.out]
    · rw [HP3.out] at h; cases h
  subst hr2
  have HB3 := Lib.hid (HB12.out.trans (hb3.mono HB12.out.size))
  have HE3 := Lib.hid (HE2.out.below hb3)
  have h33 : 3 ≤ w3.heap.size := by have := hb3.size; omega
  clear hb3 hres HC
  go_wp2_with fail
  refine (vitem w3).mono ?_
  rintro e w4 ⟨rfl, hw4⟩
  obtain rfl := hw4.symm
  clear hw4
  go_wp2_with fail
  refine (vparse_any _ false w3 (by decide) HE3.out h33).mono ?_
  rintro e w5 ⟨hb5, -, hres⟩
  obtain ⟨p1, p2⟩ := Vl.parse_t2
  have hr5 : e = .returned (.tuple #[.agg #[.int .i64 0, .string ⟨#[]⟩, .slice none 0 0, .slice none 0 0, .int .i64 0], .int .i64 3, .int .i64 41]) := by
    have q1 : (Vl.parse (ByteArray.data ⟨#[123, 97, 32, 49, 125]⟩).toList false).1.err = 41 := p1
    have q2 : (Vl.parse (ByteArray.data ⟨#[123, 97, 32, 49, 125]⟩).toList false).1.at_ = 3 := p2
    rcases hres with ⟨z, a1, a2, n1, n2, hz, h, -⟩ | ⟨-, h⟩
    · rw [q1] at h; cases h
    · rw [h, q1, q2]; rfl
  subst hr5
  have HB5 := Lib.hid ((HB3.out.trans (hb5.mono HB3.out.size)).alloc (by have := HB3.out.size; have := hb5.size; omega) (.cells #[.int .i64 0, .string ⟨#[]⟩, .slice none 0 0, .slice none 0 0, .int .i64 0] 55))
  clear hb5 hres p1 p2
  go_wp2_with fail
  refine (vbase _).mono ?_
  rintro e w6 ⟨rfl, hb6⟩
  have HB6 := Lib.hid (HB5.out.trans (hb6.mono HB5.out.size))
  clear hb6
  go_wp2_with fail
  go_ret
  exact ⟨rfl, HB6.out, HE.out.below HB6.out⟩
end Go.Proofs.YtabcaljnpahgpaaGreatDoor
