/-
  'ValueGood', walked.
-/
import Derived.Test.YtabcaljnpahgpaaGreatDoorVk
import Derived.Test.YtabcaljnpahgpaaGreatDoorVswf
import Derived.Test.YtabcaljnpahgpaaGreatDoorVgd
import Derived.Test.YtabcaljnpahgpaaGreatDoorVsm
namespace Go.Proofs.YtabcaljnpahgpaaGreatDoor
set_option linter.unusedSimpArgs false
set_option linter.unusedVariables false
open Go Go.RowKit

set_option maxHeartbeats 4000000 in
set_option maxRecDepth 100000 in
theorem vgood_any (s : ByteArray) (w : World) (hs : s.size ≤ 9223372036854775807) (hE : Env w) (h3 : 3 ≤ w.heap.size) :
    Calls Tryz.prog 8 #[.string s] w (fun e w' => e = .returned (.bool true) ∧ Below w.heap.size w w') := by
  obtain ⟨l, rfl⟩ : ∃ l : List UInt8, s = ⟨l.toArray⟩ := ⟨s.data.toList, by cases s; simp⟩
  have hl : (⟨l.toArray⟩ : ByteArray).size = l.length := rfl
  rw [hl] at hs
  have HE := Lib.hid hE
  have hl0 : (0 : Int) ≤ l.length := by omega
  clear hE
  go_enter Tryz.func8, Tryz.ntmps8
  go_wp2_with fail
  refine (vAwake_any w HE.out h3).mono ?_
  rintro e w1 ⟨rfl, hb1, hE1⟩
  have HB1 := Lib.hid hb1
  have HE1 := Lib.hid hE1
  have h31 : 3 ≤ w1.heap.size := by have := hb1.size; omega
  clear hb1 hE1
  by_cases hsz : l.length ≤ 1000
  rotate_left
  · have e1 : decide ((1000 : Int) < (l.length : Int)) = true := decide_eq_true (by omega)
    go_wp2_with fail
    refine (vAwake_any w1 HE1.out h31).mono ?_
    rintro e w2 ⟨rfl, hb2, hE2⟩
    have HB2 := Lib.hid (HB1.out.trans (hb2.mono HB1.out.size))
    clear hb2 hE2
    go_wp2_with fail
    go_ret
    exact ⟨rfl, HB2.out⟩
  have e1 : decide ((1000 : Int) < (l.length : Int)) = false := decide_eq_false (by omega)
  go_wp2_with fail
  refine (vparse_any ⟨l.toArray⟩ false w1 hs HE1.out h31).mono ?_
  rintro e w2 ⟨hb2, -, hres⟩
  rcases hres with ⟨z, a1, a2, n1, n2, hz, he0, rfl, hrd⟩ | ⟨he, rfl⟩
  rotate_left
  · obtain ⟨er, her⟩ : ∃ q, q = (Vl.parse (ByteArray.data ⟨l.toArray⟩).toList false).1.err := ⟨_, rfl⟩
    rw [← her] at he ⊢
    have e2 : ((er : Int) != 0) = true := neT (by omega)
    obtain ⟨w3, hw3⟩ : ∃ q, q = w2.alloc (.cells #[.int .i64 0, .string ⟨#[]⟩, .slice none 0 0, .slice none 0 0, .int .i64 0] 55) := ⟨_, rfl⟩
    have hb3 : Below w2.heap.size w2 w3 := by rw [hw3]; exact (Below.refl _ _).alloc (Nat.le_refl _) _
    have HB3 := Lib.hid (HB1.out.trans ((hb2.trans (hb3.mono hb2.size)).mono HB1.out.size))
    have HX3 : Hid (w3.heap[w2.heap.size]? = some (.cells #[.int .i64 0, .string ⟨#[]⟩, .slice none 0 0, .slice none 0 0, .int .i64 0] 55 (0, 0))) := Lib.hid (by rw [hw3]; exact heap_at_new _ _)
    have c0 := blk_cell HX3.out 0 (.int .i64 0) rfl
    have c2 := blk_cell HX3.out 2 (.slice none 0 0) rfl
    have c3 := blk_cell HX3.out 3 (.slice none 0 0) rfl
    rw [hw3] at c0 c2 c3 HB3
    clear her he hb2 hb3 hw3 HX3
    go_wp2_with fail
    go_ret
    exact ⟨rfl, HB3.out⟩
  have hpg := Vl.parse_good (l := l) he0 hsz
  rw [show Vl.ofV (Vl.parse l false).2 = z from hz.symm] at hpg
  obtain ⟨hgood, -, hwords, hcost⟩ := hpg
  have hstr : z.str.length ≤ 200000000 := by
    have := Vl.Z.show_le 0 z ⟨[], false⟩
    rw [Vl.shown_good hgood] at this
    have h0 : (⟨[], false⟩ : Vl.Sh).out.length = 0 := rfl
    have h1 : (⟨z.str, false⟩ : Vl.Sh).out.length = z.str.length := rfl
    omega
  have hzn : z.n ≤ 200000000 := Nat.le_trans (Vl.Z.n_cost z) hcost
  have HG := Lib.hid hgood
  have HWD := Lib.hid (show (Vl.kts (Vl.Z.wds [] z)).length ≤ 1500 by omega)
  obtain ⟨w3, hw3⟩ : ∃ q, q = w2.alloc (.cells (zcells z a1 a2 n1 n2) 55) := ⟨_, rfl⟩
  have hb3 : Below w2.heap.size w2 w3 := by rw [hw3]; exact (Below.refl _ _).alloc (Nat.le_refl _) _
  have hb23 := hb2.trans (hb3.mono hb2.size)
  have HB3 := Lib.hid (HB1.out.trans (hb23.mono HB1.out.size))
  have HE3 := Lib.hid (HE1.out.below hb23)
  have HX3 : Hid (w3.heap[w2.heap.size]? = some (.cells (zcells z a1 a2 n1 n2) 55 (0, 0))) := Lib.hid (by rw [hw3]; exact heap_at_new _ _)
  have HR3 : Hid (Reads w3 (fun _ => True) z.d (zcells z a1 a2 n1 n2).toList) := Lib.hid ((hrd.to (Stands.sub _ (fun _ _ _ => trivial))).to (Stands.below hb3))
  have h33 : 3 ≤ w3.heap.size := by have := HB3.out.size; omega
  have hbs : w2.heap.size < w3.heap.size := sh_lt HX3.out
  have HC1 : Hid (Calls Tryz.prog 26 #[.agg (zcells z a1 a2 n1 n2)] w3 fun e w' => Below w3.heap.size w3 w' ∧ e = .returned (.tuple #[.string ⟨z.str.toArray⟩, .int .i64 0])) :=
    Lib.hid ((vshow_any z a1 a2 n1 n2 w3 HE3.out h33 (by omega) HR3.out).mono (by
      rintro e w' ⟨hb, h⟩
      refine ⟨hb, ?_⟩
      rw [Vl.shown, Vl.shown_good hgood] at h
      rcases h with ⟨-, h⟩ | ⟨h, -⟩
      · exact h
      · cases h))
  have HX3' := HX3
  rw [hw3] at HC1 HX3'
  unfold zcells at HC1 HX3' hw3
  have HW3 := Lib.hid hw3
  clear hb2 hb3 hb23 hw3 hrd he0 hz hgood hwords
  go_wp2_with fail
  refine HC1.out.mono ?_
  rw [← HW3.out]
  rintro e w4 ⟨hb4, rfl⟩
  have HB4 := Lib.hid (HB3.out.trans (hb4.mono HB3.out.size))
  have HE4 := Lib.hid (HE3.out.below hb4)
  have HX4 : Hid (w4.heap[w2.heap.size]? = _) := Lib.hid ((hb4.block _ hbs).trans HX3.out)
  have HR4 := Lib.hid (HR3.out.to (Stands.below hb4))
  have h34 : 3 ≤ w4.heap.size := by have := HB4.out.size; omega
  have hbs4 : w2.heap.size < w4.heap.size := sh_lt HX4.out
  have HC2 := Lib.hid (vparse_any ⟨z.str.toArray⟩ false w4 (by show z.str.length ≤ _; omega) HE4.out h34)
  clear hb4 HC1 HX3' HW3 HX3 HR3
  go_wp2_with fail
  refine HC2.out.mono ?_
  rintro e w5 ⟨hb5, -, hres⟩
  clear HC2
  by_cases hlong : 4096 < z.str.length
  · have e2 : decide ((4096 : Int) < (z.str.length : Int)) = true := decide_eq_true (by omega)
    have h5 : (Vl.parse (ByteArray.data ⟨z.str.toArray⟩).toList false).1.err = 5 := Vl.parse_long hlong
    have hr : ∃ p : Int, e = .returned (.tuple #[.agg #[.int .i64 0, .string ⟨#[]⟩, .slice none 0 0, .slice none 0 0, .int .i64 0], .int .i64 p, .int .i64 5]) := by
      rcases hres with ⟨v, b1, b2, m1, m2, -, h, -⟩ | ⟨-, h⟩
      · rw [h5] at h; cases h
      · rw [h5] at h; exact ⟨_, h⟩
    obtain ⟨p, rfl⟩ := hr
    have HB6 : Hid (Below w.heap.size w (w5.alloc (.cells #[.int .i64 0, .string ⟨#[]⟩, .slice none 0 0, .slice none 0 0, .int .i64 0] 55))) := Lib.hid (HB4.out.trans ((hb5.alloc hb5.size _).mono HB4.out.size))
    clear hres h5 hb5 hlong
    go_wp2_with fail
    go_ret
    exact ⟨rfl, HB6.out⟩
  have e2 : decide ((4096 : Int) < (z.str.length : Int)) = false := decide_eq_false (by omega)
  obtain ⟨hp1, hp2⟩ := Vl.parse_str (fixed := false) HG.out (fun e => by cases e) (by omega) HWD.out
  rcases hres with ⟨v, b1, b2, m1, m2, hv, he0, rfl, hrd⟩ | ⟨he, -⟩
  rotate_left
  · exact absurd hp1 he
  rw [show Vl.ofV (Vl.parse z.str false).2 = v from hv.symm] at hp2
  have HSM : Hid (z.same v = true) := Lib.hid (by rw [Vl.same_symm]; exact hp2)
  have hvs := Vl.same_str v z hp2
  have hvc := Vl.same_cost v z hp2
  have hgv : v.good 0 = true := by rw [hvs.2]; exact HG.out
  obtain ⟨w6, hw6⟩ : ∃ q, q = w5.alloc (.cells (zcells v b1 b2 m1 m2) 55) := ⟨_, rfl⟩
  have hb6 : Below w5.heap.size w5 w6 := by rw [hw6]; exact (Below.refl _ _).alloc (Nat.le_refl _) _
  have hb46 := hb5.trans (hb6.mono hb5.size)
  have HB6 := Lib.hid (HB4.out.trans (hb46.mono HB4.out.size))
  have HE6 := Lib.hid (HE4.out.below hb46)
  have HX6 : Hid (w6.heap[w2.heap.size]? = _) := Lib.hid ((hb46.block _ hbs4).trans HX4.out)
  have HY6 : Hid (w6.heap[w5.heap.size]? = some (.cells (zcells v b1 b2 m1 m2) 55 (0, 0))) := Lib.hid (by rw [hw6]; exact heap_at_new _ _)
  have HR6 := Lib.hid (HR4.out.to (Stands.below hb46))
  have HS6 : Hid (Reads w6 (fun _ => True) v.d (zcells v b1 b2 m1 m2).toList) := Lib.hid ((hrd.to (Stands.sub _ (fun _ _ _ => trivial))).to (Stands.below hb6))
  have h36 : 3 ≤ w6.heap.size := by have := HB6.out.size; omega
  have hxs : w2.heap.size < w6.heap.size := sh_lt HX6.out
  have hys : w5.heap.size < w6.heap.size := sh_lt HY6.out
  have HC3 : Hid (Calls Tryz.prog 26 #[.agg (zcells v b1 b2 m1 m2)] w6 fun e w' => Below w6.heap.size w6 w' ∧ e = .returned (.tuple #[.string ⟨z.str.toArray⟩, .int .i64 0])) :=
    Lib.hid ((vshow_any v b1 b2 m1 m2 w6 HE6.out h36 (by omega) HS6.out).mono (by
      rintro e w' ⟨hb, h⟩
      refine ⟨hb, ?_⟩
      rw [Vl.shown, Vl.shown_good hgv, hvs.1] at h
      rcases h with ⟨-, h⟩ | ⟨h, -⟩
      · exact h
      · cases h))
  have HY6' := HY6
  have HX6' := HX6
  rw [hw6] at HC3 HY6' HX6'
  unfold zcells at HC3 HY6' HX6' hw6
  have HW6 := Lib.hid hw6
  clear hb5 hb6 hb46 hw6 hrd he0 hv hp1 hp2 hvs hvc hgv hlong
  go_wp2_with fail
  refine HC3.out.mono ?_
  rw [← HW6.out]
  rintro e w7 ⟨hb7, rfl⟩
  have HB7 := Lib.hid (HB6.out.trans (hb7.mono HB6.out.size))
  have HX7 : Hid (w7.heap[w2.heap.size]? = _) := Lib.hid ((hb7.block _ hxs).trans HX6.out)
  have HY7 : Hid (w7.heap[w5.heap.size]? = _) := Lib.hid ((hb7.block _ hys).trans HY6.out)
  have HC4 := Lib.hid (same_any z.n (by omega) z v (Nat.le_refl _) a1 a2 b1 b2 n1 n2 m1 m2 w7 (fun _ => True) (HR6.out.to (Stands.below hb7)) (HS6.out.to (Stands.below hb7)))
  unfold zcells at HX7 HY7
  have c0 := blk_cell HX7.out 0 (.int .i64 z.kind) rfl
  have c1 := blk_cell HX7.out 1 (.string ⟨z.text.toArray⟩) rfl
  have c2 := blk_cell HX7.out 2 (.slice a1 z.items.length n1) rfl
  have c3 := blk_cell HX7.out 3 (.slice a2 z.fields.length n2) rfl
  have c4 := blk_cell HX7.out 4 (.int .i64 z.at_) rfl
  have d0 := blk_cell HY7.out 0 (.int .i64 v.kind) rfl
  have d1 := blk_cell HY7.out 1 (.string ⟨v.text.toArray⟩) rfl
  have d2 := blk_cell HY7.out 2 (.slice b1 v.items.length m1) rfl
  have d3 := blk_cell HY7.out 3 (.slice b2 v.fields.length m2) rfl
  have d4 := blk_cell HY7.out 4 (.int .i64 v.at_) rfl
  clear hb7 HC3 HY6' HX6' HW6 HX6 HY6
  go_wp2_with fail
  refine HC4.out.mono ?_
  rintro e w8 ⟨rfl, hb8⟩
  have HB8 := Lib.hid (HB7.out.trans (hb8.mono HB7.out.size))
  rw [HSM.out]
  clear hb8
  go_wp2_with fail
  go_ret
  exact ⟨rfl, HB8.out⟩
end Go.Proofs.YtabcaljnpahgpaaGreatDoor
