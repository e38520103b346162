/-
  'ValueNames', walked.
-/
import Derived.Test.YtabcaljnpahgpaaGreatDoorVk
import Derived.Test.YtabcaljnpahgpaaGreatDoorL7name
namespace Go.Proofs.YtabcaljnpahgpaaGreatDoor
set_option linter.unusedSimpArgs false
set_option linter.unusedVariables false
open Go Go.RowKit

theorem ofV_kind (v : Rd.V) : (Vl.ofV v).kind = v.kind := by cases v; unfold Vl.ofV; rfl
theorem ofV_text (v : Rd.V) : (Vl.ofV v).text = v.text := by cases v; unfold Vl.ofV; rfl
theorem isName_parts {l : List UInt8} (h : Lx.isName l = true) : Lx.isLetter (Lx.hd l) = true ∧ ∀ c ∈ l, Lx.isWord c = true := by
  unfold Lx.isName at h
  rw [Bool.and_eq_true, List.all_eq_true] at h
  exact h
set_option maxHeartbeats 4000000 in
set_option maxRecDepth 100000 in
theorem vnames_any (s : ByteArray) (w : World) (hs : s.size ≤ 9223372036854775807) (hE : Env w) (h3 : 3 ≤ w.heap.size) :
    Calls Tryz.prog 6 #[.string s] w (fun e w' => e = .returned (.bool true) ∧ Below w.heap.size w w') := by
  obtain ⟨l, rfl⟩ : ∃ l : List UInt8, s = ⟨l.toArray⟩ := ⟨s.data.toList, by cases s; simp⟩
  have hl : (⟨l.toArray⟩ : ByteArray).size = l.length := rfl
  rw [hl] at hs
  have HE := Lib.hid hE
  have hl0 : (0 : Int) ≤ l.length := by omega
  clear hE
  go_enter Tryz.func6, Tryz.ntmps6
  go_wp2_with fail
  refine (vAwake_any w HE.out h3).mono ?_
  rintro e w1 ⟨rfl, hb1, hE1⟩
  have HB1 := Lib.hid hb1
  have HE1 := Lib.hid hE1
  have h31 : 3 ≤ w1.heap.size := by have := hb1.size; omega
  clear hb1 hE1
  by_cases hsz : l.length ≤ 300
  rotate_left
  · have e1 : decide ((300 : Int) < (l.length : Int)) = true := decide_eq_true (by omega)
    go_wp2_with fail
    refine (vAwake_any w1 HE1.out h31).mono ?_
    rintro e w2 ⟨rfl, hb2, hE2⟩
    have HB2 := Lib.hid (HB1.out.trans (hb2.mono HB1.out.size))
    clear hb2 hE2
    go_wp2_with fail
    go_ret
    exact ⟨rfl, HB2.out⟩
  have e1 : decide ((300 : Int) < (l.length : Int)) = false := decide_eq_false (by omega)
  obtain ⟨nm, hnm⟩ : ∃ q, q = Lx.isName l := ⟨_, rfl⟩
  have HC : Hid (Calls Tryz.prog 23 #[.string ⟨l.toArray⟩] w1 fun e w' => e = .returned (.bool nm) ∧ w' = w1) := Lib.hid ((refName_any ⟨l.toArray⟩ w1 (by show l.length ≤ _; omega)).mono (by rintro e w' ⟨rfl, rfl⟩; exact ⟨by rw [hnm], rfl⟩))
  have HNM := Lib.hid hnm
  clear hnm
  go_wp2_with fail
  refine HC.out.mono ?_
  rintro e w2 ⟨rfl, hw2⟩
  obtain rfl := hw2.symm
  clear hw2
  cases nm
  · go_wp2_with fail
    refine (vAwake_any w1 HE1.out h31).mono ?_
    rintro e w2 ⟨rfl, hb2, hE2⟩
    have HB2 := Lib.hid (HB1.out.trans (hb2.mono HB1.out.size))
    clear hb2 hE2
    go_wp2_with fail
    go_ret
    exact ⟨rfl, HB2.out⟩
  obtain ⟨n1, n2⟩ := isName_parts HNM.out.symm
  have HP1 := Lib.hid (Vl.parse_name n1 n2 hsz)
  have HP2 := Lib.hid (Vl.parse_var n1 n2 hsz)
  clear n1 n2 HC
  go_wp2_with fail
  refine (vparse_any ⟨l.toArray⟩ true w1 hs HE1.out h31).mono ?_
  rintro e w2 ⟨hb2, -, hres⟩
  rcases hres with ⟨z, a1, a2, n1, n2, hz, -, rfl, hrd⟩ | ⟨he, -⟩
  rotate_left
  · exact absurd HP1.out.1 he
  have HZK : Hid (z.kind = (Vl.nmKind l : Nat)) := Lib.hid (by rw [hz, ofV_kind]; exact congrArg _ HP1.out.2.1)
  have HZT : Hid (z.text = Vl.nmText l) := Lib.hid (by rw [hz, ofV_text]; exact HP1.out.2.2)
  clear hz hrd
  obtain ⟨w3, hw3⟩ : ∃ q, q = w2.alloc (.cells (zcells z a1 a2 n1 n2) 55) := ⟨_, rfl⟩
  have hb3 : Below w2.heap.size w2 w3 := by rw [hw3]; exact (Below.refl _ _).alloc (Nat.le_refl _) _
  have HB3 := Lib.hid (HB1.out.trans ((hb2.trans (hb3.mono hb2.size)).mono HB1.out.size))
  have HE3 := Lib.hid (HE1.out.below (hb2.trans (hb3.mono hb2.size)))
  have HX3 : Hid (w3.heap[w2.heap.size]? = some (.cells (zcells z a1 a2 n1 n2) 55 (0, 0))) := Lib.hid (by rw [hw3]; exact heap_at_new _ _)
  have h33 : 3 ≤ w3.heap.size := by have := HB3.out.size; omega
  have hbs : w2.heap.size < w3.heap.size := sh_lt HX3.out
  have HQ2 : Hid ((⟨#[36]⟩ : ByteArray) ++ ⟨l.toArray⟩ = ⟨(36 :: l).toArray⟩) := Lib.hid (vdollar l)
  have HC2 := Lib.hid (vparse_any ⟨(36 :: l).toArray⟩ false w3 (by show l.length + 1 ≤ _; omega) HE3.out h33)
  rw [hw3] at HC2
  unfold zcells at HC2 HX3 hw3
  have HW3 := Lib.hid hw3
  clear hb2 hb3 hw3
  go_wp2_with fail
  rw [HQ2.out]
  refine HC2.out.mono ?_
  rw [← HW3.out]
  rintro e w4 ⟨hb4, -, hres⟩
  rcases hres with ⟨v, b1, b2, m1, m2, hv, -, rfl, hrd⟩ | ⟨he, -⟩
  rotate_left
  · exact absurd HP2.out.1 he
  have HVK : Hid (v.kind = 1) := Lib.hid (by rw [hv, ofV_kind]; exact congrArg _ HP2.out.2.1)
  have HVT : Hid (v.text = l) := Lib.hid (by rw [hv, ofV_text]; exact HP2.out.2.2.1)
  clear hv hrd HC2
  obtain ⟨w5, hw5⟩ : ∃ q, q = w4.alloc (.cells (zcells v b1 b2 m1 m2) 55) := ⟨_, rfl⟩
  have hb5 : Below w4.heap.size w4 w5 := by rw [hw5]; exact (Below.refl _ _).alloc (Nat.le_refl _) _
  have hb35 := hb4.trans (hb5.mono hb4.size)
  have HB5 := Lib.hid (HB3.out.trans (hb35.mono HB3.out.size))
  have HE5 := Lib.hid (HE3.out.below hb35)
  have HX5 : Hid (w5.heap[w2.heap.size]? = some (.cells (zcells z a1 a2 n1 n2) 55 (0, 0))) := Lib.hid (by rw [hb35.block _ hbs]; exact HX3.out)
  have HY5 : Hid (w5.heap[w4.heap.size]? = some (.cells (zcells v b1 b2 m1 m2) 55 (0, 0))) := Lib.hid (by rw [hw5]; exact heap_at_new _ _)
  have h35 : 3 ≤ w5.heap.size := by have := HB5.out.size; omega
  have hys := sh_lt HY5.out
  have hxs := sh_lt HX5.out
  have HC3 := Lib.hid (vparse_any ⟨(36 :: l).toArray⟩ true w5 (by show l.length + 1 ≤ _; omega) HE5.out h35)
  rw [hw5] at HC3
  unfold zcells at HC3 HX5 HY5 hw5
  have HW5 := Lib.hid hw5
  clear hb4 hb5 hb35 hw5
  go_wp2_with fail
  rw [HQ2.out]
  refine HC3.out.mono ?_
  rw [← HW5.out]
  rintro e w6 ⟨hb6, -, hres⟩
  have hr6 : e = .returned (.tuple #[.agg #[.int .i64 0, .string ⟨#[]⟩, .slice none 0 0, .slice none 0 0, .int .i64 0], .int .i64 0, .int .i64 41]) := by
    have q1 : (Vl.parse (ByteArray.data ⟨(36 :: l).toArray⟩).toList true).1.err = 41 := HP2.out.2.2.2.1
    have q2 : (Vl.parse (ByteArray.data ⟨(36 :: l).toArray⟩).toList true).1.at_ = 0 := HP2.out.2.2.2.2
    rcases hres with ⟨z, a1, a2, n1, n2, hz, h, -⟩ | ⟨-, h⟩
    · rw [q1] at h; cases h
    · rw [h, q1, q2]; rfl
  subst hr6
  obtain ⟨w7, hw7⟩ : ∃ q, q = w6.alloc (.cells #[.int .i64 0, .string ⟨#[]⟩, .slice none 0 0, .slice none 0 0, .int .i64 0] 55) := ⟨_, rfl⟩
  have hb7 : Below w6.heap.size w6 w7 := by rw [hw7]; exact (Below.refl _ _).alloc (Nat.le_refl _) _
  have hb57 := hb6.trans (hb7.mono hb6.size)
  have HB7 := Lib.hid (HB5.out.trans (hb57.mono HB5.out.size))
  have HX7 : Hid (w7.heap[w2.heap.size]? = _) := Lib.hid ((hb57.block _ hxs).trans HX5.out)
  have HY7 : Hid (w7.heap[w4.heap.size]? = _) := Lib.hid ((hb57.block _ hys).trans HY5.out)
  have c0 := blk_cell HX7.out 0 (.int .i64 z.kind) rfl
  have c1 := blk_cell HX7.out 1 (.string ⟨z.text.toArray⟩) rfl
  have d0 := blk_cell HY7.out 0 (.int .i64 v.kind) rfl
  have d1 := blk_cell HY7.out 1 (.string ⟨v.text.toArray⟩) rfl
  rw [hw7] at c0 c1 d0 d1 HB7
  clear hb6 hb7 hb57 hres HC3 hw7 HX7 HY7
  by_cases h1 : l = Rd.sTrue
  · have e2 : (l == [116, 114, 117, 101]) = true := by rw [beq_iff_eq]; exact h1
    have hk : Vl.nmKind l = 5 := by unfold Vl.nmKind; rw [if_pos (.inl h1)]
    have ht : Vl.nmText l = l := by unfold Vl.nmText; rw [if_neg (by rw [h1]; decide)]
    rw [hk] at HZK
    rw [ht] at HZT
    clear h1 hk ht
    have hzk : z.kind = 5 := by rw [HZK.out]; rfl
    have hzt : z.text = l := HZT.out
    have hvk : v.kind = 1 := HVK.out
    have hvt : v.text = l := HVT.out
    rw [hzk] at c0
    rw [hzt] at c1
    rw [hvk] at d0
    rw [hvt] at d1
    clear hzk hzt hvk hvt
    go_wp2_with fail
    go_ret
    exact ⟨rfl, HB7.out⟩
  have e2 : (l == [116, 114, 117, 101]) = false := by rw [beq_eq_false_iff_ne]; exact h1
  by_cases h2 : l = Rd.sFalse
  · have e3 : (l == [102, 97, 108, 115, 101]) = true := by rw [beq_iff_eq]; exact h2
    have hk : Vl.nmKind l = 5 := by unfold Vl.nmKind; rw [if_pos (.inr h2)]
    have ht : Vl.nmText l = l := by unfold Vl.nmText; rw [if_neg (by rw [h2]; decide)]
    rw [hk] at HZK
    rw [ht] at HZT
    clear h1 h2 hk ht
    have hzk : z.kind = 5 := by rw [HZK.out]; rfl
    have hzt : z.text = l := HZT.out
    have hvk : v.kind = 1 := HVK.out
    have hvt : v.text = l := HVT.out
    rw [hzk] at c0
    rw [hzt] at c1
    rw [hvk] at d0
    rw [hvt] at d1
    clear hzk hzt hvk hvt
    go_wp2_with fail
    go_ret
    exact ⟨rfl, HB7.out⟩
  have e3 : (l == [102, 97, 108, 115, 101]) = false := by rw [beq_eq_false_iff_ne]; exact h2
  by_cases h3 : l = Rd.sNull
  · have e4 : (l == [110, 117, 108, 108]) = true := by rw [beq_iff_eq]; exact h3
    have hk : Vl.nmKind l = 6 := by unfold Vl.nmKind; rw [if_neg (by rintro (h | h); exact h1 h; exact h2 h), if_pos h3]
    have ht : Vl.nmText l = [] := by unfold Vl.nmText; rw [if_pos h3]
    rw [hk] at HZK
    rw [ht] at HZT
    clear h1 h2 h3 hk ht
    have hzk : z.kind = 6 := by rw [HZK.out]; rfl
    have hzt : z.text = [] := HZT.out
    have hvk : v.kind = 1 := HVK.out
    have hvt : v.text = l := HVT.out
    rw [hzk] at c0
    rw [hzt] at c1
    rw [hvk] at d0
    rw [hvt] at d1
    clear hzk hzt hvk hvt
    go_wp2_with fail
    go_ret
    exact ⟨rfl, HB7.out⟩
  have e4 : (l == [110, 117, 108, 108]) = false := by rw [beq_eq_false_iff_ne]; exact h3
  have hk : Vl.nmKind l = 7 := by unfold Vl.nmKind; rw [if_neg (by rintro (h | h); exact h1 h; exact h2 h), if_neg h3]
  have ht : Vl.nmText l = l := by unfold Vl.nmText; rw [if_neg h3]
  rw [hk] at HZK
  rw [ht] at HZT
  clear h1 h2 h3 hk ht
  have hzk : z.kind = 7 := by rw [HZK.out]; rfl
  have hzt : z.text = l := HZT.out
  have hvk : v.kind = 1 := HVK.out
  have hvt : v.text = l := HVT.out
  rw [hzk] at c0
  rw [hzt] at c1
  rw [hvk] at d0
  rw [hvt] at d1
  clear hzk hzt hvk hvt
  go_wp2_with fail
  go_ret
  exact ⟨rfl, HB7.out⟩
end Go.Proofs.YtabcaljnpahgpaaGreatDoor
