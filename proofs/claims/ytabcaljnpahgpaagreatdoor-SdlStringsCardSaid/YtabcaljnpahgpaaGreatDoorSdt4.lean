/-
  'SdlStrings', walked.
-/
import Derived.Test.YtabcaljnpahgpaaGreatDoorSdt3
namespace Go.Proofs.YtabcaljnpahgpaaGreatDoor
set_option linter.unusedSimpArgs false
set_option linter.unusedVariables false
open Go Go.RowKit

set_option maxHeartbeats 4000000 in
set_option maxRecDepth 100000 in
theorem sdstrings_any (nm : ByteArray) (wh : UInt8) (kd : Int) (w : World) (hs : nm.size ≤ 9223372036854775807) (hE : Env w) (h3 : 3 ≤ w.heap.size) :
    Calls Tryz.prog 4 #[.string nm, .int .u8 wh.toNat, .int .i64 kd] w (fun e w' => e = .returned (.bool true) ∧ Below w.heap.size w w') := by
  have HE := Lib.hid hE
  have hs0 : (0 : Int) ≤ nm.size := by omega
  clear hE
  obtain ⟨wb, hwb⟩ : ∃ q, q = ((w.alloc (.cells #[.string nm] 9)).alloc (.cells #[.int .u8 wh.toNat] 5)).alloc (.cells #[.int .i64 kd] 3) := ⟨_, rfl⟩
  have hbb : Below w.heap.size w wb := by rw [hwb]; exact (((Below.refl _ _).alloc (Nat.le_refl _) _).alloc (by simp) _).alloc (by simp; omega) _
  have hg3 : wb.cell? ⟨w.heap.size, 0, none⟩ = some (.string nm) := by
    rw [hwb]
    exact (World.cell?_of_block (w := w.alloc (.cells #[.string nm] 9)) (by rw [Lib.alloc_old _ _ _ (by simp <;> omega), Lib.alloc_old _ _ _ (by simp <;> omega)])).trans (cell_at_new w _ _ _ 0 _ rfl)
  have hg4 : wb.cell? ⟨w.heap.size + 1, 0, none⟩ = some (.int .u8 wh.toNat) := by
    rw [hwb]
    refine (World.cell?_of_block (w := (w.alloc (.cells #[.string nm] 9)).alloc (.cells #[.int .u8 wh.toNat] 5)) (by rw [Lib.alloc_old _ _ _ (by simp)])).trans ?_
    have := cell_at_new (w.alloc (.cells #[.string nm] 9)) #[.int .u8 wh.toNat] 5 (0, 0) 0 _ rfl
    rwa [show (w.alloc (.cells #[.string nm] 9)).heap.size = w.heap.size + 1 by simp] at this
  have hg5 : wb.cell? ⟨w.heap.size + 1 + 1, 0, none⟩ = some (.int .i64 kd) := by
    rw [hwb]
    have := cell_at_new ((w.alloc (.cells #[.string nm] 9)).alloc (.cells #[.int .u8 wh.toNat] 5)) #[.int .i64 kd] 3 (0, 0) 0 _ rfl
    rwa [show ((w.alloc (.cells #[.string nm] 9)).alloc (.cells #[.int .u8 wh.toNat] 5)).heap.size = w.heap.size + 1 + 1 by simp] at this
  have hsb : wb.heap.size = w.heap.size + 3 := by rw [hwb]; simp
  have HBB := Lib.hid hbb
  have HEB := Lib.hid (HE.out.below hbb)
  have h3b : 3 ≤ wb.heap.size := by omega
  have hC0 := sdAwake_any wb HEB.out h3b
  rw [hwb] at hC0
  have HC0 := Lib.hid hC0
  have HWB := Lib.hid hwb
  clear hC0 hwb hbb
  go_enter Tryz.func4, Tryz.ntmps4
  go_wp2_with fail
  refine HC0.out.mono ?_
  rw [← HWB.out]
  rintro e w1 ⟨rfl, hb1, hE1⟩
  have HB1 := Lib.hid (HBB.out.trans (hb1.mono HBB.out.size))
  have HE1 := Lib.hid hE1
  have h31 : 3 ≤ w1.heap.size := by have := hb1.size; omega
  have hsz1 := hb1.size
  have c3 : w1.cell? ⟨w.heap.size, 0, none⟩ = some (.string nm) := (hb1.cell (p := ⟨w.heap.size, 0, none⟩) (by show w.heap.size < _; omega)).trans hg3
  have c4 : w1.cell? ⟨w.heap.size + 1, 0, none⟩ = some (.int .u8 wh.toNat) := (hb1.cell (p := ⟨w.heap.size + 1, 0, none⟩) (by show w.heap.size + 1 < _; omega)).trans hg4
  have c5 : w1.cell? ⟨w.heap.size + 1 + 1, 0, none⟩ = some (.int .i64 kd) := (hb1.cell (p := ⟨w.heap.size + 1 + 1, 0, none⟩) (by show w.heap.size + 1 + 1 < _; omega)).trans hg5
  clear hb1 hE1 hg3 hg4 hg5 HC0
  by_cases h1 : nm.size ≤ 50
  rotate_left
  · have e1 : decide ((50 : Int) < (nm.size : Int)) = true := decide_eq_true (by omega)
    go_wp2_with fail
    refine (sdAwake_any w1 HE1.out h31).mono ?_
    rintro e w2 ⟨rfl, hb2, hE2⟩
    have HB2 := Lib.hid (HB1.out.trans (hb2.mono HB1.out.size))
    clear hb2 hE2
    go_wp2_with fail
    go_ret
    exact ⟨rfl, HB2.out⟩
  have e1 : decide ((50 : Int) < (nm.size : Int)) = false := decide_eq_false (by omega)
  obtain ⟨az, haz⟩ : ∃ q, q = Lx.az nm.data.toList := ⟨_, rfl⟩
  have hCA := az_any nm w1 (by omega)
  rw [← haz] at hCA
  have HCA := Lib.hid hCA
  have HAZ := Lib.hid haz
  clear hCA haz
  go_wp2_with fail
  refine HCA.out.mono ?_
  rintro e w2 ⟨rfl, hw2⟩
  obtain rfl := hw2.symm
  clear hw2 HCA
  cases az
  · go_wp2_with fail
    refine (sdAwake_any w1 HE1.out h31).mono ?_
    rintro e w2 ⟨rfl, hb2, hE2⟩
    have HB2 := Lib.hid (HB1.out.trans (hb2.mono HB1.out.size))
    clear hb2 hE2
    go_wp2_with fail
    go_ret
    exact ⟨rfl, HB2.out⟩
  obtain ⟨n1, n2⟩ := az_name HAZ.out.symm
  obtain ⟨k, hk, htx⟩ := sdText_any kd
  have HP1 := Lib.hid (Sd.parse_told k hk nm.data.toList (bitOf wh) n1 n2 h1)
  have HP2 := Lib.hid (Sd.parse_told k hk nm.data.toList (fun _ => false) n1 n2 h1)
  have HL1 := Lib.hid (Sd.sText_len k nm.data.toList (bitOf wh) h1)
  have HL2 := Lib.hid (Sd.sText_len k nm.data.toList (fun _ => false) h1)
  have HT1 := Lib.hid (htx 15 #[.pointer (some ⟨w.heap.size + 1, 0, none⟩)] (w.heap.size + 1 + 1) w.heap.size nm (bitOf wh) w1 (fun v w => by kernel_rfl) c5 c3 h1 (told_any5 (w.heap.size + 1) wh w1 c4))
  have HTX := Lib.hid htx
  clear htx n1 n2 HAZ
  go_wp2_with fail
  refine HT1.out.mono ?_
  rintro e w2 ⟨rfl, ⟨w2', hb2⟩, hx2⟩
  obtain rfl : w2' = w2 := hx2.symm
  clear hx2
  obtain ⟨T1, hT1⟩ : ∃ T : ByteArray, T = ⟨(Sd.sText k nm.data.toList (bitOf wh)).toArray⟩ := ⟨_, rfl⟩
  rw [← hT1]
  have HB2 := Lib.hid (HB1.out.trans (hb2.mono HB1.out.size))
  have HE2 := Lib.hid (HE1.out.below hb2)
  have h32 : 3 ≤ w2'.heap.size := by have := hb2.size; omega
  have d3 : w2'.cell? ⟨w.heap.size, 0, none⟩ = some (.string nm) := (hb2.cell (p := ⟨w.heap.size, 0, none⟩) (by show w.heap.size < _; omega)).trans c3
  have d5 : w2'.cell? ⟨w.heap.size + 1 + 1, 0, none⟩ = some (.int .i64 kd) := (hb2.cell (p := ⟨w.heap.size + 1 + 1, 0, none⟩) (by show w.heap.size + 1 + 1 < _; omega)).trans c5
  have hT1s : T1.size ≤ 9223372036854775807 := by rw [hT1]; show (Sd.sText k nm.data.toList (bitOf wh)).length ≤ _; have := HL1.out; omega
  have hT1l : T1.data.toList = Sd.sText k nm.data.toList (bitOf wh) := by rw [hT1]
  rw [← hT1l] at HP1 HL1
  have hsz2 := hb2.size
  clear hT1 hT1l hb2 HT1 c3 c4 c5
  go_wp2_with fail
  refine (sparse_any T1 w2' hT1s HE2.out h32).mono ?_
  rintro e w3 ⟨hb3, hst1, hres1⟩
  rcases hres1 with ⟨a1, q1, -, rfl, hr1⟩ | ⟨he, -⟩
  rotate_left
  · exact absurd HP1.out.1 he
  obtain ⟨xs, hxs⟩ : ∃ q, q = (Sd.parse T1.data.toList).2 := ⟨_, rfl⟩
  obtain ⟨hsm1, -⟩ := Sd.small_of HP1.out.1 (begin_le hst1) (by omega)
  have hun1 := HP1.out.2
  rw [← hxs] at hr1 hsm1 hun1 ⊢
  have hlx : xs.length = 1 := by have := congrArg List.length hun1; simpa using this
  have HB3 := Lib.hid (HB2.out.trans (hb3.mono HB2.out.size))
  have HE3 := Lib.hid (HE2.out.below hb3)
  have h33 : 3 ≤ w3.heap.size := by have := hb3.size; omega
  have hsz3 := hb3.size
  have f3 : w3.cell? ⟨w.heap.size, 0, none⟩ = some (.string nm) := (hb3.cell (p := ⟨w.heap.size, 0, none⟩) (by show w.heap.size < _; omega)).trans d3
  have f5 : w3.cell? ⟨w.heap.size + 1 + 1, 0, none⟩ = some (.int .i64 kd) := (hb3.cell (p := ⟨w.heap.size + 1 + 1, 0, none⟩) (by show w.heap.size + 1 + 1 < _; omega)).trans d5
  have HR1 := Lib.hid (hr1.to (Stands.sub _ (Q := fun _ => True) (fun _ _ _ => trivial)))
  have HSM1 := Lib.hid hsm1
  have HUN1 := Lib.hid hun1
  have HLX := Lib.hid hlx
  have HT2 := Lib.hid (HTX.out 17 #[] (w.heap.size + 1 + 1) w.heap.size nm (fun _ => false) w3 (fun v w => by kernel_rfl) f5 f3 h1 (told_none w3))
  clear hxs hr1 hsm1 hun1 hlx hb3 hst1 d3 d5 HP1 HL1 hT1s
  rw [HLX.out]
  go_wp2_with fail
  refine HT2.out.mono ?_
  rintro e w4 ⟨rfl, ⟨w4', hb4⟩, hx4⟩
  obtain rfl : w4' = w4 := hx4.symm
  clear hx4
  obtain ⟨T2, hT2⟩ : ∃ T : ByteArray, T = ⟨(Sd.sText k nm.data.toList (fun _ => false)).toArray⟩ := ⟨_, rfl⟩
  rw [← hT2]
  have HB4 := Lib.hid (HB3.out.trans (hb4.mono HB3.out.size))
  have HE4 := Lib.hid (HE3.out.below hb4)
  have h34 : 3 ≤ w4'.heap.size := by have := hb4.size; omega
  have g3 : w4'.cell? ⟨w.heap.size, 0, none⟩ = some (.string nm) := (hb4.cell (p := ⟨w.heap.size, 0, none⟩) (by show w.heap.size < _; omega)).trans f3
  have hT2s : T2.size ≤ 9223372036854775807 := by rw [hT2]; show (Sd.sText k nm.data.toList (fun _ => false)).length ≤ _; have := HL2.out; omega
  have hT2l : T2.data.toList = Sd.sText k nm.data.toList (fun _ => false) := by rw [hT2]
  rw [← hT2l] at HP2 HL2
  have HR14 := Lib.hid (HR1.out.to (Stands.below hb4))
  have hsz4 := hb4.size
  clear hT2 hT2l hb4 HT2 f3 f5
  go_wp2_with fail
  refine (sparse_any T2 w4' hT2s HE4.out h34).mono ?_
  rintro e w5 ⟨hb5, hst2, hres2⟩
  rcases hres2 with ⟨a2, q2, -, rfl, hr2⟩ | ⟨he, -⟩
  rotate_left
  · exact absurd HP2.out.1 he
  obtain ⟨ys, hys⟩ : ∃ q, q = (Sd.parse T2.data.toList).2 := ⟨_, rfl⟩
  have hun2 := HP2.out.2
  rw [← hys] at hr2 hun2 ⊢
  have hly : ys.length = 1 := by have := congrArg List.length hun2; simpa using this
  have HB5 := Lib.hid (HB4.out.trans (hb5.mono HB4.out.size))
  have hsz5 := hb5.size
  have hr15 := HR14.out.to (Stands.below hb5)
  obtain ⟨x, hx⟩ : ∃ x, xs = [x] := by
    have := HLX.out
    match xs, this with
    | [x], _ => exact ⟨x, rfl⟩
  have hunx : Sd.Td.un x = Sd.sWant k nm.data.toList := by have := HUN1.out; rw [hx] at this; simpa using this
  have hxn : x.name = nm.data.toList := by
    have : (Sd.Td.un x).name = x.name := rfl
    rw [← this, hunx]
    unfold Sd.sWant
    split
    · rfl
    split <;> rfl
  obtain ⟨g, o, cs, ha, -, hgl, hlen, hcell, hd⟩ := hr15.el 0 x.d (by rw [hx]; rfl)
  obtain ⟨p1, p2, p3, p4, u1, u2, u3, u4, rfl, -, -, -, -⟩ := Td_open hd
  have hxs2 : (⟨x.name.toArray⟩ : ByteArray) = nm := by rw [hxn]
  have j1 : w5.cell? ⟨g, o + 1, none⟩ = some (.string nm) := by
    have := hcell 1 _ rfl
    rw [Nat.zero_mul, Nat.add_zero] at this
    rw [this]
    show some (Value.string ⟨x.name.toArray⟩) = _
    rw [hxs2]
  have j3 : w5.cell? ⟨w.heap.size, 0, none⟩ = some (.string nm) := (hb5.cell (p := ⟨w.heap.size, 0, none⟩) (by show w.heap.size < _; omega)).trans g3
  have J1 : ∀ q : Later w5, q.1.cell? ⟨g, o + 1, none⟩ = some (.string nm) := Later.cell j1
  have J3 : ∀ q : Later w5, q.1.cell? ⟨w.heap.size, 0, none⟩ = some (.string nm) := Later.cell j3
  subst ha
  have hcall : ∀ q : Later w5, Calls Tryz.prog 13 #[.slice (some ⟨g, o, none⟩) 1 q1, .slice a2 1 q2] q.1 (fun r w' => r = .returned (.bool true) ∧ Below q.1.heap.size q.1 w') := fun q => by
    have := sdSame_eq xs ys (by rw [HUN1.out, hun2]) HSM1.out (some ⟨g, o, none⟩) a2 q1 q2 q.1 (fun _ => True) (by have := HLX.out; omega) (hr15.to (Stands.below q.2)) ((hr2.to (Stands.sub _ (fun _ _ _ => trivial))).to (Stands.below q.2))
    rw [HLX.out, hly] at this
    exact this
  have HCALL := Lib.hid hcall
  rw [hly]
  clear hys hun2 hb5 hst2 hr2 hr15 hx hunx hxn hxs2 hcell hd hlen hcall j1 j3 g3 hT2s HP2 HL2 hly
  go_wp2_with fail
  refine wp_region_later (by kernel_rfl) (by kernel_rfl) ?_
  repeat (go_big_quiet_step (exact Later.call (HCALL.out _)))
  refine wpQuiet_nil ?_
  rintro w6 ⟨q6, rfl⟩
  go_wp2_with fail
  go_ret
  exact ⟨rfl, HB5.out.trans (q6.2.mono HB5.out.size)⟩
end Go.Proofs.YtabcaljnpahgpaaGreatDoor
