/-
  'ManifestBytes', walked. Numbers, texts, manifests that came in. What the listed variables give; a world for the witnesses (layers 5 and 6).
-/
import Derived.Test.YtcinagglbkbmkaaGreatDoorZb13
import Derived.Test.YtcinagglbkbmkaaGreatDoorZb2
import Derived.Test.YtcinagglbkbmkaaGreatDoorCards
import Derived.Test.YtcinagglbkbmkaaGreatDoorTie
import Derived.Test.YtcinagglbkbmkaaGreatDoorZb12
import Derived.WalkKit
import Derived.ProofKit
import Derived.OpenShut
import Derived.Deep.DeepHandedRow
import Derived.Lib.LaidTab
import Derived.Lib.LaidIn
import Derived.Lib.LaidU8
import Derived.Stop.LaidErr
import Derived.LaidLaws
import Derived.Carry
namespace Go.Proofs.YtcinagglbkbmkaaGreatDoor
set_option linter.unusedSimpArgs false
set_option linter.unusedVariables false
open Go Go.RowKit
open Go.Maps Go.WideMaps

theorem ints_nil (w : World) : Nums w (.slice none 0 0) [] := ⟨none, 0, rfl, fun i x h => by simp at h⟩
set_option maxHeartbeats 2000000 in
set_option maxRecDepth 100000 in
theorem manifestBytes_any (ver : Int) (lv bv : Value) (l : List Int) (b : List UInt8) (w : World) (B0 : Nat) (hE : MEnv B0 w) (hB : B0 ≤ w.heap.size) (hM : Ints w lv l) (hV : Byts w bv b)
    (hm : l.length ≤ 9223372036854775807) (hbl : b.length ≤ 9223372036854775807) :
    Calls Tryz.prog 3 #[.agg #[.int .i64 ver, lv], bv] w fun e w' => e = .returned (.bool true) ∧ Below w.heap.size w w' := by
  obtain ⟨la, lc, rfl⟩ := hM.form
  obtain ⟨ba, bc, rfl, _⟩ := hV.form
  have HE := Lib.hid hE
  have HM := Lib.hid hM
  have HV := Lib.hid hV
  have hb0 : Below w.heap.size w (w.alloc (.cells #[.int .i64 ver, .slice la l.length lc] 24)) := (Below.refl _ _).alloc (Nat.le_refl _) _
  have hr0 := heap_new w (.cells #[.int .i64 ver, .slice la l.length lc] 24)
  have HB0 := Lib.hid hb0
  have HR0 := Lib.hid hr0
  have hl0 : (0 : Int) ≤ (l.length : Int) := Int.natCast_nonneg _
  have hbl0 : (0 : Int) ≤ (b.length : Int) := Int.natCast_nonneg _
  clear hE hM hV hb0 hr0
  go_enter Tryz.func3, Tryz.ntmps3
  go_wp2_with fail
  refine (mawake_any _ B0 (HE.out.below (HB0.out.mono hB)) (Nat.le_trans hB HB0.out.size)).mono ?_
  rintro e w1 ⟨rfl, hb1⟩
  have HB1 := Lib.hid (HB0.out.trans (hb1.mono HB0.out.size))
  have HR1 := Lib.hid ((hb1.block _ (heap_lt HR0.out)).trans HR0.out)
  have y0 := root_cell HR1.out 0 _ rfl
  have y1 := root_cell HR1.out 1 _ rfl
  clear hb1
  by_cases h100 : 100 < l.length
  · have h100' : (100 : Int) < (l.length : Int) := by omega
    go_wp2_with fail
    refine (mawake_any w1 B0 (HE.out.below (HB1.out.mono hB)) (Nat.le_trans hB HB1.out.size)).mono ?_
    rintro e w9 ⟨rfl, hb9⟩
    have HB9 := Lib.hid (HB1.out.trans (hb9.mono HB1.out.size))
    clear hb9
    go_wp2_with fail
    go_ret
    exact ⟨rfl, HB9.out⟩
  have h100' : (l.length : Int) ≤ 100 := by omega
  by_cases h1000 : 1000 < b.length
  · have h1000' : (1000 : Int) < (b.length : Int) := by omega
    go_wp2_with fail
    refine (mawake_any w1 B0 (HE.out.below (HB1.out.mono hB)) (Nat.le_trans hB HB1.out.size)).mono ?_
    rintro e w9 ⟨rfl, hb9⟩
    have HB9 := Lib.hid (HB1.out.trans (hb9.mono HB1.out.size))
    clear hb9
    go_wp2_with fail
    go_ret
    exact ⟨rfl, HB9.out⟩
  have h1000' : (b.length : Int) ≤ 1000 := by omega
  have HE1 := Lib.hid (HE.out.below (HB1.out.mono hB))
  have hB1 := Nat.le_trans hB HB1.out.size
  have HM1 := Lib.hid (HM.out.below HB1.out)
  go_wp2_with fail
  refine (mencode_any ver _ l w1 B0 HE1.out.sg hB1 HM1.out (by omega)).mono ?_
  rintro e w2 ⟨hb2, hres⟩
  have HB12 := Lib.hid hb2
  have HR2 := Lib.hid ((hb2.block _ (heap_lt HR1.out)).trans HR1.out)
  have HM2 := Lib.hid (HM1.out.below hb2)
  have y0 := root_cell HR2.out 0 _ rfl
  have y1 := root_cell HR2.out 1 _ rfl
  clear hb2
  rcases hres with ⟨hg, cv, rfl, hob⟩ | ⟨hg, rfl⟩
  · obtain ⟨ca, cn, cc, hcv, HCN⟩ := OwnB.form3 hob
    subst hcv
    have HOB := Lib.hid hob
    have HG := Lib.hid hg
    clear hob hg
    go_wp2_with fail
    refine (lref_any ver _ _ _ w2).mono ?_
    rintro e w3 ⟨rfl, hb3⟩
    have HB13 := Lib.hid (HB12.out.trans (hb3.mono HB12.out.size))
    have HR3 := Lib.hid ((hb3.block _ (heap_lt HR2.out)).trans HR2.out)
    have HM3 := Lib.hid (HM2.out.below hb3)
    have HO3 := Lib.hid (HOB.out.keep hb3)
    clear hb3 y0 y1
    go_wp2_with fail
    refine (rgood_any ver _ l w3 HM3.out (by omega)).mono ?_
    rintro e w4 ⟨rfl, hb4⟩
    have HB14 := Lib.hid (HB13.out.trans (hb4.mono HB13.out.size))
    have HR4 := Lib.hid ((hb4.block _ (heap_lt HR3.out)).trans HR3.out)
    have HM4 := Lib.hid (HM3.out.below hb4)
    have HO4 := Lib.hid (HO3.out.keep hb4)
    have y0 := root_cell HR4.out 0 _ rfl
    have y1 := root_cell HR4.out 1 _ rfl
    rw [HG.out]
    clear hb4
    go_wp2_with fail
    refine (check_all ver _ l w4 HM4.out (by omega)).mono ?_
    rintro e w5 ⟨rfl, hb5⟩
    have HC : Hid (Mf.chk ver l = 0) := by unfold Mf.chk; rw [HG.out]; exact Lib.hid rfl
    rw [HC.out]
    have HB15 := Lib.hid (HB14.out.trans (hb5.mono HB14.out.size))
    have HR5 := Lib.hid ((hb5.block _ (heap_lt HR4.out)).trans HR4.out)
    have HM5 := Lib.hid (HM4.out.below hb5)
    have HO5 := Lib.hid (HO4.out.keep hb5)
    clear hb5 y0 y1
    have hel : (Mf.enc ver l).length ≤ 1000000000 := by have := Mf.enc_len HG.out; omega
    go_wp2_with fail
    refine (mdecode_any _ (Mf.enc ver l) w5 B0 (HE1.out.below (HB15.out.mono hB1)) (Nat.le_trans hB1 HB15.out.size) HO5.out.byts hel).mono ?_
    rintro e w6 ⟨hb6, hres⟩
    have HRE := Lib.hid (Mf.read_enc HG.out)
    rw [HRE.out] at hres
    rcases hres with ⟨v6, l6, sv6, hq, rfl, hoi⟩ | ⟨hq, _⟩
    · simp only [Option.some.injEq, Prod.mk.injEq] at hq
      obtain ⟨rfl, rfl⟩ := hq
      obtain ⟨sva, svn, svc, hsv, HSVN⟩ := OwnI.form3 hoi
      subst hsv
      have HR6 := Lib.hid ((hb6.block _ (heap_lt HR5.out)).trans HR5.out)
      have hbA : Below w6.heap.size w6 (w6.alloc (.cells #[.int .i64 ver, .slice sva svn svc] 24)) := (Below.refl _ _).alloc (Nat.le_refl _) _
      have HNA := Lib.hid (hoi.keep hbA).nums
      have HMA := Lib.hid ((HM5.out.below hb6).below hbA)
      have HBYA := Lib.hid ((HO5.out.keep hb6).keep hbA).byts
      have HB16 := Lib.hid ((HB15.out.trans (hb6.mono HB15.out.size)).trans (hbA.mono (HB15.out.trans (hb6.mono HB15.out.size)).size))
      have hg3 := heap_new w6 (.cells #[.int .i64 ver, .slice sva svn svc] 24)
      have hg2 := (hbA.block _ (heap_lt HR6.out)).trans HR6.out
      have HGA := Lib.hid hg2
      have x0 := fun x => Later.cell (root_cell hg3 0 _ rfl : (w6.alloc (.cells #[.int .i64 ver, .slice sva svn svc] 24)).cell? ⟨w6.heap.size, 0, none⟩ = some (.int .i64 ver)) x
      have x1 := fun x => Later.cell (root_cell hg3 1 _ rfl : (w6.alloc (.cells #[.int .i64 ver, .slice sva svn svc] 24)).cell? ⟨w6.heap.size, 1, none⟩ = some (.slice sva svn svc)) x
      have x2 := fun x => Later.cell (root_cell hg2 0 _ rfl : (w6.alloc (.cells #[.int .i64 ver, .slice sva svn svc] 24)).cell? ⟨w.heap.size, 0, none⟩ = some (.int .i64 ver)) x
      have x3 := fun x => Later.cell (root_cell hg2 1 _ rfl : (w6.alloc (.cells #[.int .i64 ver, .slice sva svn svc] 24)).cell? ⟨w.heap.size, 1, none⟩ = some (.slice la l.length lc)) x
      have hgl : l.length ≤ 1000000000 := by omega
      obtain ⟨u, hu⟩ : ∃ t : ByteArray, t = ⟨(Mf.enc ver l).toArray⟩ := ⟨_, rfl⟩
      have hcv : ∀ x : Later (w6.alloc (.cells #[.int .i64 ver, .slice sva svn svc] 24)), (convert 25 9 (.slice ca cn cc)).run Tryz.prog x.1 = .ok (.string u) x.1 := fun x => by rw [hu]; exact convB (HBYA.out.below x.2)
      have HREF : Hid (∀ x : Later (w6.alloc (.cells #[.int .i64 ver, .slice sva svn svc] 24)), Calls Tryz.prog 16 #[.agg #[.int .i64 ver, .slice la l.length lc]] x.1 fun e w' => e = .returned (.agg #[.int .i64 ver, .slice la l.length lc]) ∧ Below x.1.heap.size x.1 w') :=
        Lib.hid fun x => lref_any _ _ _ _ _
      have HENC : Hid (∀ x : Later (w6.alloc (.cells #[.int .i64 ver, .slice sva svn svc] 24)), Calls Tryz.prog 19 #[.agg #[.int .i64 ver, .slice la l.length lc]] x.1 fun e w' => e = .returned (.string u) ∧ Below x.1.heap.size x.1 w') :=
        Lib.hid fun x => by rw [hu]; exact rmenc_any ver _ l _ (HMA.out.below x.2) HG.out
      have HSAME : Hid (∀ x : Later (w6.alloc (.cells #[.int .i64 ver, .slice sva svn svc] 24)), Calls Tryz.prog 20 #[.agg #[.int .i64 ver, .slice sva svn svc], .agg #[.int .i64 ver, .slice la l.length lc]] x.1 fun e w' => e = .returned (.bool true) ∧ Below x.1.heap.size x.1 w') :=
        Lib.hid fun x => (lsame_any ver ver _ _ l l _ (HNA.out.below x.2) (HMA.out.below x.2) hgl hgl).mono (by rintro e w' ⟨rfl, hb⟩; exact ⟨by rw [decide_eq_true ⟨rfl, rfl⟩], hb⟩)
      have huu : (u.toList == u.toList) = true := by simp
      clear hg3 hg2 hb6 hoi hbA hu
      go_wp2_with fail
      refine wp_region_later (by kernel_rfl) (by kernel_rfl) ?_
      repeat (go_big_quiet_step ((first | (with_reducible exact Later.call (v := .agg #[.int .i64 ver, .slice la l.length lc]) (HREF.out _)) | (with_reducible exact Later.call (v := .string u) (HENC.out _)) | (with_reducible exact Later.call (v := .bool true) (HSAME.out _)))))
      refine wpQuiet_nil ?_; rintro wt ⟨⟨_, hbt⟩, rfl⟩
      have HT := Lib.hid (HB1.out.trans ((HB16.out.trans (hbt.mono HB16.out.size)).mono HB1.out.size))
      clear hbt x0 x1 x2 x3 hcv
      have hzt := HT.out.size
      have HLIT : Hid (OwnB (wt.alloc (.cells #[] 5)) wt.heap.size (.slice (some ⟨wt.heap.size, 0, none⟩) 0 0) []) :=
        Lib.hid (World.ownsRow_lit (base := wt.heap.size) (e := 5) (size := 1) wt #[] 0 (Nat.le_refl _) (by unfold maxLen; omega) rfl)
      have hbL : Below wt.heap.size wt (wt.alloc (.cells #[] 5)) := (Below.refl _ _).alloc (Nat.le_refl _) _
      have HVT := Lib.hid ((HV.out.below HT.out).below hbL)
      have hzL := hbL.size
      have HBL := Lib.hid hbL
      clear hbL
      go_wp2_with (first | (at_builtin; refine wpList_append_byts rfl _ _ rfl wt.heap.size (.slice (some ⟨wt.heap.size, 0, none⟩) 0 0) [] rfl HLIT.out (.slice ba b.length bc) b rfl HVT.out (by simp; omega) hzL ?_; intro d' w5 hown hgrow hloc; clear hloc; have HOWN := Lib.hid hown; have HGR := Lib.hid hgrow; obtain ⟨da, dn, dc, hdE, HDN5⟩ := OwnB.form3 hown; subst hdE; clear hown hgrow) | fail)
      have hb5 : Below w.heap.size w w5 := HT.out.trans ((below_grown HBL.out hzL HLIT.out HGR.out).mono hzt)
      have HB5 := Lib.hid hb5
      clear hb5
      refine (mdecode_any _ b w5 B0 (HE.out.below (HB5.out.mono hB)) (Nat.le_trans hB HB5.out.size) HOWN.out.byts (by omega)).mono ?_
      rintro e w6 ⟨hb6, hres⟩
      rw [Mf.read_ref] at hres
      have HB6 := Lib.hid (HB5.out.trans (hb6.mono HB5.out.size))
      clear hb6
      rcases hres with ⟨v6, l6, sv6, hq, rfl, hoi⟩ | ⟨hq, rfl⟩
      · obtain ⟨sva, svn, svc, hsv, HSVN⟩ := OwnI.form3 hoi
        subst hsv
        have HOI := Lib.hid hoi
        have HQ := Lib.hid hq
        clear hoi hq
        have hl6 : l6.length ≤ 1000000000 := by have := (Mf.good_out (Mf.refRead_some HQ.out).1).2.1; omega
        have hbA : Below w6.heap.size w6 (w6.alloc (.cells #[.int .i64 v6, .slice sva svn svc] 24)) := (Below.refl _ _).alloc (Nat.le_refl _) _
        have hcv := convB (((HV.out.below HB6.out).below hbA))
        obtain ⟨u, hu⟩ : ∃ t : ByteArray, t = ⟨b.toArray⟩ := ⟨_, rfl⟩
        have huz : u.size ≤ 1000000000 := by rw [hu]; show b.toArray.size ≤ _; simp; omega
        have HU : Hid (u.data.toList = b) := by rw [hu]; exact Lib.hid rfl
        rw [← hu] at hcv
        clear hu
        have HNA := Lib.hid (HOI.out.keep hbA).nums
        have HX := Lib.hid (heap_new w6 (.cells #[.int .i64 v6, .slice sva svn svc] 24))
        have HBA := Lib.hid (HB6.out.trans (hbA.mono HB6.out.size))
        clear hbA
        go_wp2_with fail
        refine (rmdec_any u _ huz).mono ?_
        rintro e w7 ⟨hb7, hres7⟩
        rw [HU.out] at hres7
        rcases hres7 with ⟨v7, l7, sv7, hq7, rfl, hn7⟩ | ⟨hq7, _⟩
        · rw [HQ.out] at hq7
          simp only [Option.some.injEq, Prod.mk.injEq] at hq7
          obtain ⟨rfl, rfl⟩ := hq7
          obtain ⟨ta, tc, rfl⟩ := hn7.form
          have hx7 := (hb7.block _ (heap_lt HX.out)).trans HX.out
          have hz67 : w6.heap.size < w7.heap.size := heap_lt hx7
          have y0 := root_cell hx7 0 _ rfl
          have y1 := root_cell hx7 1 _ rfl
          have hbZ : Below w7.heap.size w7 (w7.alloc (.cells #[.int .i64 v6, .slice ta l6.length tc] 31)) := (Below.refl _ _).alloc (Nat.le_refl _) _
          have HN7 := Lib.hid ((HNA.out.below hb7).below hbZ)
          have HM7 := Lib.hid (hn7.below hbZ)
          have HB7 := Lib.hid ((HBA.out.trans (hb7.mono HBA.out.size)).trans (hbZ.mono (HBA.out.trans (hb7.mono HBA.out.size)).size))
          clear hb7 hn7 hx7 hbZ
          go_wp2_with fail
          refine (lsame_any v6 v6 _ _ l6 l6 _ HN7.out HM7.out hl6 hl6).mono ?_
          rintro e w8 ⟨rfl, hb8⟩
          rw [decide_eq_true ⟨rfl, rfl⟩]
          have HB8 := Lib.hid (HB7.out.trans (hb8.mono HB7.out.size))
          clear hb8
          go_wp2_with fail
          go_ret
          exact ⟨rfl, HB8.out⟩
        · rw [HQ.out] at hq7
          cases hq7
      · have HQ := Lib.hid hq
        clear hq
        have hbA : Below w6.heap.size w6 (w6.alloc (.cells #[.int .i64 0, .slice none 0 0] 24)) := (Below.refl _ _).alloc (Nat.le_refl _) _
        have hcv := convB (((HV.out.below HB6.out).below hbA))
        obtain ⟨u, hu⟩ : ∃ t : ByteArray, t = ⟨b.toArray⟩ := ⟨_, rfl⟩
        have huz : u.size ≤ 1000000000 := by rw [hu]; show b.toArray.size ≤ _; simp; omega
        have HU : Hid (u.data.toList = b) := by rw [hu]; exact Lib.hid rfl
        rw [← hu] at hcv
        clear hu
        have HX := Lib.hid (heap_new w6 (.cells #[.int .i64 0, .slice none 0 0] 24))
        have HBA := Lib.hid (HB6.out.trans (hbA.mono HB6.out.size))
        clear hbA
        go_wp2_with fail
        refine (rmdec_any u _ huz).mono ?_
        rintro e w7 ⟨hb7, hres7⟩
        rw [HU.out] at hres7
        rcases hres7 with ⟨v7, l7, sv7, hq7, _⟩ | ⟨_, rfl⟩
        · rw [HQ.out] at hq7
          cases hq7
        · have hx7 := (hb7.block _ (heap_lt HX.out)).trans HX.out
          have hz67 : w6.heap.size < w7.heap.size := heap_lt hx7
          have y0 := root_cell hx7 0 _ rfl
          have y1 := root_cell hx7 1 _ rfl
          have HB7 := Lib.hid ((HBA.out.trans (hb7.mono HBA.out.size)).alloc (HBA.out.trans (hb7.mono HBA.out.size)).size (.cells #[.int .i64 0, .slice none 0 0] 31))
          clear hb7 hx7
          go_wp2_with fail
          refine (lsame_any 0 0 _ _ [] [] _ (ints_nil _) (ints_nil _) (by simp) (by simp)).mono ?_
          rintro e w8 ⟨rfl, hb8⟩
          rw [decide_eq_true ⟨rfl, rfl⟩]
          have HB8 := Lib.hid (HB7.out.trans (hb8.mono HB7.out.size))
          clear hb8
          go_wp2_with fail
          go_ret
          exact ⟨rfl, HB8.out⟩
    · cases hq
  · have HG := Lib.hid hg
    clear hg
    go_wp2_with fail
    refine (lref_any ver _ _ _ w2).mono ?_
    rintro e w3 ⟨rfl, hb3⟩
    have HB13 := Lib.hid (HB12.out.trans (hb3.mono HB12.out.size))
    have HR3 := Lib.hid ((hb3.block _ (heap_lt HR2.out)).trans HR2.out)
    have HM3 := Lib.hid (HM2.out.below hb3)
    clear hb3 y0 y1
    go_wp2_with fail
    refine (rgood_any ver _ l w3 HM3.out (by omega)).mono ?_
    rintro e w4 ⟨rfl, hb4⟩
    have HB14 := Lib.hid (HB13.out.trans (hb4.mono HB13.out.size))
    have HR4 := Lib.hid ((hb4.block _ (heap_lt HR3.out)).trans HR3.out)
    have HM4 := Lib.hid (HM3.out.below hb4)
    have y0 := root_cell HR4.out 0 _ rfl
    have y1 := root_cell HR4.out 1 _ rfl
    rw [HG.out]
    clear hb4
    go_wp2_with fail
    refine (check_all ver _ l w4 HM4.out (by omega)).mono ?_
    rintro e wt ⟨rfl, hbt⟩
    have HC : Hid (Mf.chk ver l = 1) := by unfold Mf.chk; rw [HG.out]; exact Lib.hid rfl
    rw [HC.out]
    have HT := Lib.hid (HB1.out.trans ((HB14.out.trans (hbt.mono HB14.out.size)).mono HB1.out.size))
    clear hbt y0 y1
    have hzt := HT.out.size
    have HLIT : Hid (OwnB (wt.alloc (.cells #[] 5)) wt.heap.size (.slice (some ⟨wt.heap.size, 0, none⟩) 0 0) []) :=
      Lib.hid (World.ownsRow_lit (base := wt.heap.size) (e := 5) (size := 1) wt #[] 0 (Nat.le_refl _) (by unfold maxLen; omega) rfl)
    have hbL : Below wt.heap.size wt (wt.alloc (.cells #[] 5)) := (Below.refl _ _).alloc (Nat.le_refl _) _
    have HVT := Lib.hid ((HV.out.below HT.out).below hbL)
    have hzL := hbL.size
    have HBL := Lib.hid hbL
    clear hbL
    go_wp2_with (first | (at_builtin; refine wpList_append_byts rfl _ _ rfl wt.heap.size (.slice (some ⟨wt.heap.size, 0, none⟩) 0 0) [] rfl HLIT.out (.slice ba b.length bc) b rfl HVT.out (by simp; omega) hzL ?_; intro d' w5 hown hgrow hloc; clear hloc; have HOWN := Lib.hid hown; have HGR := Lib.hid hgrow; obtain ⟨da, dn, dc, hdE, HDN5⟩ := OwnB.form3 hown; subst hdE; clear hown hgrow) | fail)
    have hb5 : Below w.heap.size w w5 := HT.out.trans ((below_grown HBL.out hzL HLIT.out HGR.out).mono hzt)
    have HB5 := Lib.hid hb5
    clear hb5
    refine (mdecode_any _ b w5 B0 (HE.out.below (HB5.out.mono hB)) (Nat.le_trans hB HB5.out.size) HOWN.out.byts (by omega)).mono ?_
    rintro e w6 ⟨hb6, hres⟩
    rw [Mf.read_ref] at hres
    have HB6 := Lib.hid (HB5.out.trans (hb6.mono HB5.out.size))
    clear hb6
    rcases hres with ⟨v6, l6, sv6, hq, rfl, hoi⟩ | ⟨hq, rfl⟩
    · obtain ⟨sva, svn, svc, hsv, HSVN⟩ := OwnI.form3 hoi
      subst hsv
      have HOI := Lib.hid hoi
      have HQ := Lib.hid hq
      clear hoi hq
      have hl6 : l6.length ≤ 1000000000 := by have := (Mf.good_out (Mf.refRead_some HQ.out).1).2.1; omega
      have hbA : Below w6.heap.size w6 (w6.alloc (.cells #[.int .i64 v6, .slice sva svn svc] 24)) := (Below.refl _ _).alloc (Nat.le_refl _) _
      have hcv := convB (((HV.out.below HB6.out).below hbA))
      obtain ⟨u, hu⟩ : ∃ t : ByteArray, t = ⟨b.toArray⟩ := ⟨_, rfl⟩
      have huz : u.size ≤ 1000000000 := by rw [hu]; show b.toArray.size ≤ _; simp; omega
      have HU : Hid (u.data.toList = b) := by rw [hu]; exact Lib.hid rfl
      rw [← hu] at hcv
      clear hu
      have HNA := Lib.hid (HOI.out.keep hbA).nums
      have HX := Lib.hid (heap_new w6 (.cells #[.int .i64 v6, .slice sva svn svc] 24))
      have HBA := Lib.hid (HB6.out.trans (hbA.mono HB6.out.size))
      clear hbA
      go_wp2_with fail
      refine (rmdec_any u _ huz).mono ?_
      rintro e w7 ⟨hb7, hres7⟩
      rw [HU.out] at hres7
      rcases hres7 with ⟨v7, l7, sv7, hq7, rfl, hn7⟩ | ⟨hq7, _⟩
      · rw [HQ.out] at hq7
        simp only [Option.some.injEq, Prod.mk.injEq] at hq7
        obtain ⟨rfl, rfl⟩ := hq7
        obtain ⟨ta, tc, rfl⟩ := hn7.form
        have hx7 := (hb7.block _ (heap_lt HX.out)).trans HX.out
        have hz67 : w6.heap.size < w7.heap.size := heap_lt hx7
        have y0 := root_cell hx7 0 _ rfl
        have y1 := root_cell hx7 1 _ rfl
        have hbZ : Below w7.heap.size w7 (w7.alloc (.cells #[.int .i64 v6, .slice ta l6.length tc] 31)) := (Below.refl _ _).alloc (Nat.le_refl _) _
        have HN7 := Lib.hid ((HNA.out.below hb7).below hbZ)
        have HM7 := Lib.hid (hn7.below hbZ)
        have HB7 := Lib.hid ((HBA.out.trans (hb7.mono HBA.out.size)).trans (hbZ.mono (HBA.out.trans (hb7.mono HBA.out.size)).size))
        clear hb7 hn7 hx7 hbZ
        go_wp2_with fail
        refine (lsame_any v6 v6 _ _ l6 l6 _ HN7.out HM7.out hl6 hl6).mono ?_
        rintro e w8 ⟨rfl, hb8⟩
        rw [decide_eq_true ⟨rfl, rfl⟩]
        have HB8 := Lib.hid (HB7.out.trans (hb8.mono HB7.out.size))
        clear hb8
        go_wp2_with fail
        go_ret
        exact ⟨rfl, HB8.out⟩
      · rw [HQ.out] at hq7
        cases hq7
    · have HQ := Lib.hid hq
      clear hq
      have hbA : Below w6.heap.size w6 (w6.alloc (.cells #[.int .i64 0, .slice none 0 0] 24)) := (Below.refl _ _).alloc (Nat.le_refl _) _
      have hcv := convB (((HV.out.below HB6.out).below hbA))
      obtain ⟨u, hu⟩ : ∃ t : ByteArray, t = ⟨b.toArray⟩ := ⟨_, rfl⟩
      have huz : u.size ≤ 1000000000 := by rw [hu]; show b.toArray.size ≤ _; simp; omega
      have HU : Hid (u.data.toList = b) := by rw [hu]; exact Lib.hid rfl
      rw [← hu] at hcv
      clear hu
      have HX := Lib.hid (heap_new w6 (.cells #[.int .i64 0, .slice none 0 0] 24))
      have HBA := Lib.hid (HB6.out.trans (hbA.mono HB6.out.size))
      clear hbA
      go_wp2_with fail
      refine (rmdec_any u _ huz).mono ?_
      rintro e w7 ⟨hb7, hres7⟩
      rw [HU.out] at hres7
      rcases hres7 with ⟨v7, l7, sv7, hq7, _⟩ | ⟨_, rfl⟩
      · rw [HQ.out] at hq7
        cases hq7
      · have hx7 := (hb7.block _ (heap_lt HX.out)).trans HX.out
        have hz67 : w6.heap.size < w7.heap.size := heap_lt hx7
        have y0 := root_cell hx7 0 _ rfl
        have y1 := root_cell hx7 1 _ rfl
        have HB7 := Lib.hid ((HBA.out.trans (hb7.mono HBA.out.size)).alloc (HBA.out.trans (hb7.mono HBA.out.size)).size (.cells #[.int .i64 0, .slice none 0 0] 31))
        clear hb7 hx7
        go_wp2_with fail
        refine (lsame_any 0 0 _ _ [] [] _ (ints_nil _) (ints_nil _) (by simp) (by simp)).mono ?_
        rintro e w8 ⟨rfl, hb8⟩
        rw [decide_eq_true ⟨rfl, rfl⟩]
        have HB8 := Lib.hid (HB7.out.trans (hb8.mono HB7.out.size))
        clear hb8
        go_wp2_with fail
        go_ret
        exact ⟨rfl, HB8.out⟩
end Go.Proofs.YtcinagglbkbmkaaGreatDoor
namespace Go.Proofs.YtcinagglbkbmkaaGreatDoor
set_option linter.unusedSimpArgs false
set_option linter.unusedVariables false
open Go Go.RowKit

theorem ints_reads {w : World} {P : Nat → Prop} {a : Option Addr} {cap : Nat} {l : List Int} (h : Reads w P (.seq 1 (l.map .int)) [.slice a l.length cap]) : Ints w (.slice a l.length cap) l := by
  obtain ⟨a', cap', e, hs⟩ := h.seq_inv
  simp only [List.length_map, List.cons.injEq, and_true, Value.slice.injEq] at e
  obtain ⟨rfl, -, rfl⟩ := e
  refine ⟨a, cap, rfl, fun i x hi => ?_⟩
  obtain ⟨g, o, cs, e, -, hg, hl, hc, hr⟩ := hs.at i (.int x) (by rw [List.getElem?_map, hi]; rfl)
  have e2 := hr.int_inv
  subst e2
  refine ⟨g, o, e, hg, ?_⟩
  have := hc 0 (.int .i64 x) rfl
  rw [Nat.zero_add, Nat.mul_one, Nat.add_zero] at this
  exact this
theorem ints_reads1 {w : World} {P : Nat → Prop} {l : List Int} {cs : List Value} (h : Reads w P (.seq 1 (l.map .int)) cs) : ∃ sv, cs = [sv] ∧ Ints w sv l := by
  obtain ⟨a, cap, e, hs⟩ := h.seq_inv
  rw [List.length_map] at e
  subst e
  exact ⟨_, rfl, ints_reads h⟩
/-- A manifest as a tree. -/
def manD (m : Int × List Int) : D := .obj [.int m.1, .seq 1 (m.2.map .int)]
theorem man_reads {w : World} {P : Nat → Prop} {m : Int × List Int} {cs : List Value} (h : Reads w P (manD m) cs) : ∃ sv, cs = [.int .i64 m.1, sv] ∧ Ints w sv m.2 := by
  obtain ⟨c, r, rfl, h1, h2⟩ := h.obj_inv.cons_inv
  obtain ⟨c2, r2, rfl, h3, h4⟩ := h2.cons_inv
  have := h4.nil_inv
  subst this
  have := h1.int_inv
  subst this
  obtain ⟨sv, rfl, h5⟩ := ints_reads1 h3
  exact ⟨sv, rfl, h5⟩
theorem hasT_ints : ∀ {ds : List D}, HasTe Tryz.prog 3 ds → ∃ l : List Int, ds = l.map .int
  | [], _ => ⟨[], rfl⟩
  | d :: ds, h => by
    unfold HasTe at h
    obtain ⟨n, rfl, -⟩ := h.1.int Tryz.underlying3
    obtain ⟨l, rfl⟩ := hasT_ints h.2
    exact ⟨n :: l, rfl⟩
theorem manFields : ∃ fs, Tryz.prog.underlying 24 = some (.struct fs) ∧ fs.toList.map (·.type) = [3, 22] := ⟨_, Tryz.underlying24, rfl⟩
theorem cellsInt : Tryz.prog.cellsOf 3 = 1 := by kernel_rfl
theorem hasT_man {d : D} (h : HasT Tryz.prog 24 d) : ∃ m, d = manD m ∧ m.2.length ≤ maxLen := by
  obtain ⟨fs, hu, hf⟩ := manFields
  obtain ⟨ds, rfl, ht⟩ := h.obj hu
  rw [hf] at ht
  obtain ⟨d0, r, rfl, h0, ht⟩ := ht.cons
  obtain ⟨d1, r, rfl, h1, ht⟩ := ht.cons
  have := ht.nil
  subst this
  obtain ⟨n, rfl, -⟩ := h0.int Tryz.underlying3
  obtain ⟨ds, rfl, hl, he⟩ := h1.seq Tryz.underlying22
  obtain ⟨l, rfl⟩ := hasT_ints he
  rw [cellsInt]
  exact ⟨(n, l), rfl, by simpa using hl⟩
def manTypes : List TypeId := [41, 24, 22, 3, 42, 9]
theorem manNice : niceB Tryz.prog manTypes = true := by kernel_rfl
section
set_option maxRecDepth 20000
variable {H : Type} {enc : TypeId × Value → H} {W : World} {v : Value} {x : DataW H} {ps : List MemPlace} {sp : Nat → Bool} {r : Reach} {base : Nat}
theorem manif_arg (hv : Value.okWide Tryz.prog W r base 24 v) (h : DataW.Trod enc Tryz.prog W 0 sp true 24 v x ps) : ∃ (m : Int × List Int) (sv : Value), v = .agg #[.int .i64 m.1, sv] ∧ Ints W sv m.2 ∧ m.2.length ≤ maxLen := by
  obtain ⟨fs, hu, hf⟩ := manFields
  obtain ⟨cs, rfl, -⟩ := Go.WideShapes.okWide_struct hu hv
  obtain ⟨d, hr, ht⟩ := open_arg manNice (by simp [manTypes]) h
  obtain ⟨m, rfl, hm⟩ := hasT_man ht
  have hr : Reads W (fun _ => True) (manD m) cs.toList := hr
  obtain ⟨sv, e, h1⟩ := man_reads hr
  refine ⟨m, sv, ?_, h1, hm⟩
  congr 1
  have := congrArg List.toArray e
  simpa using this
end
end Go.Proofs.YtcinagglbkbmkaaGreatDoor
namespace Go.Proofs.YtcinagglbkbmkaaGreatDoor
set_option linter.unusedSimpArgs false
set_option linter.unusedVariables false
open Go Go.RowKit
open Go.ChangeShapes Go.WideShapes Go.ChangeAt

theorem own : ownKnob Tryz.prog.godebug = none := by kernel_rfl
theorem laidOut : laidOutB Tryz.prog = true := by kernel_rfl
/-- The list that each row bears. -/
abbrev laidList : List (String × DataW Unit) := [("math/bits.deBruijn32tab", Rows.laid_math_bits_deBruijn32tab), ("math/bits.deBruijn64tab", Rows.laid_math_bits_deBruijn64tab), ("internal/strconv.uint64pow10", Rows.laid_internal_strconv_uint64pow10), ("unicode/utf8.acceptRanges", Rows.laid_unicode_utf8_acceptRanges), ("strconv.ErrRange", Rows.laid_strconv_ErrRange), ("strconv.ErrSyntax", Rows.laid_strconv_ErrSyntax), ("unicode/utf8.first", Rows.laid_unicode_utf8_first)]
theorem starES : "*" ++ "errors.errorString" = "*errors.errorString" := by decide
theorem rowES (u : TypeId) (h : Tryz.prog.typeName? 3 u = some "*errors.errorString") : u = 301 :=
  typeName_ptr_named (nm := "errors.errorString") (by rw [starES]; kernel_rfl) (by kernel_rfl) (by decide) u (by rw [starES]; exact h)
theorem cellsES : Tryz.prog.cellsOf 303 = 1 := by kernel_rfl
theorem cellsStr : Tryz.prog.cellsOf 9 = 1 := by kernel_rfl
theorem varLt {W : World} {n : String} {g : Nat} {cs : Array Value} (hg : Tryz.prog.globalNamed n = some g) (h : W.var? Tryz.prog n = some cs) : g < W.heap.size := by
  unfold World.var? at h
  rw [hg] at h
  rcases Nat.lt_or_ge g W.heap.size with h' | h'
  · exact h'
  · simp [Array.getElem?_eq_none h'] at h
set_option maxRecDepth 100000 in
theorem env_of {W : World} (hL : laidMet Tryz.prog laidList W) (hS : W.ShapedOpen Tryz.prog) : MEnv W.heap.size W := by
  have h1 : Lib.TabIs Tryz.prog W "internal/strconv.uint64pow10" .u64 Lib.pow10Tab :=
    Lib.tabIs_of_head (g := 2) (by kernel_rfl) (by kernel_rfl) Tryz.underlying296 Tryz.underlying270 (by kernel_rfl) (by kernel_rfl) (show laidMet Tryz.prog (("internal/strconv.uint64pow10", Lib.tabData .u64 Lib.pow10Tab) :: _) W from hL.tail.tail)
  obtain ⟨a0, s0, hv0, -, -, -⟩ := laid_sentinel hL.tail.tail.tail.tail (g := 1) (by kernel_rfl) (by kernel_rfl) Tryz.underlying137 rowES Tryz.underlying301 Tryz.underlying303 rfl rfl Tryz.underlying9 cellsES cellsStr
  obtain ⟨a1, s1, hv1, -, -, -⟩ := laid_sentinel hL.tail.tail.tail.tail.tail (g := 0) (by kernel_rfl) (by kernel_rfl) Tryz.underlying137 rowES Tryz.underlying301 Tryz.underlying303 rfl rfl Tryz.underlying9 cellsES cellsStr
  have hm : ∃ m, W.cell? ⟨3, 0, none⟩ = some (.int .i64 m) := cell_of_shapedOpen_int (zero := #[.int .i64 0]) (t := 3) hS (of_decide_eq_true (by kernel_rfl)) (by kernel_rfl) rfl (by kernel_rfl) (by kernel_rfl) Tryz.underlying3
  obtain ⟨m, hm'⟩ := hm
  exact ⟨⟨h1, ⟨_, _, hv0⟩, ⟨_, _, hv1⟩, varLt (by kernel_rfl) h1, varLt (by kernel_rfl) hv0, varLt (by kernel_rfl) hv1⟩, ⟨m, hm'⟩, cellLt hm'⟩

abbrev synS : ByteArray := { data := #[105, 110, 118, 97, 108, 105, 100, 32, 115, 121, 110, 116, 97, 120] }
abbrev rngS : ByteArray := { data := #[118, 97, 108, 117, 101, 32, 111, 117, 116, 32, 111, 102, 32, 114, 97, 110, 103, 101] }
/-- So many blocks has the settled world. -/
noncomputable def low : Nat := (World.holding Tryz.prog default ⟨#[], #[], []⟩).heap.size
def tab32 : List Int := [0, 1, 28, 2, 29, 14, 24, 3, 30, 22, 20, 15, 25, 17, 4, 8, 31, 27, 13, 23, 21, 19, 16, 7, 26, 12, 18, 6, 11, 5, 10, 9]
def tab64 : List Int := [0, 1, 56, 2, 57, 49, 28, 3, 61, 58, 42, 50, 38, 29, 17, 4, 62, 47, 59, 36, 45, 43, 51, 22, 53, 39, 33, 30, 24, 18, 12, 5, 63, 55, 48, 27, 60, 41, 37, 16, 46, 35, 44, 21, 52, 32, 23, 11, 54, 26, 40, 15, 34, 20, 31, 10, 25, 14, 19, 9, 13, 8, 7, 6]
/-- The settled world, the variables holding what their initialisers lay. -/
noncomputable def laidWorld (os : Os) : World :=
  let w0 := World.holding Tryz.prog os ⟨#[.cells #[.string synS] 303, .cells #[.string rngS] 303], #[], []⟩
  let put (h : Array Obj) (g : Nat) (cs : Array Value) : Array Obj := h.modify g fun
    | .cells _ t frozen => .cells cs t frozen
    | o => o
  let h1 := put w0.heap 0 #[.iface 301 (.pointer (some ⟨low, 0, none⟩))]
  let h2 := put h1 1 #[.iface 301 (.pointer (some ⟨low + 1, 0, none⟩))]
  let h3 := put h2 2 (Lib.pow10Tab.map fun z => Value.int .u64 z).toArray
  let h4 := put h3 6 (tab32.map fun z => Value.int .u8 z).toArray
  let h5 := put h4 7 (tab64.map fun z => Value.int .u8 z).toArray
  let h6 := put h5 4 (Lib.firstTab.map fun z => Value.int .u8 z).toArray
  let h7 := put h6 5 ((List.range 16).flatMap fun i => [Value.int .u8 (Lib.accLo i), Value.int .u8 (Lib.accHi i)]).toArray
  { w0 with heap := h7 }
theorem laid_met (os : Os) (args : Array Value) : laidMet Tryz.prog laidList ((laidWorld os).forCall (fun _ _ => 0) ⟨#[], args, []⟩).memory :=
  (LaidIn.of_run (l := laidList) [0, 1, 2, 6, 7, 4, 5, low, low + 1] 8 (by kernel_rfl) (by kernel_rfl) (by kernel_rfl) (by kernel_rfl)).met
end Go.Proofs.YtcinagglbkbmkaaGreatDoor
