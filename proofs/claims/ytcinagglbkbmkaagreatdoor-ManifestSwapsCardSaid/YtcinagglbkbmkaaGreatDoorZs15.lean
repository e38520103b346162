/-
  'ManifestSwaps', walked.
-/
import Derived.Test.YtcinagglbkbmkaaGreatDoorZs12
import Derived.Test.YtcinagglbkbmkaaGreatDoorZs14
import Derived.Test.YtcinagglbkbmkaaGreatDoorZs11
import Derived.Test.YtcinagglbkbmkaaGreatDoorZs13
namespace Go.Proofs.YtcinagglbkbmkaaGreatDoor
set_option linter.unusedSimpArgs false
set_option linter.unusedVariables false
open Go Go.RowKit
open Go.Maps Go.WideMaps

/-- The file system of this round, and a block of the caller's own. -/
structure SWorld (base B g : Nat) (w1 : World) (c : Array Value) (st : Fs.St) (V : FsV) (own : Nat → Tag) (w : World) : Prop where
  ok : FsOK base B st V own w
  bel : Below w1.heap.size w1 w
  cell : w.heap[g]? = some (.cells c 24 (0, 0))
  og : own g = .other
  wb : w1.heap.size ≤ base
  hb : base ≤ w.heap.size
  gw : w1.heap.size ≤ g
section
variable {base B g : Nat} {w1 : World} {c : Array Value} {st : Fs.St} {V : FsV} {own : Nat → Tag} {w w' : World} (h : SWorld base B g w1 c st V own w)
include h
theorem SWorld.op {st' : Fs.St} (hp : OpPost base B st' own w w') : ∃ V' own', SWorld base B g w1 c st' V' own' w' := by
  have hb := hp.below0 h.ok h.hb
  obtain ⟨V', own', h1, h2, h3⟩ := hp
  have hg := heap_lt h.cell
  exact ⟨V', own', h1, h.bel.trans (hb.mono h.wb), by rw [h3.block g hg (by rw [h.og]; simp)]; exact h.cell, (h2 g hg).trans h.og, h.wb, Nat.le_trans h.hb h3.size, h.gw⟩
theorem SWorld.below (hb : Below w.heap.size w w') : SWorld base B g w1 c st V own w' :=
  ⟨h.ok.kept (kept_below hb), h.bel.trans (hb.mono (Nat.le_trans h.wb h.hb)), by rw [hb.block g (heap_lt h.cell)]; exact h.cell, h.og, h.wb, Nat.le_trans h.hb hb.size, h.gw⟩
theorem SWorld.set (k : Nat) (v : Value) : SWorld base B g w1 (c.setIfInBounds k v) st V own (w.setCell ⟨g, k, none⟩ v) :=
  ⟨h.ok.kept ((Kept.refl _ _ _).setCell ⟨g, k, none⟩ h.og v), h.bel.setCell (p := ⟨g, k, none⟩) h.gw v, heap_set h.cell v, h.og, h.wb, by simpa [World.setCell] using h.hb, h.gw⟩
theorem SWorld.crashed {B' : Nat} {st' : Fs.St} {V' : FsV} {own' : Nat → Tag} (hok : FsOK w.heap.size B' st' V' own' w') (hb : Below w.heap.size w w') : SWorld w.heap.size B' g w1 c st' V' own' w' :=
  ⟨hok, h.bel.trans (hb.mono (Nat.le_trans h.wb h.hb)), by rw [hb.block g (heap_lt h.cell)]; exact h.cell, hok.old g (heap_lt h.cell), Nat.le_trans h.wb h.hb, hb.size, h.gw⟩
end
/-- Where the power is cut. -/
theorem cutAt (z : Int) : 0 ≤ wrap64 ((IntKind.u64.wrap z).tmod 9) ∧ wrap64 ((IntKind.u64.wrap z).tmod 9) ≤ 9 := by
  have h0 : 0 ≤ IntKind.u64.wrap z := by rw [IntKind.wrap_u64]; omega
  rw [Int.tmod_eq_emod_of_nonneg h0]
  unfold wrap64
  omega
/-- The round's manifest is in a block of its own. -/
structure SX (base B g x : Nat) (w1 : World) (c d : Array Value) (st : Fs.St) (V : FsV) (own : Nat → Tag) (w : World) : Prop extends SWorld base B g w1 c st V own w where
  cx : w.heap[x]? = some (.cells d 24 (0, 0))
  ox : own x = .other
section
variable {base B g x : Nat} {w1 : World} {c d : Array Value} {st : Fs.St} {V : FsV} {own : Nat → Tag} {w w' : World} (h : SX base B g x w1 c d st V own w)
include h
theorem SX.op {st' : Fs.St} (hp : OpPost base B st' own w w') : ∃ V' own', SX base B g x w1 c d st' V' own' w' := by
  have hb := hp.below0 h.ok h.hb
  obtain ⟨V', own', h1, h2, h3⟩ := hp
  have hg := heap_lt h.cell
  have hx := heap_lt h.cx
  exact ⟨V', own', ⟨h1, h.bel.trans (hb.mono h.wb), by rw [h3.block g hg (by rw [h.og]; simp)]; exact h.cell, (h2 g hg).trans h.og, h.wb, Nat.le_trans h.hb h3.size, h.gw⟩, by rw [h3.block x hx (by rw [h.ox]; simp)]; exact h.cx, (h2 x hx).trans h.ox⟩
theorem SX.below (hb : Below w.heap.size w w') : SX base B g x w1 c d st V own w' :=
  ⟨h.toSWorld.below hb, by rw [hb.block x (heap_lt h.cx)]; exact h.cx, h.ox⟩
theorem SX.crashed {B' : Nat} {st' : Fs.St} {V' : FsV} {own' : Nat → Tag} (hok : FsOK w.heap.size B' st' V' own' w') (hb : Below w.heap.size w w') : SX w.heap.size B' g x w1 c d st' V' own' w' :=
  ⟨h.toSWorld.crashed hok hb, by rw [hb.block x (heap_lt h.cx)]; exact h.cx, hok.old x (heap_lt h.cx)⟩
end
set_option maxHeartbeats 30000000 in
set_option maxRecDepth 100000 in
theorem manifestSwaps_any (lv pv av : Value) (ms : List (Int × List Int)) (ps : List (List Int)) (ats : List Int) (w : World) (B0 : Nat) (hE : MEnv B0 w) (hB : B0 ≤ w.heap.size) (hM : Manifs w lv ms) (hP : Intss w pv ps) (hA : Ints w av ats)
    (hm : ms.length ≤ 9223372036854775807) (hm2 : ∀ m ∈ ms, m.2.length ≤ 9223372036854775807) (hp : ps.length ≤ 9223372036854775807) (hp2 : ∀ l ∈ ps, l.length ≤ 9223372036854775807 ∧ ∀ z ∈ l, I64 z) (ha : ats.length ≤ 9223372036854775807) (ha2 : ∀ z ∈ ats, I64 z) :
    Calls Tryz.prog 5 #[lv, pv, av] w fun e w' => e = .returned (.bool true) ∧ Below w.heap.size w w' := by
  obtain ⟨la, lc, rfl⟩ := hM.form
  obtain ⟨pa, pc, rfl⟩ := hP.form
  obtain ⟨aa, ac, rfl⟩ := hA.form
  have HE := Lib.hid hE
  have HM := Lib.hid hM
  have HP := Lib.hid hP
  have HA := Lib.hid hA
  have HM2 := Lib.hid hm2
  have HP2 := Lib.hid hp2
  have HA2 := Lib.hid ha2
  clear hE hM hP hA hm2 hp2 ha2
  go_enter Tryz.func5, Tryz.ntmps5
  go_wp2_with fail
  refine (mawake_any w B0 HE.out hB).mono ?_
  rintro e w1 ⟨rfl, hb1⟩
  have HB1 := Lib.hid hb1
  have HE1 := Lib.hid (HE.out.below (hb1.mono hB))
  have hB1 := Nat.le_trans hB hb1.size
  clear hb1
  go_wp2_with fail
  refine (new_any 20000 w1).mono ?_
  rintro e w2 ⟨hb2, hres⟩
  rcases hres with ⟨h, rfl⟩ | ⟨_, rfl, V0, hok⟩
  · omega
  · have hz2 := hb2.size
    have HB2 := Lib.hid hb2
    have HEb := Lib.hid (HE1.out.mono hB1)
    have HW0 : Hid (SWorld w1.heap.size (w1.heap.size + 2) w2.heap.size w1 #[.int .i64 0, .slice none 0 0] (Fs.new 20000) V0 (tags0 w1.heap.size) (w2.alloc (.cells #[.int .i64 0, .slice none 0 0] 24))) := by
      have hbA : Below w2.heap.size w2 (w2.alloc (.cells #[.int .i64 0, .slice none 0 0] 24)) := (Below.refl _ _).alloc (Nat.le_refl _) _
      exact Lib.hid ⟨hok.kept (kept_below hbA), hb2.trans (hbA.mono hz2), heap_new _ _, hok.fresh _ (Nat.le_refl _), Nat.le_refl _, by simp; omega, hz2⟩
    have HMs := Lib.hid (HM.out.below HB1.out)
    have HPs := Lib.hid (HP.out.below HB1.out)
    have HAs := Lib.hid (HA.out.below HB1.out)
    clear hb2 hok
    go_wp2_with fail
    go_loopg [7, 10, 11] ms.length (fun k s7 s10 s11 wr => ∃ (i base B : Nat) (st : Fs.St) (V : FsV) (own : Nat → Tag) (there : Bool) (now : Int × List Int) (nv : Value), i ≤ ms.length ∧ i ≤ 10 ∧ k = ms.length - i ∧ s7 = .pointer (some ⟨B, 0, none⟩) ∧ s10 = .bool there ∧ s11 = .int .i64 (i : Nat) ∧
      SWorld base B w2.heap.size w1 #[.int .i64 now.1, nv] st V own wr ∧ Fs.SwapInv st there now ∧ Ints w1 nv now.2)
    case atStart => exact ⟨0, _, _, _, _, _, false, (0, []), _, Nat.zero_le _, by omega, rfl, rfl, rfl, rfl, HW0.out, Fs.SwapInv.new, ⟨none, 0, rfl, fun i x h => by simp at h⟩⟩
    case round =>
      obtain ⟨i, base, B, st, V, own, there, now, nv, hi, hi10, hk, rfl, rfl, rfl, hsw, hinv, hnv⟩ := hrel
      have HK := Lib.hid hk
      have HW := Lib.hid hsw
      have HI := Lib.hid hinv
      have HNV := Lib.hid hnv
      clear hk hsw hinv hnv
      have hi0 : (0 : Int) ≤ (i : Int) := Int.natCast_nonneg _
      by_cases hin : i < ms.length ∧ i < 10
      · obtain ⟨hin1, hin2⟩ := hin
        have hin1' : (i : Int) < (ms.length : Int) := by omega
        have hin2' : (i : Int) < 10 := by omega
        obtain ⟨m, hmi⟩ : ∃ m, ms[i]? = some m := ⟨_, List.getElem?_eq_getElem hin1⟩
        obtain ⟨b, off, sv, rfl, hb, c0, c1, hsv⟩ := HMs.out.at hmi
        have hml := HM2.out m (List.mem_of_getElem? hmi)
        obtain ⟨sa, sc, rfl⟩ := hsv.form
        have hb' : b < w1.heap.size := hb
        have d0 : wr.cell? ⟨b, off + i * 2, none⟩ = some (.int .i64 m.1) := by rw [HW.out.bel.cell hb]; exact c0
        have d1 : wr.cell? ⟨b, off + i * 2 + 1, none⟩ = some (.slice sa m.2.length sc) := by rw [HW.out.bel.cell hb]; exact c1
        have HSV := Lib.hid hsv
        have hbA : Below wr.heap.size wr (wr.alloc (.cells #[.int .i64 m.1, .slice sa m.2.length sc] 24)) := (Below.refl _ _).alloc (Nat.le_refl _) _
        have hx := heap_new wr (.cells #[.int .i64 m.1, .slice sa m.2.length sc] 24)
        have HWA : Hid (SX base B w2.heap.size wr.heap.size w1 #[.int .i64 now.1, nv] #[.int .i64 m.1, .slice sa m.2.length sc] st V own (wr.alloc (.cells #[.int .i64 m.1, .slice sa m.2.length sc] 24))) := Lib.hid ⟨HW.out.below hbA, hx, HW.out.ok.fresh _ (Nat.le_refl _)⟩
        have y0 := root_cell hx 0 _ rfl
        have y1 := root_cell hx 1 _ rfl
        clear hmi c0 c1 hsv hbA hx
        go_wp2_with fail
        refine (check_all m.1 _ m.2 _ (HSV.out.below HWA.out.bel) hml).mono ?_
        rintro e w3 ⟨rfl, hb3⟩
        have H3 := Lib.hid (HWA.out.below hb3)
        clear hb3 y0 y1 d0 d1
        cases hg : Mf.good m.1 m.2
        · have HC : Hid (Mf.chk m.1 m.2 = 1) := by unfold Mf.chk; rw [hg]; exact Lib.hid rfl
          rw [HC.out]
          clear hg HC
          go_wp2_with fail
          go_roundg (ms.length - (i + 1))
          case measure => rw [HK.out]; omega
          case rel => exact ⟨i + 1, base, B, st, V, own, there, now, nv, by omega, by omega, rfl, rfl, rfl, by simp, H3.out.toSWorld, HI.out, HNV.out⟩
        · have HC : Hid (Mf.chk m.1 m.2 = 0) := by unfold Mf.chk; rw [hg]; exact Lib.hid rfl
          have HG := Lib.hid hg
          have hl33 := (Mf.good_out hg).2.1
          rw [HC.out]
          clear hg HC
          by_cases hat : i < ats.length
          · have hat' : (i : Int) < (ats.length : Int) := by omega
            obtain ⟨z, hz⟩ : ∃ z, ats[i]? = some z := ⟨_, List.getElem?_eq_getElem hat⟩
            obtain ⟨ab, aof, rfl, hab, hac⟩ := HAs.out.at hz
            have HZ := Lib.hid (HA2.out z (List.mem_of_getElem? hz))
            have a0 : w3.cell? ⟨ab, aof + i, none⟩ = some (.int .i64 z) := by rw [H3.out.bel.cell hab]; exact hac
            clear hz hac
            by_cases hpl : i < ps.length
            · have hpl' : (i : Int) < (ps.length : Int) := by omega
              obtain ⟨p, hpi⟩ : ∃ p, ps[i]? = some p := ⟨_, List.getElem?_eq_getElem hpl⟩
              obtain ⟨pb, pof, qv, rfl, hpb, pc0, hqv⟩ := HPs.out.at hpi
              obtain ⟨hp20, hpz⟩ := HP2.out p (List.mem_of_getElem? hpi)
              obtain ⟨qa, qc, rfl⟩ := hqv.form
              have p0 : w3.cell? ⟨pb, pof + i, none⟩ = some (.slice qa p.length qc) := by rw [H3.out.bel.cell hpb]; exact pc0
              have HQV := Lib.hid hqv
              have HPZ := Lib.hid hpz
              have hq0 : (0 : Int) ≤ (p.length : Int) := Int.natCast_nonneg _
              clear hpi pc0 hqv hpz
              by_cases hp : p.length ≤ 20
              · have hp' : (p.length : Int) ≤ 20 := by omega
                go_wp2_with fail
                refine wp_region_phase (fun w' => w'.cell? ⟨pb, pof + i, none⟩ = some (.slice qa p.length qc)) 8 (by kernel_rfl) ?_
                have hS : w3.drew.cell? ⟨pb, pof + i, none⟩ = some (.slice qa p.length qc) := p0
                refine wpAnyB_take (i := 0) (v := (.pointer (some ⟨B, 0, none⟩))) (by kernel_rfl) (by decide) rfl (by kernel_rfl) (by kernel_rfl) (by kernel_rfl) (fun _ _ _ h => h) (Or.inl ⟨by rfl, fun w hSw => by go_simp⟩) hS ?_; simp only [Act.put, Array.getInternal_eq_getElem, List.getElem_toArray, List.getElem_cons_zero, List.getElem_cons_succ, List.setIfInBounds_toArray, List.set_cons_zero, List.set_cons_succ]
                refine wpAnyB_take (i := 1) (v := (.pointer (some ⟨B, 0, none⟩))) (by kernel_rfl) (by decide) rfl (by kernel_rfl) (by kernel_rfl) (by kernel_rfl) (fun _ _ _ h => h) (Or.inl ⟨by rfl, fun w hSw => by go_simp⟩) hS ?_; simp only [Act.put, Array.getInternal_eq_getElem, List.getElem_toArray, List.getElem_cons_zero, List.getElem_cons_succ, List.setIfInBounds_toArray, List.set_cons_zero, List.set_cons_succ]
                refine wpAnyB_take (i := 2) (v := (.pointer (some ⟨B, 0, none⟩))) (by kernel_rfl) (by decide) rfl (by kernel_rfl) (by kernel_rfl) (by kernel_rfl) (fun _ _ _ h => h) (Or.inl ⟨by rfl, fun w hSw => by go_simp⟩) hS ?_; simp only [Act.put, Array.getInternal_eq_getElem, List.getElem_toArray, List.getElem_cons_zero, List.getElem_cons_succ, List.setIfInBounds_toArray, List.set_cons_zero, List.set_cons_succ]
                refine wpAnyB_take (i := 3) (v := (.slice (some ⟨pb, pof, none⟩) ps.length pc)) (by kernel_rfl) (by decide) rfl (by kernel_rfl) (by kernel_rfl) (by kernel_rfl) (fun _ _ _ h => h) (Or.inl ⟨by rfl, fun w hSw => by go_simp⟩) hS ?_; simp only [Act.put, Array.getInternal_eq_getElem, List.getElem_toArray, List.getElem_cons_zero, List.getElem_cons_succ, List.setIfInBounds_toArray, List.set_cons_zero, List.set_cons_succ]
                refine wpAnyB_take (i := 4) (v := (.int .i64 (i : Nat))) (by kernel_rfl) (by decide) rfl (by kernel_rfl) (by kernel_rfl) (by kernel_rfl) (fun _ _ _ h => h) (Or.inl ⟨by rfl, fun w hSw => by go_simp⟩) hS ?_; simp only [Act.put, Array.getInternal_eq_getElem, List.getElem_toArray, List.getElem_cons_zero, List.getElem_cons_succ, List.setIfInBounds_toArray, List.set_cons_zero, List.set_cons_succ]
                refine wpAnyB_take (i := 5) (v := (.pointer (some ⟨pb, pof + i, none⟩))) (by kernel_rfl) (by decide) rfl (by kernel_rfl) (by kernel_rfl) (by kernel_rfl) (fun _ _ _ h => h) (Or.inl ⟨by rfl, fun w hSw => by go_simp⟩) hS ?_; simp only [Act.put, Array.getInternal_eq_getElem, List.getElem_toArray, List.getElem_cons_zero, List.getElem_cons_succ, List.setIfInBounds_toArray, List.set_cons_zero, List.set_cons_succ]
                refine wpAnyB_take (i := 6) (v := (.slice qa p.length qc)) (by kernel_rfl) (by decide) rfl (by kernel_rfl) (by kernel_rfl) (by kernel_rfl) (fun _ _ _ h => h) (Or.inl ⟨by rfl, fun w hSw => by go_simp⟩) hS ?_; simp only [Act.put, Array.getInternal_eq_getElem, List.getElem_toArray, List.getElem_cons_zero, List.getElem_cons_succ, List.setIfInBounds_toArray, List.set_cons_zero, List.set_cons_succ]
                refine wpAnyB_one (i := 7) (by kernel_rfl) ?_
                refine wpOp_intro (by decide) (fun K5 HK5 => ?_); simp only [List.drop_succ_cons, List.drop_zero, List.take_succ_cons, List.take_zero]
                go_wp2_with fail
                have hbd : Below w3.heap.size w3 w3.drew := Below.drew (Below.refl _ _)
                refine (plan_any base B st V own _ p w3.drew (H3.out.below hbd).ok (HQV.out.below (H3.out.below hbd).bel) (by omega)).mono ?_
                rintro e w4 ⟨rfl, hp4⟩
                obtain ⟨V4, own4, h4⟩ := (H3.out.below hbd).op hp4
                have HS := Lib.hid h4
                have HARM : Hid (∀ n, 0 ≤ n → Fs.arm (Fs.planned st p) n = (Fs.powered st p n, 0)) := Lib.hid fun n hn => (HI.out.arm p hn).1
                have p4 : w4.cell? ⟨pb, pof + i, none⟩ = some (.slice qa p.length qc) := by rw [← p0]; exact World.cell?_of_block ((h4.bel.block pb hpb).trans (H3.out.bel.block pb hpb).symm)
                clear hp4 h4
                go_wp2_with fail
                refine HK5.out _ _ ⟨fun _ => p4, ?_⟩
                clear HK5 hS
                refine wpAnyB_done (by kernel_rfl) ?_ _
                obtain ⟨pl, hpl2⟩ : ∃ x, x = p := ⟨_, rfl⟩
                rw [← hpl2] at HS HARM HPZ
                have harg : 0 ≤ wrap64 ((IntKind.u64.wrap z).tmod 9) ∧ wrap64 ((IntKind.u64.wrap z).tmod 9) ≤ 9 := by first | exact cutAt _ | decide
                obtain ⟨hz0, hz9⟩ := harg
                go_wp2_with fail
                refine (arm_any base B _ _ _ (wrap64 ((IntKind.u64.wrap z).tmod 9)) _ HS.out.ok (by omega)).mono ?_
                rintro e w5 ⟨rfl, hp5⟩
                rw [HARM.out _ hz0] at hp5 ⊢
                obtain ⟨pn, hpn⟩ : ∃ x, x = wrap64 ((IntKind.u64.wrap z).tmod 9) := ⟨_, rfl⟩
                rw [← hpn] at hp5
                clear hpn hz0 hz9
                obtain ⟨V5, own5, h5⟩ := HS.out.op hp5
                have H5 := Lib.hid h5
                have z0 := root_cell h5.cx 0 _ rfl
                have z1 := root_cell h5.cx 1 _ rfl
                clear hp5 h5
                go_wp2_with fail
                refine (save_any base B _ V5 own5 m.1 _ m.2 w5 H5.out.ok ((HEb.out.below H5.out.bel).mono H5.out.wb).sg H5.out.hb 2 (HI.out.sound pl pn) (by omega) (fun z hz => (HPZ.out z hz).2) (HSV.out.below H5.out.bel) (by omega)).mono ?_
                rintro e w6 ⟨rfl, hp6⟩
                obtain ⟨V6, own6, h6⟩ := H5.out.op hp6
                obtain ⟨hs14, hroom, hrnd⟩ := HI.out.round pl (fun z hz => (HPZ.out z hz).2) pn HG.out (z.tmod 5) [(z.tmod 7), (z.tmod 30), (z.tmod 40)]
                obtain ⟨E, hE⟩ : ∃ E, E = (Mf.save (Fs.powered st pl pn) m.1 m.2).2 := ⟨_, rfl⟩
                obtain ⟨st6, hst6⟩ : ∃ x, x = (Mf.save (Fs.powered st pl pn) m.1 m.2).1 := ⟨_, rfl⟩
                rw [← hE] at hrnd ⊢
                rw [← hst6] at h6 hs14 hroom hrnd
                have H6 := Lib.hid h6
                have HS14 := Lib.hid hs14
                have HRM := Lib.hid hroom
                have HRND := Lib.hid hrnd
                clear hp6 h6 hE hst6 hs14 hroom hrnd z0 z1
                go_wp2_with fail
                have hbT : Below w6.heap.size w6 (w6.alloc (.cells #[.int .i64 ((z.tmod 7)), .int .i64 ((z.tmod 30)), .int .i64 ((z.tmod 40))] 3)) := (Below.refl _ _).alloc (Nat.le_refl _) _
                have HT6 := Lib.hid (H6.out.below hbT)
                have HTN : Hid (Ints (w6.alloc (.cells #[.int .i64 ((z.tmod 7)), .int .i64 ((z.tmod 30)), .int .i64 ((z.tmod 40))] 3)) (.slice (some ⟨w6.heap.size, 0, none⟩) 3 3) [(z.tmod 7), (z.tmod 30), (z.tmod 40)]) :=
                  Lib.hid (OwnI.nums (base := w6.heap.size) (World.ownsRow_lit (base := w6.heap.size) (e := 3) (size := 1) w6 #[.int .i64 ((z.tmod 7)), .int .i64 ((z.tmod 30)), .int .i64 ((z.tmod 40))] 3 (Nat.le_refl _) (by unfold maxLen; omega) rfl))
                clear hbT
                refine (crash_any base B st6 V6 own6 ((z.tmod 5)) _ [(z.tmod 7), (z.tmod 30), (z.tmod 40)] _ HT6.out.ok HT6.out.hb 14 HS14.out (by omega) HTN.out (by simp) (by rw [HRM.out]; omega)).mono ?_
                rintro e w7 ⟨B7, V7, own7, rfl, hok7, hb7⟩
                obtain ⟨st7, hst7⟩ : ∃ x, x = Fs.crash st6 ((z.tmod 5)) [(z.tmod 7), (z.tmod 30), (z.tmod 40)] := ⟨_, rfl⟩
                obtain ⟨hs7, hr7⟩ := HRND.out st7 hst7
                rw [← hst7] at hok7
                have H7 := Lib.hid (HT6.out.crashed hok7 hb7)
                obtain ⟨b7, hb7e⟩ : ∃ x, x = (w6.alloc (.cells #[.int .i64 ((z.tmod 7)), .int .i64 ((z.tmod 30)), .int .i64 ((z.tmod 40))] 3)).heap.size := ⟨_, rfl⟩
                rw [← hb7e] at H7
                have HS7 := Lib.hid hs7
                have HR7 := Lib.hid hr7
                clear hst7 hok7 hb7 hb7e hs7 hr7
                go_wp2_with fail
                refine (load_any b7 B7 st7 V7 own7 w7 H7.out.ok ((HEb.out.below H7.out.bel).mono H7.out.wb) H7.out.hb 14 HS7.out).mono ?_
                rintro e w8 ⟨hb8, sv8, rfl, hoi8⟩
                have H8 := Lib.hid (H7.out.below hb8)
                obtain ⟨Lx, hLx⟩ : ∃ x, x = Mf.load st7 := ⟨_, rfl⟩
                rw [← hLx] at hoi8 ⊢
                obtain ⟨sva, svn, svc, hsv, HSVN⟩ := OwnI.form3 hoi8
                subst hsv
                have HOI8 := Lib.hid hoi8
                have HLX := Lib.hid hLx
                clear hb8 hoi8 hLx
                have hR := HR7.out
                rw [← HLX.out] at hR
                rcases hR with ⟨hL, hinv7⟩ | ⟨hEn, hinv7, hL⟩
                · have HL := Lib.hid hL
                  have HI7 := Lib.hid hinv7
                  clear hL hinv7
                  rw [HL.out]
                  have hlb : m.2.length ≤ 1000000000 := by omega
                  have hbb : decide (m.1 = m.1 ∧ m.2 = m.2) = true := decide_eq_true ⟨rfl, rfl⟩
                  have hbA : Below w8.heap.size w8 (w8.alloc (.cells #[.int .i64 m.1, .slice sva svn svc] 24)) := (Below.refl _ _).alloc (Nat.le_refl _) _
                  have H8A := Lib.hid (H8.out.below hbA)
                  have HNA : Hid (Nums (w8.alloc (.cells #[.int .i64 m.1, .slice sva svn svc] 24)) (.slice sva svn svc) m.2) := Lib.hid (by have := (HOI8.out.keep hbA).nums; rw [show Lx.1.2 = m.2 by first | rw [HL2.out] | rw [HL.out]] at this; exact this)
                  have HNM : Hid (Ints (w8.alloc (.cells #[.int .i64 m.1, .slice sva svn svc] 24)) (.slice sa m.2.length sc) m.2) := Lib.hid (HSV.out.below H8A.out.bel)
                  have hg3 := heap_new w8 (.cells #[.int .i64 m.1, .slice sva svn svc] 24)
                  have x0 := fun x => Later.cell (root_cell hg3 0 _ rfl : (w8.alloc (.cells #[.int .i64 m.1, .slice sva svn svc] 24)).cell? ⟨w8.heap.size, 0, none⟩ = some (.int .i64 m.1)) x
                  have x1 := fun x => Later.cell (root_cell hg3 1 _ rfl : (w8.alloc (.cells #[.int .i64 m.1, .slice sva svn svc] 24)).cell? ⟨w8.heap.size, 1, none⟩ = some (.slice sva svn svc)) x
                  have x2 := fun x => Later.cell (root_cell H8A.out.cx 0 _ rfl : (w8.alloc (.cells #[.int .i64 m.1, .slice sva svn svc] 24)).cell? ⟨wr.heap.size, 0, none⟩ = some (.int .i64 m.1)) x
                  have x3 := fun x => Later.cell (root_cell H8A.out.cx 1 _ rfl : (w8.alloc (.cells #[.int .i64 m.1, .slice sva svn svc] 24)).cell? ⟨wr.heap.size, 1, none⟩ = some (.slice sa m.2.length sc)) x
                  have HREF : Hid (∀ x : Later (w8.alloc (.cells #[.int .i64 m.1, .slice sva svn svc] 24)), Calls Tryz.prog 16 #[.agg #[.int .i64 m.1, .slice sa m.2.length sc]] x.1 fun e w' => e = .returned (.agg #[.int .i64 m.1, .slice sa m.2.length sc]) ∧ Below x.1.heap.size x.1 w') :=
                    Lib.hid fun x => lref_any _ _ _ _ _
                  have HSAME : Hid (∀ x : Later (w8.alloc (.cells #[.int .i64 m.1, .slice sva svn svc] 24)), Calls Tryz.prog 20 #[.agg #[.int .i64 m.1, .slice sva svn svc], .agg #[.int .i64 m.1, .slice sa m.2.length sc]] x.1 fun e w' => e = .returned (.bool true) ∧ Below x.1.heap.size x.1 w') :=
                    Lib.hid fun x => (lsame_any m.1 m.1 _ _ m.2 m.2 _ (HNA.out.below x.2) (HNM.out.below x.2) hlb (by omega)).mono (by rintro e w' ⟨rfl, hb⟩; exact ⟨by rw [hbb], hb⟩)
                  clear hg3 hbA
                  go_wp2_with fail
                  refine wp_region_later (by kernel_rfl) (by kernel_rfl) ?_
                  repeat (go_big_quiet_step ((first | (with_reducible exact Later.call (v := .agg #[.int .i64 m.1, .slice sa m.2.length sc]) (HREF.out _)) | (with_reducible exact Later.call (v := .bool true) (HSAME.out _)))))
                  refine wpQuiet_nil ?_; rintro w9 ⟨⟨_, hb9⟩, rfl⟩
                  have H9 := Lib.hid (H8A.out.below hb9)
                  clear x0 x1 x2 x3
                  have q0 := root_frozen H9.out.cell 0
                  have q1 := root_frozen H9.out.cell 1
                  have r0 : w9.cell? ⟨w2.heap.size, 0, none⟩ = some (.int .i64 now.1) := root_cell H9.out.cell 0 _ rfl
                  have r1 : w9.cell? ⟨w2.heap.size, 1, none⟩ = some nv := root_cell H9.out.cell 1 _ rfl
                  have s0 : w9.cell? ⟨wr.heap.size, 0, none⟩ = some (.int .i64 m.1) := root_cell H9.out.cx 0 _ rfl
                  have s1 : w9.cell? ⟨wr.heap.size, 1, none⟩ = some (.slice sa m.2.length sc) := root_cell H9.out.cx 1 _ rfl
                  clear hb9
                  go_wp2_with fail
                  go_roundg (ms.length - (i + 1))
                  case measure => rw [HK.out]; omega
                  case rel => exact ⟨i + 1, b7, B7, st7, V7, own7, true, (m.1, m.2), .slice sa m.2.length sc, by omega, by omega, rfl, rfl, rfl, by simp, (H9.out.toSWorld.set 0 (.int .i64 m.1)).set 1 (.slice sa m.2.length sc), HI7.out, HSV.out⟩
                · have HL := Lib.hid hL
                  have HI7 := Lib.hid hinv7
                  have hte : (E == 0) = false := by rw [beq_eq_false_iff_ne]; exact hEn
                  clear hL hinv7 hEn
                  cases there
                  · have HL2 : Hid (Lx = ((0, []), 3)) := Lib.hid (by rw [HL.out]; rfl)
                    rw [HL2.out]
                    have H8A := Lib.hid (H8.out.below ((Below.refl _ _).alloc (Nat.le_refl _) (.cells #[.int .i64 0, .slice sva svn svc] 24)))
                    go_wp2_with fail
                    refine wp_region_cuts [] (by kernel_rfl) (by kernel_rfl) ?_; simp only [wpMix, List.take_succ_cons, List.take_zero, List.drop_succ_cons, List.drop_zero, Nat.sub_zero, Nat.reduceSub, Nat.reduceAdd]
                    repeat (go_big_quiet_step (fail))
                    refine wpQuiet_nil ?_; rintro _ ⟨nq, rfl⟩
                    go_wp2_with fail
                    refine wp_region_cuts [] (by kernel_rfl) (by kernel_rfl) ?_; simp only [wpMix, List.take_succ_cons, List.take_zero, List.drop_succ_cons, List.drop_zero, Nat.sub_zero, Nat.reduceSub, Nat.reduceAdd]
                    repeat (go_big_quiet_step (fail))
                    refine wpQuiet_nil ?_; rintro _ ⟨nq, rfl⟩
                    go_wp2_with fail
                    go_roundg (ms.length - (i + 1))
                    case measure => rw [HK.out]; omega
                    case rel => exact ⟨i + 1, b7, B7, st7, V7, own7, false, now, nv, by omega, by omega, rfl, rfl, rfl, by simp, (H8A.out.below (Below.drewN (Below.refl _ _) _)).toSWorld, HI7.out, HNV.out⟩
                  · have HL2 : Hid (Lx = (now, 0)) := Lib.hid (by rw [HL.out]; rfl)
                    rw [HL2.out]
                    have hlb : now.2.length ≤ 1000000000 := by have := (Mf.good_out (HI.out.gd rfl)).2.1; omega
                    cases hbb : decide (now.1 = m.1 ∧ now.2 = m.2)
                    · skip
                      have hbA : Below w8.heap.size w8 (w8.alloc (.cells #[.int .i64 now.1, .slice sva svn svc] 24)) := (Below.refl _ _).alloc (Nat.le_refl _) _
                      have H8A := Lib.hid (H8.out.below hbA)
                      have HNA : Hid (Nums (w8.alloc (.cells #[.int .i64 now.1, .slice sva svn svc] 24)) (.slice sva svn svc) now.2) := Lib.hid (by have := (HOI8.out.keep hbA).nums; rw [show Lx.1.2 = now.2 by first | rw [HL2.out] | rw [HL.out]] at this; exact this)
                      have HNM : Hid (Ints (w8.alloc (.cells #[.int .i64 now.1, .slice sva svn svc] 24)) (.slice sa m.2.length sc) m.2) := Lib.hid (HSV.out.below H8A.out.bel)
                      have hg3 := heap_new w8 (.cells #[.int .i64 now.1, .slice sva svn svc] 24)
                      have x0 := fun x => Later.cell (root_cell hg3 0 _ rfl : (w8.alloc (.cells #[.int .i64 now.1, .slice sva svn svc] 24)).cell? ⟨w8.heap.size, 0, none⟩ = some (.int .i64 now.1)) x
                      have x1 := fun x => Later.cell (root_cell hg3 1 _ rfl : (w8.alloc (.cells #[.int .i64 now.1, .slice sva svn svc] 24)).cell? ⟨w8.heap.size, 1, none⟩ = some (.slice sva svn svc)) x
                      have x2 := fun x => Later.cell (root_cell H8A.out.cx 0 _ rfl : (w8.alloc (.cells #[.int .i64 now.1, .slice sva svn svc] 24)).cell? ⟨wr.heap.size, 0, none⟩ = some (.int .i64 m.1)) x
                      have x3 := fun x => Later.cell (root_cell H8A.out.cx 1 _ rfl : (w8.alloc (.cells #[.int .i64 now.1, .slice sva svn svc] 24)).cell? ⟨wr.heap.size, 1, none⟩ = some (.slice sa m.2.length sc)) x
                      have HREF : Hid (∀ x : Later (w8.alloc (.cells #[.int .i64 now.1, .slice sva svn svc] 24)), Calls Tryz.prog 16 #[.agg #[.int .i64 m.1, .slice sa m.2.length sc]] x.1 fun e w' => e = .returned (.agg #[.int .i64 m.1, .slice sa m.2.length sc]) ∧ Below x.1.heap.size x.1 w') :=
                        Lib.hid fun x => lref_any _ _ _ _ _
                      have HSAME : Hid (∀ x : Later (w8.alloc (.cells #[.int .i64 now.1, .slice sva svn svc] 24)), Calls Tryz.prog 20 #[.agg #[.int .i64 now.1, .slice sva svn svc], .agg #[.int .i64 m.1, .slice sa m.2.length sc]] x.1 fun e w' => e = .returned (.bool false) ∧ Below x.1.heap.size x.1 w') :=
                        Lib.hid fun x => (lsame_any now.1 m.1 _ _ now.2 m.2 _ (HNA.out.below x.2) (HNM.out.below x.2) hlb (by omega)).mono (by rintro e w' ⟨rfl, hb⟩; exact ⟨by rw [hbb], hb⟩)
                      clear hg3 hbA
                      go_wp2_with fail
                      refine wp_region_later (by kernel_rfl) (by kernel_rfl) ?_
                      repeat (go_big_quiet_step ((first | (with_reducible exact Later.call (v := .agg #[.int .i64 m.1, .slice sa m.2.length sc]) (HREF.out _)) | (with_reducible exact Later.call (v := .bool false) (HSAME.out _)))))
                      refine wpQuiet_nil ?_; rintro w9 ⟨⟨_, hb9⟩, rfl⟩
                      have H9 := Lib.hid (H8A.out.below hb9)
                      clear x0 x1 x2 x3
                      have HN9 : Hid (Ints w9 nv now.2) := Lib.hid (HNV.out.below H9.out.bel)
                      have u0 := fun x => Later.cell (root_cell H9.out.cell 0 _ rfl : w9.cell? ⟨w2.heap.size, 0, none⟩ = some (.int .i64 now.1)) x
                      have u1 := fun x => Later.cell (root_cell H9.out.cell 1 _ rfl : w9.cell? ⟨w2.heap.size, 1, none⟩ = some nv) x
                      have hv0 := (hb9.block _ (by simp)).trans (heap_new w8 (.cells #[.int .i64 now.1, .slice sva svn svc] 24))
                      have v0 := fun x => Later.cell (root_cell hv0 0 _ rfl : w9.cell? ⟨w8.heap.size, 0, none⟩ = some (.int .i64 now.1)) x
                      have v1 := fun x => Later.cell (root_cell hv0 1 _ rfl : w9.cell? ⟨w8.heap.size, 1, none⟩ = some (.slice sva svn svc)) x
                      obtain ⟨na, nc, rfl⟩ := HNV.out.form
                      have HREF2 : Hid (∀ x : Later w9, Calls Tryz.prog 16 #[.agg #[.int .i64 now.1, .slice na now.2.length nc]] x.1 fun e w' => e = .returned (.agg #[.int .i64 now.1, .slice na now.2.length nc]) ∧ Below x.1.heap.size x.1 w') :=
                        Lib.hid fun x => lref_any _ _ _ _ _
                      have HSAME2 : Hid (∀ x : Later w9, Calls Tryz.prog 20 #[.agg #[.int .i64 now.1, .slice sva svn svc], .agg #[.int .i64 now.1, .slice na now.2.length nc]] x.1 fun e w' => e = .returned (.bool true) ∧ Below x.1.heap.size x.1 w') :=
                        Lib.hid fun x => (lsame_any now.1 now.1 _ _ now.2 now.2 _ ((HNA.out.below hb9).below x.2) (HN9.out.below x.2) hlb hlb).mono (by rintro e w' ⟨rfl, hb⟩; exact ⟨by rw [decide_eq_true ⟨rfl, rfl⟩], hb⟩)
                      clear hb9 hv0
                      go_wp2_with fail
                      refine wp_region_later (by kernel_rfl) (by kernel_rfl) ?_
                      repeat (go_big_quiet_step ((first | (with_reducible exact Later.call (v := .agg #[.int .i64 now.1, .slice na now.2.length nc]) (HREF2.out _)) | (with_reducible exact Later.call (v := .bool true) (HSAME2.out _)))))
                      refine wpQuiet_nil ?_; rintro w10 ⟨⟨_, hb10⟩, rfl⟩
                      have H10 := Lib.hid (H9.out.below hb10)
                      clear hb10 u0 u1 v0 v1
                      go_wp2_with fail
                      go_roundg (ms.length - (i + 1))
                      case measure => rw [HK.out]; omega
                      case rel => exact ⟨i + 1, b7, B7, st7, V7, own7, true, now, _, by omega, by omega, rfl, rfl, rfl, by simp, H10.out.toSWorld, HI7.out, HNV.out⟩
                    · skip
                      have hbA : Below w8.heap.size w8 (w8.alloc (.cells #[.int .i64 now.1, .slice sva svn svc] 24)) := (Below.refl _ _).alloc (Nat.le_refl _) _
                      have H8A := Lib.hid (H8.out.below hbA)
                      have HNA : Hid (Nums (w8.alloc (.cells #[.int .i64 now.1, .slice sva svn svc] 24)) (.slice sva svn svc) now.2) := Lib.hid (by have := (HOI8.out.keep hbA).nums; rw [show Lx.1.2 = now.2 by first | rw [HL2.out] | rw [HL.out]] at this; exact this)
                      have HNM : Hid (Ints (w8.alloc (.cells #[.int .i64 now.1, .slice sva svn svc] 24)) (.slice sa m.2.length sc) m.2) := Lib.hid (HSV.out.below H8A.out.bel)
                      have hg3 := heap_new w8 (.cells #[.int .i64 now.1, .slice sva svn svc] 24)
                      have x0 := fun x => Later.cell (root_cell hg3 0 _ rfl : (w8.alloc (.cells #[.int .i64 now.1, .slice sva svn svc] 24)).cell? ⟨w8.heap.size, 0, none⟩ = some (.int .i64 now.1)) x
                      have x1 := fun x => Later.cell (root_cell hg3 1 _ rfl : (w8.alloc (.cells #[.int .i64 now.1, .slice sva svn svc] 24)).cell? ⟨w8.heap.size, 1, none⟩ = some (.slice sva svn svc)) x
                      have x2 := fun x => Later.cell (root_cell H8A.out.cx 0 _ rfl : (w8.alloc (.cells #[.int .i64 now.1, .slice sva svn svc] 24)).cell? ⟨wr.heap.size, 0, none⟩ = some (.int .i64 m.1)) x
                      have x3 := fun x => Later.cell (root_cell H8A.out.cx 1 _ rfl : (w8.alloc (.cells #[.int .i64 now.1, .slice sva svn svc] 24)).cell? ⟨wr.heap.size, 1, none⟩ = some (.slice sa m.2.length sc)) x
                      have HREF : Hid (∀ x : Later (w8.alloc (.cells #[.int .i64 now.1, .slice sva svn svc] 24)), Calls Tryz.prog 16 #[.agg #[.int .i64 m.1, .slice sa m.2.length sc]] x.1 fun e w' => e = .returned (.agg #[.int .i64 m.1, .slice sa m.2.length sc]) ∧ Below x.1.heap.size x.1 w') :=
                        Lib.hid fun x => lref_any _ _ _ _ _
                      have HSAME : Hid (∀ x : Later (w8.alloc (.cells #[.int .i64 now.1, .slice sva svn svc] 24)), Calls Tryz.prog 20 #[.agg #[.int .i64 now.1, .slice sva svn svc], .agg #[.int .i64 m.1, .slice sa m.2.length sc]] x.1 fun e w' => e = .returned (.bool true) ∧ Below x.1.heap.size x.1 w') :=
                        Lib.hid fun x => (lsame_any now.1 m.1 _ _ now.2 m.2 _ (HNA.out.below x.2) (HNM.out.below x.2) hlb (by omega)).mono (by rintro e w' ⟨rfl, hb⟩; exact ⟨by rw [hbb], hb⟩)
                      clear hg3 hbA
                      go_wp2_with fail
                      refine wp_region_later (by kernel_rfl) (by kernel_rfl) ?_
                      repeat (go_big_quiet_step ((first | (with_reducible exact Later.call (v := .agg #[.int .i64 m.1, .slice sa m.2.length sc]) (HREF.out _)) | (with_reducible exact Later.call (v := .bool true) (HSAME.out _)))))
                      refine wpQuiet_nil ?_; rintro w9 ⟨⟨_, hb9⟩, rfl⟩
                      have H9 := Lib.hid (H8A.out.below hb9)
                      clear x0 x1 x2 x3
                      have HI7 : Hid (Fs.SwapInv st7 true (m.1, m.2)) := Lib.hid (by
                        obtain ⟨h1, h2⟩ := of_decide_eq_true hbb
                        have := HI7.out
                        rwa [show now = (m.1, m.2) from Prod.ext h1 h2] at this)
                      have q0 := root_frozen H9.out.cell 0
                      have q1 := root_frozen H9.out.cell 1
                      have r0 : w9.cell? ⟨w2.heap.size, 0, none⟩ = some (.int .i64 now.1) := root_cell H9.out.cell 0 _ rfl
                      have r1 : w9.cell? ⟨w2.heap.size, 1, none⟩ = some nv := root_cell H9.out.cell 1 _ rfl
                      have s0 : w9.cell? ⟨wr.heap.size, 0, none⟩ = some (.int .i64 m.1) := root_cell H9.out.cx 0 _ rfl
                      have s1 : w9.cell? ⟨wr.heap.size, 1, none⟩ = some (.slice sa m.2.length sc) := root_cell H9.out.cx 1 _ rfl
                      clear hb9
                      go_wp2_with fail
                      go_roundg (ms.length - (i + 1))
                      case measure => rw [HK.out]; omega
                      case rel => exact ⟨i + 1, b7, B7, st7, V7, own7, true, (m.1, m.2), .slice sa m.2.length sc, by omega, by omega, rfl, rfl, rfl, by simp, (H9.out.toSWorld.set 0 (.int .i64 m.1)).set 1 (.slice sa m.2.length sc), HI7.out, HSV.out⟩
              · have hp' : (20 : Int) < (p.length : Int) := by omega
                have HS := H3
                have HARM : Hid (∀ n, 0 ≤ n → Fs.arm st n = (Fs.powered st [] n, 0)) := Lib.hid fun n hn => (HI.out.arm [] hn).2
                have HPZ : Hid (∀ z ∈ ([] : List Int), I64 z) := Lib.hid fun z hz => by cases hz
                obtain ⟨pl, hpl2⟩ : ∃ x : List Int, x = [] := ⟨_, rfl⟩
                rw [← hpl2] at HARM HPZ
                have harg : 0 ≤ wrap64 ((IntKind.u64.wrap z).tmod 9) ∧ wrap64 ((IntKind.u64.wrap z).tmod 9) ≤ 9 := by first | exact cutAt _ | decide
                obtain ⟨hz0, hz9⟩ := harg
                go_wp2_with fail
                refine (arm_any base B _ _ _ (wrap64 ((IntKind.u64.wrap z).tmod 9)) _ HS.out.ok (by omega)).mono ?_
                rintro e w5 ⟨rfl, hp5⟩
                rw [HARM.out _ hz0] at hp5 ⊢
                obtain ⟨pn, hpn⟩ : ∃ x, x = wrap64 ((IntKind.u64.wrap z).tmod 9) := ⟨_, rfl⟩
                rw [← hpn] at hp5
                clear hpn hz0 hz9
                obtain ⟨V5, own5, h5⟩ := HS.out.op hp5
                have H5 := Lib.hid h5
                have z0 := root_cell h5.cx 0 _ rfl
                have z1 := root_cell h5.cx 1 _ rfl
                clear hp5 h5
                go_wp2_with fail
                refine (save_any base B _ V5 own5 m.1 _ m.2 w5 H5.out.ok ((HEb.out.below H5.out.bel).mono H5.out.wb).sg H5.out.hb 2 (HI.out.sound pl pn) (by omega) (fun z hz => (HPZ.out z hz).2) (HSV.out.below H5.out.bel) (by omega)).mono ?_
                rintro e w6 ⟨rfl, hp6⟩
                obtain ⟨V6, own6, h6⟩ := H5.out.op hp6
                obtain ⟨hs14, hroom, hrnd⟩ := HI.out.round pl (fun z hz => (HPZ.out z hz).2) pn HG.out (z.tmod 5) [(z.tmod 7), (z.tmod 30), (z.tmod 40)]
                obtain ⟨E, hE⟩ : ∃ E, E = (Mf.save (Fs.powered st pl pn) m.1 m.2).2 := ⟨_, rfl⟩
                obtain ⟨st6, hst6⟩ : ∃ x, x = (Mf.save (Fs.powered st pl pn) m.1 m.2).1 := ⟨_, rfl⟩
                rw [← hE] at hrnd ⊢
                rw [← hst6] at h6 hs14 hroom hrnd
                have H6 := Lib.hid h6
                have HS14 := Lib.hid hs14
                have HRM := Lib.hid hroom
                have HRND := Lib.hid hrnd
                clear hp6 h6 hE hst6 hs14 hroom hrnd z0 z1
                go_wp2_with fail
                have hbT : Below w6.heap.size w6 (w6.alloc (.cells #[.int .i64 ((z.tmod 7)), .int .i64 ((z.tmod 30)), .int .i64 ((z.tmod 40))] 3)) := (Below.refl _ _).alloc (Nat.le_refl _) _
                have HT6 := Lib.hid (H6.out.below hbT)
                have HTN : Hid (Ints (w6.alloc (.cells #[.int .i64 ((z.tmod 7)), .int .i64 ((z.tmod 30)), .int .i64 ((z.tmod 40))] 3)) (.slice (some ⟨w6.heap.size, 0, none⟩) 3 3) [(z.tmod 7), (z.tmod 30), (z.tmod 40)]) :=
                  Lib.hid (OwnI.nums (base := w6.heap.size) (World.ownsRow_lit (base := w6.heap.size) (e := 3) (size := 1) w6 #[.int .i64 ((z.tmod 7)), .int .i64 ((z.tmod 30)), .int .i64 ((z.tmod 40))] 3 (Nat.le_refl _) (by unfold maxLen; omega) rfl))
                clear hbT
                refine (crash_any base B st6 V6 own6 ((z.tmod 5)) _ [(z.tmod 7), (z.tmod 30), (z.tmod 40)] _ HT6.out.ok HT6.out.hb 14 HS14.out (by omega) HTN.out (by simp) (by rw [HRM.out]; omega)).mono ?_
                rintro e w7 ⟨B7, V7, own7, rfl, hok7, hb7⟩
                obtain ⟨st7, hst7⟩ : ∃ x, x = Fs.crash st6 ((z.tmod 5)) [(z.tmod 7), (z.tmod 30), (z.tmod 40)] := ⟨_, rfl⟩
                obtain ⟨hs7, hr7⟩ := HRND.out st7 hst7
                rw [← hst7] at hok7
                have H7 := Lib.hid (HT6.out.crashed hok7 hb7)
                obtain ⟨b7, hb7e⟩ : ∃ x, x = (w6.alloc (.cells #[.int .i64 ((z.tmod 7)), .int .i64 ((z.tmod 30)), .int .i64 ((z.tmod 40))] 3)).heap.size := ⟨_, rfl⟩
                rw [← hb7e] at H7
                have HS7 := Lib.hid hs7
                have HR7 := Lib.hid hr7
                clear hst7 hok7 hb7 hb7e hs7 hr7
                go_wp2_with fail
                refine (load_any b7 B7 st7 V7 own7 w7 H7.out.ok ((HEb.out.below H7.out.bel).mono H7.out.wb) H7.out.hb 14 HS7.out).mono ?_
                rintro e w8 ⟨hb8, sv8, rfl, hoi8⟩
                have H8 := Lib.hid (H7.out.below hb8)
                obtain ⟨Lx, hLx⟩ : ∃ x, x = Mf.load st7 := ⟨_, rfl⟩
                rw [← hLx] at hoi8 ⊢
                obtain ⟨sva, svn, svc, hsv, HSVN⟩ := OwnI.form3 hoi8
                subst hsv
                have HOI8 := Lib.hid hoi8
                have HLX := Lib.hid hLx
                clear hb8 hoi8 hLx
                have hR := HR7.out
                rw [← HLX.out] at hR
                rcases hR with ⟨hL, hinv7⟩ | ⟨hEn, hinv7, hL⟩
                · have HL := Lib.hid hL
                  have HI7 := Lib.hid hinv7
                  clear hL hinv7
                  rw [HL.out]
                  have hlb : m.2.length ≤ 1000000000 := by omega
                  have hbb : decide (m.1 = m.1 ∧ m.2 = m.2) = true := decide_eq_true ⟨rfl, rfl⟩
                  have hbA : Below w8.heap.size w8 (w8.alloc (.cells #[.int .i64 m.1, .slice sva svn svc] 24)) := (Below.refl _ _).alloc (Nat.le_refl _) _
                  have H8A := Lib.hid (H8.out.below hbA)
                  have HNA : Hid (Nums (w8.alloc (.cells #[.int .i64 m.1, .slice sva svn svc] 24)) (.slice sva svn svc) m.2) := Lib.hid (by have := (HOI8.out.keep hbA).nums; rw [show Lx.1.2 = m.2 by first | rw [HL2.out] | rw [HL.out]] at this; exact this)
                  have HNM : Hid (Ints (w8.alloc (.cells #[.int .i64 m.1, .slice sva svn svc] 24)) (.slice sa m.2.length sc) m.2) := Lib.hid (HSV.out.below H8A.out.bel)
                  have hg3 := heap_new w8 (.cells #[.int .i64 m.1, .slice sva svn svc] 24)
                  have x0 := fun x => Later.cell (root_cell hg3 0 _ rfl : (w8.alloc (.cells #[.int .i64 m.1, .slice sva svn svc] 24)).cell? ⟨w8.heap.size, 0, none⟩ = some (.int .i64 m.1)) x
                  have x1 := fun x => Later.cell (root_cell hg3 1 _ rfl : (w8.alloc (.cells #[.int .i64 m.1, .slice sva svn svc] 24)).cell? ⟨w8.heap.size, 1, none⟩ = some (.slice sva svn svc)) x
                  have x2 := fun x => Later.cell (root_cell H8A.out.cx 0 _ rfl : (w8.alloc (.cells #[.int .i64 m.1, .slice sva svn svc] 24)).cell? ⟨wr.heap.size, 0, none⟩ = some (.int .i64 m.1)) x
                  have x3 := fun x => Later.cell (root_cell H8A.out.cx 1 _ rfl : (w8.alloc (.cells #[.int .i64 m.1, .slice sva svn svc] 24)).cell? ⟨wr.heap.size, 1, none⟩ = some (.slice sa m.2.length sc)) x
                  have HREF : Hid (∀ x : Later (w8.alloc (.cells #[.int .i64 m.1, .slice sva svn svc] 24)), Calls Tryz.prog 16 #[.agg #[.int .i64 m.1, .slice sa m.2.length sc]] x.1 fun e w' => e = .returned (.agg #[.int .i64 m.1, .slice sa m.2.length sc]) ∧ Below x.1.heap.size x.1 w') :=
                    Lib.hid fun x => lref_any _ _ _ _ _
                  have HSAME : Hid (∀ x : Later (w8.alloc (.cells #[.int .i64 m.1, .slice sva svn svc] 24)), Calls Tryz.prog 20 #[.agg #[.int .i64 m.1, .slice sva svn svc], .agg #[.int .i64 m.1, .slice sa m.2.length sc]] x.1 fun e w' => e = .returned (.bool true) ∧ Below x.1.heap.size x.1 w') :=
                    Lib.hid fun x => (lsame_any m.1 m.1 _ _ m.2 m.2 _ (HNA.out.below x.2) (HNM.out.below x.2) hlb (by omega)).mono (by rintro e w' ⟨rfl, hb⟩; exact ⟨by rw [hbb], hb⟩)
                  clear hg3 hbA
                  go_wp2_with fail
                  refine wp_region_later (by kernel_rfl) (by kernel_rfl) ?_
                  repeat (go_big_quiet_step ((first | (with_reducible exact Later.call (v := .agg #[.int .i64 m.1, .slice sa m.2.length sc]) (HREF.out _)) | (with_reducible exact Later.call (v := .bool true) (HSAME.out _)))))
                  refine wpQuiet_nil ?_; rintro w9 ⟨⟨_, hb9⟩, rfl⟩
                  have H9 := Lib.hid (H8A.out.below hb9)
                  clear x0 x1 x2 x3
                  have q0 := root_frozen H9.out.cell 0
                  have q1 := root_frozen H9.out.cell 1
                  have r0 : w9.cell? ⟨w2.heap.size, 0, none⟩ = some (.int .i64 now.1) := root_cell H9.out.cell 0 _ rfl
                  have r1 : w9.cell? ⟨w2.heap.size, 1, none⟩ = some nv := root_cell H9.out.cell 1 _ rfl
                  have s0 : w9.cell? ⟨wr.heap.size, 0, none⟩ = some (.int .i64 m.1) := root_cell H9.out.cx 0 _ rfl
                  have s1 : w9.cell? ⟨wr.heap.size, 1, none⟩ = some (.slice sa m.2.length sc) := root_cell H9.out.cx 1 _ rfl
                  clear hb9
                  go_wp2_with fail
                  go_roundg (ms.length - (i + 1))
                  case measure => rw [HK.out]; omega
                  case rel => exact ⟨i + 1, b7, B7, st7, V7, own7, true, (m.1, m.2), .slice sa m.2.length sc, by omega, by omega, rfl, rfl, rfl, by simp, (H9.out.toSWorld.set 0 (.int .i64 m.1)).set 1 (.slice sa m.2.length sc), HI7.out, HSV.out⟩
                · have HL := Lib.hid hL
                  have HI7 := Lib.hid hinv7
                  have hte : (E == 0) = false := by rw [beq_eq_false_iff_ne]; exact hEn
                  clear hL hinv7 hEn
                  cases there
                  · have HL2 : Hid (Lx = ((0, []), 3)) := Lib.hid (by rw [HL.out]; rfl)
                    rw [HL2.out]
                    have H8A := Lib.hid (H8.out.below ((Below.refl _ _).alloc (Nat.le_refl _) (.cells #[.int .i64 0, .slice sva svn svc] 24)))
                    go_wp2_with fail
                    refine wp_region_cuts [] (by kernel_rfl) (by kernel_rfl) ?_; simp only [wpMix, List.take_succ_cons, List.take_zero, List.drop_succ_cons, List.drop_zero, Nat.sub_zero, Nat.reduceSub, Nat.reduceAdd]
                    repeat (go_big_quiet_step (fail))
                    refine wpQuiet_nil ?_; rintro _ ⟨nq, rfl⟩
                    go_wp2_with fail
                    refine wp_region_cuts [] (by kernel_rfl) (by kernel_rfl) ?_; simp only [wpMix, List.take_succ_cons, List.take_zero, List.drop_succ_cons, List.drop_zero, Nat.sub_zero, Nat.reduceSub, Nat.reduceAdd]
                    repeat (go_big_quiet_step (fail))
                    refine wpQuiet_nil ?_; rintro _ ⟨nq, rfl⟩
                    go_wp2_with fail
                    go_roundg (ms.length - (i + 1))
                    case measure => rw [HK.out]; omega
                    case rel => exact ⟨i + 1, b7, B7, st7, V7, own7, false, now, nv, by omega, by omega, rfl, rfl, rfl, by simp, (H8A.out.below (Below.drewN (Below.refl _ _) _)).toSWorld, HI7.out, HNV.out⟩
                  · have HL2 : Hid (Lx = (now, 0)) := Lib.hid (by rw [HL.out]; rfl)
                    rw [HL2.out]
                    have hlb : now.2.length ≤ 1000000000 := by have := (Mf.good_out (HI.out.gd rfl)).2.1; omega
                    cases hbb : decide (now.1 = m.1 ∧ now.2 = m.2)
                    · skip
                      have hbA : Below w8.heap.size w8 (w8.alloc (.cells #[.int .i64 now.1, .slice sva svn svc] 24)) := (Below.refl _ _).alloc (Nat.le_refl _) _
                      have H8A := Lib.hid (H8.out.below hbA)
                      have HNA : Hid (Nums (w8.alloc (.cells #[.int .i64 now.1, .slice sva svn svc] 24)) (.slice sva svn svc) now.2) := Lib.hid (by have := (HOI8.out.keep hbA).nums; rw [show Lx.1.2 = now.2 by first | rw [HL2.out] | rw [HL.out]] at this; exact this)
                      have HNM : Hid (Ints (w8.alloc (.cells #[.int .i64 now.1, .slice sva svn svc] 24)) (.slice sa m.2.length sc) m.2) := Lib.hid (HSV.out.below H8A.out.bel)
                      have hg3 := heap_new w8 (.cells #[.int .i64 now.1, .slice sva svn svc] 24)
                      have x0 := fun x => Later.cell (root_cell hg3 0 _ rfl : (w8.alloc (.cells #[.int .i64 now.1, .slice sva svn svc] 24)).cell? ⟨w8.heap.size, 0, none⟩ = some (.int .i64 now.1)) x
                      have x1 := fun x => Later.cell (root_cell hg3 1 _ rfl : (w8.alloc (.cells #[.int .i64 now.1, .slice sva svn svc] 24)).cell? ⟨w8.heap.size, 1, none⟩ = some (.slice sva svn svc)) x
                      have x2 := fun x => Later.cell (root_cell H8A.out.cx 0 _ rfl : (w8.alloc (.cells #[.int .i64 now.1, .slice sva svn svc] 24)).cell? ⟨wr.heap.size, 0, none⟩ = some (.int .i64 m.1)) x
                      have x3 := fun x => Later.cell (root_cell H8A.out.cx 1 _ rfl : (w8.alloc (.cells #[.int .i64 now.1, .slice sva svn svc] 24)).cell? ⟨wr.heap.size, 1, none⟩ = some (.slice sa m.2.length sc)) x
                      have HREF : Hid (∀ x : Later (w8.alloc (.cells #[.int .i64 now.1, .slice sva svn svc] 24)), Calls Tryz.prog 16 #[.agg #[.int .i64 m.1, .slice sa m.2.length sc]] x.1 fun e w' => e = .returned (.agg #[.int .i64 m.1, .slice sa m.2.length sc]) ∧ Below x.1.heap.size x.1 w') :=
                        Lib.hid fun x => lref_any _ _ _ _ _
                      have HSAME : Hid (∀ x : Later (w8.alloc (.cells #[.int .i64 now.1, .slice sva svn svc] 24)), Calls Tryz.prog 20 #[.agg #[.int .i64 now.1, .slice sva svn svc], .agg #[.int .i64 m.1, .slice sa m.2.length sc]] x.1 fun e w' => e = .returned (.bool false) ∧ Below x.1.heap.size x.1 w') :=
                        Lib.hid fun x => (lsame_any now.1 m.1 _ _ now.2 m.2 _ (HNA.out.below x.2) (HNM.out.below x.2) hlb (by omega)).mono (by rintro e w' ⟨rfl, hb⟩; exact ⟨by rw [hbb], hb⟩)
                      clear hg3 hbA
                      go_wp2_with fail
                      refine wp_region_later (by kernel_rfl) (by kernel_rfl) ?_
                      repeat (go_big_quiet_step ((first | (with_reducible exact Later.call (v := .agg #[.int .i64 m.1, .slice sa m.2.length sc]) (HREF.out _)) | (with_reducible exact Later.call (v := .bool false) (HSAME.out _)))))
                      refine wpQuiet_nil ?_; rintro w9 ⟨⟨_, hb9⟩, rfl⟩
                      have H9 := Lib.hid (H8A.out.below hb9)
                      clear x0 x1 x2 x3
                      have HN9 : Hid (Ints w9 nv now.2) := Lib.hid (HNV.out.below H9.out.bel)
                      have u0 := fun x => Later.cell (root_cell H9.out.cell 0 _ rfl : w9.cell? ⟨w2.heap.size, 0, none⟩ = some (.int .i64 now.1)) x
                      have u1 := fun x => Later.cell (root_cell H9.out.cell 1 _ rfl : w9.cell? ⟨w2.heap.size, 1, none⟩ = some nv) x
                      have hv0 := (hb9.block _ (by simp)).trans (heap_new w8 (.cells #[.int .i64 now.1, .slice sva svn svc] 24))
                      have v0 := fun x => Later.cell (root_cell hv0 0 _ rfl : w9.cell? ⟨w8.heap.size, 0, none⟩ = some (.int .i64 now.1)) x
                      have v1 := fun x => Later.cell (root_cell hv0 1 _ rfl : w9.cell? ⟨w8.heap.size, 1, none⟩ = some (.slice sva svn svc)) x
                      obtain ⟨na, nc, rfl⟩ := HNV.out.form
                      have HREF2 : Hid (∀ x : Later w9, Calls Tryz.prog 16 #[.agg #[.int .i64 now.1, .slice na now.2.length nc]] x.1 fun e w' => e = .returned (.agg #[.int .i64 now.1, .slice na now.2.length nc]) ∧ Below x.1.heap.size x.1 w') :=
                        Lib.hid fun x => lref_any _ _ _ _ _
                      have HSAME2 : Hid (∀ x : Later w9, Calls Tryz.prog 20 #[.agg #[.int .i64 now.1, .slice sva svn svc], .agg #[.int .i64 now.1, .slice na now.2.length nc]] x.1 fun e w' => e = .returned (.bool true) ∧ Below x.1.heap.size x.1 w') :=
                        Lib.hid fun x => (lsame_any now.1 now.1 _ _ now.2 now.2 _ ((HNA.out.below hb9).below x.2) (HN9.out.below x.2) hlb hlb).mono (by rintro e w' ⟨rfl, hb⟩; exact ⟨by rw [decide_eq_true ⟨rfl, rfl⟩], hb⟩)
                      clear hb9 hv0
                      go_wp2_with fail
                      refine wp_region_later (by kernel_rfl) (by kernel_rfl) ?_
                      repeat (go_big_quiet_step ((first | (with_reducible exact Later.call (v := .agg #[.int .i64 now.1, .slice na now.2.length nc]) (HREF2.out _)) | (with_reducible exact Later.call (v := .bool true) (HSAME2.out _)))))
                      refine wpQuiet_nil ?_; rintro w10 ⟨⟨_, hb10⟩, rfl⟩
                      have H10 := Lib.hid (H9.out.below hb10)
                      clear hb10 u0 u1 v0 v1
                      go_wp2_with fail
                      go_roundg (ms.length - (i + 1))
                      case measure => rw [HK.out]; omega
                      case rel => exact ⟨i + 1, b7, B7, st7, V7, own7, true, now, _, by omega, by omega, rfl, rfl, rfl, by simp, H10.out.toSWorld, HI7.out, HNV.out⟩
                    · skip
                      have hbA : Below w8.heap.size w8 (w8.alloc (.cells #[.int .i64 now.1, .slice sva svn svc] 24)) := (Below.refl _ _).alloc (Nat.le_refl _) _
                      have H8A := Lib.hid (H8.out.below hbA)
                      have HNA : Hid (Nums (w8.alloc (.cells #[.int .i64 now.1, .slice sva svn svc] 24)) (.slice sva svn svc) now.2) := Lib.hid (by have := (HOI8.out.keep hbA).nums; rw [show Lx.1.2 = now.2 by first | rw [HL2.out] | rw [HL.out]] at this; exact this)
                      have HNM : Hid (Ints (w8.alloc (.cells #[.int .i64 now.1, .slice sva svn svc] 24)) (.slice sa m.2.length sc) m.2) := Lib.hid (HSV.out.below H8A.out.bel)
                      have hg3 := heap_new w8 (.cells #[.int .i64 now.1, .slice sva svn svc] 24)
                      have x0 := fun x => Later.cell (root_cell hg3 0 _ rfl : (w8.alloc (.cells #[.int .i64 now.1, .slice sva svn svc] 24)).cell? ⟨w8.heap.size, 0, none⟩ = some (.int .i64 now.1)) x
                      have x1 := fun x => Later.cell (root_cell hg3 1 _ rfl : (w8.alloc (.cells #[.int .i64 now.1, .slice sva svn svc] 24)).cell? ⟨w8.heap.size, 1, none⟩ = some (.slice sva svn svc)) x
                      have x2 := fun x => Later.cell (root_cell H8A.out.cx 0 _ rfl : (w8.alloc (.cells #[.int .i64 now.1, .slice sva svn svc] 24)).cell? ⟨wr.heap.size, 0, none⟩ = some (.int .i64 m.1)) x
                      have x3 := fun x => Later.cell (root_cell H8A.out.cx 1 _ rfl : (w8.alloc (.cells #[.int .i64 now.1, .slice sva svn svc] 24)).cell? ⟨wr.heap.size, 1, none⟩ = some (.slice sa m.2.length sc)) x
                      have HREF : Hid (∀ x : Later (w8.alloc (.cells #[.int .i64 now.1, .slice sva svn svc] 24)), Calls Tryz.prog 16 #[.agg #[.int .i64 m.1, .slice sa m.2.length sc]] x.1 fun e w' => e = .returned (.agg #[.int .i64 m.1, .slice sa m.2.length sc]) ∧ Below x.1.heap.size x.1 w') :=
                        Lib.hid fun x => lref_any _ _ _ _ _
                      have HSAME : Hid (∀ x : Later (w8.alloc (.cells #[.int .i64 now.1, .slice sva svn svc] 24)), Calls Tryz.prog 20 #[.agg #[.int .i64 now.1, .slice sva svn svc], .agg #[.int .i64 m.1, .slice sa m.2.length sc]] x.1 fun e w' => e = .returned (.bool true) ∧ Below x.1.heap.size x.1 w') :=
                        Lib.hid fun x => (lsame_any now.1 m.1 _ _ now.2 m.2 _ (HNA.out.below x.2) (HNM.out.below x.2) hlb (by omega)).mono (by rintro e w' ⟨rfl, hb⟩; exact ⟨by rw [hbb], hb⟩)
                      clear hg3 hbA
                      go_wp2_with fail
                      refine wp_region_later (by kernel_rfl) (by kernel_rfl) ?_
                      repeat (go_big_quiet_step ((first | (with_reducible exact Later.call (v := .agg #[.int .i64 m.1, .slice sa m.2.length sc]) (HREF.out _)) | (with_reducible exact Later.call (v := .bool true) (HSAME.out _)))))
                      refine wpQuiet_nil ?_; rintro w9 ⟨⟨_, hb9⟩, rfl⟩
                      have H9 := Lib.hid (H8A.out.below hb9)
                      clear x0 x1 x2 x3
                      have HI7 : Hid (Fs.SwapInv st7 true (m.1, m.2)) := Lib.hid (by
                        obtain ⟨h1, h2⟩ := of_decide_eq_true hbb
                        have := HI7.out
                        rwa [show now = (m.1, m.2) from Prod.ext h1 h2] at this)
                      have q0 := root_frozen H9.out.cell 0
                      have q1 := root_frozen H9.out.cell 1
                      have r0 : w9.cell? ⟨w2.heap.size, 0, none⟩ = some (.int .i64 now.1) := root_cell H9.out.cell 0 _ rfl
                      have r1 : w9.cell? ⟨w2.heap.size, 1, none⟩ = some nv := root_cell H9.out.cell 1 _ rfl
                      have s0 : w9.cell? ⟨wr.heap.size, 0, none⟩ = some (.int .i64 m.1) := root_cell H9.out.cx 0 _ rfl
                      have s1 : w9.cell? ⟨wr.heap.size, 1, none⟩ = some (.slice sa m.2.length sc) := root_cell H9.out.cx 1 _ rfl
                      clear hb9
                      go_wp2_with fail
                      go_roundg (ms.length - (i + 1))
                      case measure => rw [HK.out]; omega
                      case rel => exact ⟨i + 1, b7, B7, st7, V7, own7, true, (m.1, m.2), .slice sa m.2.length sc, by omega, by omega, rfl, rfl, rfl, by simp, (H9.out.toSWorld.set 0 (.int .i64 m.1)).set 1 (.slice sa m.2.length sc), HI7.out, HSV.out⟩
            · have hpl' : (ps.length : Int) ≤ (i : Int) := by omega
              have HS := H3
              have HARM : Hid (∀ n, 0 ≤ n → Fs.arm st n = (Fs.powered st [] n, 0)) := Lib.hid fun n hn => (HI.out.arm [] hn).2
              have HPZ : Hid (∀ z ∈ ([] : List Int), I64 z) := Lib.hid fun z hz => by cases hz
              obtain ⟨pl, hpl2⟩ : ∃ x : List Int, x = [] := ⟨_, rfl⟩
              rw [← hpl2] at HARM HPZ
              have harg : 0 ≤ wrap64 ((IntKind.u64.wrap z).tmod 9) ∧ wrap64 ((IntKind.u64.wrap z).tmod 9) ≤ 9 := by first | exact cutAt _ | decide
              obtain ⟨hz0, hz9⟩ := harg
              go_wp2_with fail
              refine (arm_any base B _ _ _ (wrap64 ((IntKind.u64.wrap z).tmod 9)) _ HS.out.ok (by omega)).mono ?_
              rintro e w5 ⟨rfl, hp5⟩
              rw [HARM.out _ hz0] at hp5 ⊢
              obtain ⟨pn, hpn⟩ : ∃ x, x = wrap64 ((IntKind.u64.wrap z).tmod 9) := ⟨_, rfl⟩
              rw [← hpn] at hp5
              clear hpn hz0 hz9
              obtain ⟨V5, own5, h5⟩ := HS.out.op hp5
              have H5 := Lib.hid h5
              have z0 := root_cell h5.cx 0 _ rfl
              have z1 := root_cell h5.cx 1 _ rfl
              clear hp5 h5
              go_wp2_with fail
              refine (save_any base B _ V5 own5 m.1 _ m.2 w5 H5.out.ok ((HEb.out.below H5.out.bel).mono H5.out.wb).sg H5.out.hb 2 (HI.out.sound pl pn) (by omega) (fun z hz => (HPZ.out z hz).2) (HSV.out.below H5.out.bel) (by omega)).mono ?_
              rintro e w6 ⟨rfl, hp6⟩
              obtain ⟨V6, own6, h6⟩ := H5.out.op hp6
              obtain ⟨hs14, hroom, hrnd⟩ := HI.out.round pl (fun z hz => (HPZ.out z hz).2) pn HG.out (z.tmod 5) [(z.tmod 7), (z.tmod 30), (z.tmod 40)]
              obtain ⟨E, hE⟩ : ∃ E, E = (Mf.save (Fs.powered st pl pn) m.1 m.2).2 := ⟨_, rfl⟩
              obtain ⟨st6, hst6⟩ : ∃ x, x = (Mf.save (Fs.powered st pl pn) m.1 m.2).1 := ⟨_, rfl⟩
              rw [← hE] at hrnd ⊢
              rw [← hst6] at h6 hs14 hroom hrnd
              have H6 := Lib.hid h6
              have HS14 := Lib.hid hs14
              have HRM := Lib.hid hroom
              have HRND := Lib.hid hrnd
              clear hp6 h6 hE hst6 hs14 hroom hrnd z0 z1
              go_wp2_with fail
              have hbT : Below w6.heap.size w6 (w6.alloc (.cells #[.int .i64 ((z.tmod 7)), .int .i64 ((z.tmod 30)), .int .i64 ((z.tmod 40))] 3)) := (Below.refl _ _).alloc (Nat.le_refl _) _
              have HT6 := Lib.hid (H6.out.below hbT)
              have HTN : Hid (Ints (w6.alloc (.cells #[.int .i64 ((z.tmod 7)), .int .i64 ((z.tmod 30)), .int .i64 ((z.tmod 40))] 3)) (.slice (some ⟨w6.heap.size, 0, none⟩) 3 3) [(z.tmod 7), (z.tmod 30), (z.tmod 40)]) :=
                Lib.hid (OwnI.nums (base := w6.heap.size) (World.ownsRow_lit (base := w6.heap.size) (e := 3) (size := 1) w6 #[.int .i64 ((z.tmod 7)), .int .i64 ((z.tmod 30)), .int .i64 ((z.tmod 40))] 3 (Nat.le_refl _) (by unfold maxLen; omega) rfl))
              clear hbT
              refine (crash_any base B st6 V6 own6 ((z.tmod 5)) _ [(z.tmod 7), (z.tmod 30), (z.tmod 40)] _ HT6.out.ok HT6.out.hb 14 HS14.out (by omega) HTN.out (by simp) (by rw [HRM.out]; omega)).mono ?_
              rintro e w7 ⟨B7, V7, own7, rfl, hok7, hb7⟩
              obtain ⟨st7, hst7⟩ : ∃ x, x = Fs.crash st6 ((z.tmod 5)) [(z.tmod 7), (z.tmod 30), (z.tmod 40)] := ⟨_, rfl⟩
              obtain ⟨hs7, hr7⟩ := HRND.out st7 hst7
              rw [← hst7] at hok7
              have H7 := Lib.hid (HT6.out.crashed hok7 hb7)
              obtain ⟨b7, hb7e⟩ : ∃ x, x = (w6.alloc (.cells #[.int .i64 ((z.tmod 7)), .int .i64 ((z.tmod 30)), .int .i64 ((z.tmod 40))] 3)).heap.size := ⟨_, rfl⟩
              rw [← hb7e] at H7
              have HS7 := Lib.hid hs7
              have HR7 := Lib.hid hr7
              clear hst7 hok7 hb7 hb7e hs7 hr7
              go_wp2_with fail
              refine (load_any b7 B7 st7 V7 own7 w7 H7.out.ok ((HEb.out.below H7.out.bel).mono H7.out.wb) H7.out.hb 14 HS7.out).mono ?_
              rintro e w8 ⟨hb8, sv8, rfl, hoi8⟩
              have H8 := Lib.hid (H7.out.below hb8)
              obtain ⟨Lx, hLx⟩ : ∃ x, x = Mf.load st7 := ⟨_, rfl⟩
              rw [← hLx] at hoi8 ⊢
              obtain ⟨sva, svn, svc, hsv, HSVN⟩ := OwnI.form3 hoi8
              subst hsv
              have HOI8 := Lib.hid hoi8
              have HLX := Lib.hid hLx
              clear hb8 hoi8 hLx
              have hR := HR7.out
              rw [← HLX.out] at hR
              rcases hR with ⟨hL, hinv7⟩ | ⟨hEn, hinv7, hL⟩
              · have HL := Lib.hid hL
                have HI7 := Lib.hid hinv7
                clear hL hinv7
                rw [HL.out]
                have hlb : m.2.length ≤ 1000000000 := by omega
                have hbb : decide (m.1 = m.1 ∧ m.2 = m.2) = true := decide_eq_true ⟨rfl, rfl⟩
                have hbA : Below w8.heap.size w8 (w8.alloc (.cells #[.int .i64 m.1, .slice sva svn svc] 24)) := (Below.refl _ _).alloc (Nat.le_refl _) _
                have H8A := Lib.hid (H8.out.below hbA)
                have HNA : Hid (Nums (w8.alloc (.cells #[.int .i64 m.1, .slice sva svn svc] 24)) (.slice sva svn svc) m.2) := Lib.hid (by have := (HOI8.out.keep hbA).nums; rw [show Lx.1.2 = m.2 by first | rw [HL2.out] | rw [HL.out]] at this; exact this)
                have HNM : Hid (Ints (w8.alloc (.cells #[.int .i64 m.1, .slice sva svn svc] 24)) (.slice sa m.2.length sc) m.2) := Lib.hid (HSV.out.below H8A.out.bel)
                have hg3 := heap_new w8 (.cells #[.int .i64 m.1, .slice sva svn svc] 24)
                have x0 := fun x => Later.cell (root_cell hg3 0 _ rfl : (w8.alloc (.cells #[.int .i64 m.1, .slice sva svn svc] 24)).cell? ⟨w8.heap.size, 0, none⟩ = some (.int .i64 m.1)) x
                have x1 := fun x => Later.cell (root_cell hg3 1 _ rfl : (w8.alloc (.cells #[.int .i64 m.1, .slice sva svn svc] 24)).cell? ⟨w8.heap.size, 1, none⟩ = some (.slice sva svn svc)) x
                have x2 := fun x => Later.cell (root_cell H8A.out.cx 0 _ rfl : (w8.alloc (.cells #[.int .i64 m.1, .slice sva svn svc] 24)).cell? ⟨wr.heap.size, 0, none⟩ = some (.int .i64 m.1)) x
                have x3 := fun x => Later.cell (root_cell H8A.out.cx 1 _ rfl : (w8.alloc (.cells #[.int .i64 m.1, .slice sva svn svc] 24)).cell? ⟨wr.heap.size, 1, none⟩ = some (.slice sa m.2.length sc)) x
                have HREF : Hid (∀ x : Later (w8.alloc (.cells #[.int .i64 m.1, .slice sva svn svc] 24)), Calls Tryz.prog 16 #[.agg #[.int .i64 m.1, .slice sa m.2.length sc]] x.1 fun e w' => e = .returned (.agg #[.int .i64 m.1, .slice sa m.2.length sc]) ∧ Below x.1.heap.size x.1 w') :=
                  Lib.hid fun x => lref_any _ _ _ _ _
                have HSAME : Hid (∀ x : Later (w8.alloc (.cells #[.int .i64 m.1, .slice sva svn svc] 24)), Calls Tryz.prog 20 #[.agg #[.int .i64 m.1, .slice sva svn svc], .agg #[.int .i64 m.1, .slice sa m.2.length sc]] x.1 fun e w' => e = .returned (.bool true) ∧ Below x.1.heap.size x.1 w') :=
                  Lib.hid fun x => (lsame_any m.1 m.1 _ _ m.2 m.2 _ (HNA.out.below x.2) (HNM.out.below x.2) hlb (by omega)).mono (by rintro e w' ⟨rfl, hb⟩; exact ⟨by rw [hbb], hb⟩)
                clear hg3 hbA
                go_wp2_with fail
                refine wp_region_later (by kernel_rfl) (by kernel_rfl) ?_
                repeat (go_big_quiet_step ((first | (with_reducible exact Later.call (v := .agg #[.int .i64 m.1, .slice sa m.2.length sc]) (HREF.out _)) | (with_reducible exact Later.call (v := .bool true) (HSAME.out _)))))
                refine wpQuiet_nil ?_; rintro w9 ⟨⟨_, hb9⟩, rfl⟩
                have H9 := Lib.hid (H8A.out.below hb9)
                clear x0 x1 x2 x3
                have q0 := root_frozen H9.out.cell 0
                have q1 := root_frozen H9.out.cell 1
                have r0 : w9.cell? ⟨w2.heap.size, 0, none⟩ = some (.int .i64 now.1) := root_cell H9.out.cell 0 _ rfl
                have r1 : w9.cell? ⟨w2.heap.size, 1, none⟩ = some nv := root_cell H9.out.cell 1 _ rfl
                have s0 : w9.cell? ⟨wr.heap.size, 0, none⟩ = some (.int .i64 m.1) := root_cell H9.out.cx 0 _ rfl
                have s1 : w9.cell? ⟨wr.heap.size, 1, none⟩ = some (.slice sa m.2.length sc) := root_cell H9.out.cx 1 _ rfl
                clear hb9
                go_wp2_with fail
                go_roundg (ms.length - (i + 1))
                case measure => rw [HK.out]; omega
                case rel => exact ⟨i + 1, b7, B7, st7, V7, own7, true, (m.1, m.2), .slice sa m.2.length sc, by omega, by omega, rfl, rfl, rfl, by simp, (H9.out.toSWorld.set 0 (.int .i64 m.1)).set 1 (.slice sa m.2.length sc), HI7.out, HSV.out⟩
              · have HL := Lib.hid hL
                have HI7 := Lib.hid hinv7
                have hte : (E == 0) = false := by rw [beq_eq_false_iff_ne]; exact hEn
                clear hL hinv7 hEn
                cases there
                · have HL2 : Hid (Lx = ((0, []), 3)) := Lib.hid (by rw [HL.out]; rfl)
                  rw [HL2.out]
                  have H8A := Lib.hid (H8.out.below ((Below.refl _ _).alloc (Nat.le_refl _) (.cells #[.int .i64 0, .slice sva svn svc] 24)))
                  go_wp2_with fail
                  refine wp_region_cuts [] (by kernel_rfl) (by kernel_rfl) ?_; simp only [wpMix, List.take_succ_cons, List.take_zero, List.drop_succ_cons, List.drop_zero, Nat.sub_zero, Nat.reduceSub, Nat.reduceAdd]
                  repeat (go_big_quiet_step (fail))
                  refine wpQuiet_nil ?_; rintro _ ⟨nq, rfl⟩
                  go_wp2_with fail
                  refine wp_region_cuts [] (by kernel_rfl) (by kernel_rfl) ?_; simp only [wpMix, List.take_succ_cons, List.take_zero, List.drop_succ_cons, List.drop_zero, Nat.sub_zero, Nat.reduceSub, Nat.reduceAdd]
                  repeat (go_big_quiet_step (fail))
                  refine wpQuiet_nil ?_; rintro _ ⟨nq, rfl⟩
                  go_wp2_with fail
                  go_roundg (ms.length - (i + 1))
                  case measure => rw [HK.out]; omega
                  case rel => exact ⟨i + 1, b7, B7, st7, V7, own7, false, now, nv, by omega, by omega, rfl, rfl, rfl, by simp, (H8A.out.below (Below.drewN (Below.refl _ _) _)).toSWorld, HI7.out, HNV.out⟩
                · have HL2 : Hid (Lx = (now, 0)) := Lib.hid (by rw [HL.out]; rfl)
                  rw [HL2.out]
                  have hlb : now.2.length ≤ 1000000000 := by have := (Mf.good_out (HI.out.gd rfl)).2.1; omega
                  cases hbb : decide (now.1 = m.1 ∧ now.2 = m.2)
                  · skip
                    have hbA : Below w8.heap.size w8 (w8.alloc (.cells #[.int .i64 now.1, .slice sva svn svc] 24)) := (Below.refl _ _).alloc (Nat.le_refl _) _
                    have H8A := Lib.hid (H8.out.below hbA)
                    have HNA : Hid (Nums (w8.alloc (.cells #[.int .i64 now.1, .slice sva svn svc] 24)) (.slice sva svn svc) now.2) := Lib.hid (by have := (HOI8.out.keep hbA).nums; rw [show Lx.1.2 = now.2 by first | rw [HL2.out] | rw [HL.out]] at this; exact this)
                    have HNM : Hid (Ints (w8.alloc (.cells #[.int .i64 now.1, .slice sva svn svc] 24)) (.slice sa m.2.length sc) m.2) := Lib.hid (HSV.out.below H8A.out.bel)
                    have hg3 := heap_new w8 (.cells #[.int .i64 now.1, .slice sva svn svc] 24)
                    have x0 := fun x => Later.cell (root_cell hg3 0 _ rfl : (w8.alloc (.cells #[.int .i64 now.1, .slice sva svn svc] 24)).cell? ⟨w8.heap.size, 0, none⟩ = some (.int .i64 now.1)) x
                    have x1 := fun x => Later.cell (root_cell hg3 1 _ rfl : (w8.alloc (.cells #[.int .i64 now.1, .slice sva svn svc] 24)).cell? ⟨w8.heap.size, 1, none⟩ = some (.slice sva svn svc)) x
                    have x2 := fun x => Later.cell (root_cell H8A.out.cx 0 _ rfl : (w8.alloc (.cells #[.int .i64 now.1, .slice sva svn svc] 24)).cell? ⟨wr.heap.size, 0, none⟩ = some (.int .i64 m.1)) x
                    have x3 := fun x => Later.cell (root_cell H8A.out.cx 1 _ rfl : (w8.alloc (.cells #[.int .i64 now.1, .slice sva svn svc] 24)).cell? ⟨wr.heap.size, 1, none⟩ = some (.slice sa m.2.length sc)) x
                    have HREF : Hid (∀ x : Later (w8.alloc (.cells #[.int .i64 now.1, .slice sva svn svc] 24)), Calls Tryz.prog 16 #[.agg #[.int .i64 m.1, .slice sa m.2.length sc]] x.1 fun e w' => e = .returned (.agg #[.int .i64 m.1, .slice sa m.2.length sc]) ∧ Below x.1.heap.size x.1 w') :=
                      Lib.hid fun x => lref_any _ _ _ _ _
                    have HSAME : Hid (∀ x : Later (w8.alloc (.cells #[.int .i64 now.1, .slice sva svn svc] 24)), Calls Tryz.prog 20 #[.agg #[.int .i64 now.1, .slice sva svn svc], .agg #[.int .i64 m.1, .slice sa m.2.length sc]] x.1 fun e w' => e = .returned (.bool false) ∧ Below x.1.heap.size x.1 w') :=
                      Lib.hid fun x => (lsame_any now.1 m.1 _ _ now.2 m.2 _ (HNA.out.below x.2) (HNM.out.below x.2) hlb (by omega)).mono (by rintro e w' ⟨rfl, hb⟩; exact ⟨by rw [hbb], hb⟩)
                    clear hg3 hbA
                    go_wp2_with fail
                    refine wp_region_later (by kernel_rfl) (by kernel_rfl) ?_
                    repeat (go_big_quiet_step ((first | (with_reducible exact Later.call (v := .agg #[.int .i64 m.1, .slice sa m.2.length sc]) (HREF.out _)) | (with_reducible exact Later.call (v := .bool false) (HSAME.out _)))))
                    refine wpQuiet_nil ?_; rintro w9 ⟨⟨_, hb9⟩, rfl⟩
                    have H9 := Lib.hid (H8A.out.below hb9)
                    clear x0 x1 x2 x3
                    have HN9 : Hid (Ints w9 nv now.2) := Lib.hid (HNV.out.below H9.out.bel)
                    have u0 := fun x => Later.cell (root_cell H9.out.cell 0 _ rfl : w9.cell? ⟨w2.heap.size, 0, none⟩ = some (.int .i64 now.1)) x
                    have u1 := fun x => Later.cell (root_cell H9.out.cell 1 _ rfl : w9.cell? ⟨w2.heap.size, 1, none⟩ = some nv) x
                    have hv0 := (hb9.block _ (by simp)).trans (heap_new w8 (.cells #[.int .i64 now.1, .slice sva svn svc] 24))
                    have v0 := fun x => Later.cell (root_cell hv0 0 _ rfl : w9.cell? ⟨w8.heap.size, 0, none⟩ = some (.int .i64 now.1)) x
                    have v1 := fun x => Later.cell (root_cell hv0 1 _ rfl : w9.cell? ⟨w8.heap.size, 1, none⟩ = some (.slice sva svn svc)) x
                    obtain ⟨na, nc, rfl⟩ := HNV.out.form
                    have HREF2 : Hid (∀ x : Later w9, Calls Tryz.prog 16 #[.agg #[.int .i64 now.1, .slice na now.2.length nc]] x.1 fun e w' => e = .returned (.agg #[.int .i64 now.1, .slice na now.2.length nc]) ∧ Below x.1.heap.size x.1 w') :=
                      Lib.hid fun x => lref_any _ _ _ _ _
                    have HSAME2 : Hid (∀ x : Later w9, Calls Tryz.prog 20 #[.agg #[.int .i64 now.1, .slice sva svn svc], .agg #[.int .i64 now.1, .slice na now.2.length nc]] x.1 fun e w' => e = .returned (.bool true) ∧ Below x.1.heap.size x.1 w') :=
                      Lib.hid fun x => (lsame_any now.1 now.1 _ _ now.2 now.2 _ ((HNA.out.below hb9).below x.2) (HN9.out.below x.2) hlb hlb).mono (by rintro e w' ⟨rfl, hb⟩; exact ⟨by rw [decide_eq_true ⟨rfl, rfl⟩], hb⟩)
                    clear hb9 hv0
                    go_wp2_with fail
                    refine wp_region_later (by kernel_rfl) (by kernel_rfl) ?_
                    repeat (go_big_quiet_step ((first | (with_reducible exact Later.call (v := .agg #[.int .i64 now.1, .slice na now.2.length nc]) (HREF2.out _)) | (with_reducible exact Later.call (v := .bool true) (HSAME2.out _)))))
                    refine wpQuiet_nil ?_; rintro w10 ⟨⟨_, hb10⟩, rfl⟩
                    have H10 := Lib.hid (H9.out.below hb10)
                    clear hb10 u0 u1 v0 v1
                    go_wp2_with fail
                    go_roundg (ms.length - (i + 1))
                    case measure => rw [HK.out]; omega
                    case rel => exact ⟨i + 1, b7, B7, st7, V7, own7, true, now, _, by omega, by omega, rfl, rfl, rfl, by simp, H10.out.toSWorld, HI7.out, HNV.out⟩
                  · skip
                    have hbA : Below w8.heap.size w8 (w8.alloc (.cells #[.int .i64 now.1, .slice sva svn svc] 24)) := (Below.refl _ _).alloc (Nat.le_refl _) _
                    have H8A := Lib.hid (H8.out.below hbA)
                    have HNA : Hid (Nums (w8.alloc (.cells #[.int .i64 now.1, .slice sva svn svc] 24)) (.slice sva svn svc) now.2) := Lib.hid (by have := (HOI8.out.keep hbA).nums; rw [show Lx.1.2 = now.2 by first | rw [HL2.out] | rw [HL.out]] at this; exact this)
                    have HNM : Hid (Ints (w8.alloc (.cells #[.int .i64 now.1, .slice sva svn svc] 24)) (.slice sa m.2.length sc) m.2) := Lib.hid (HSV.out.below H8A.out.bel)
                    have hg3 := heap_new w8 (.cells #[.int .i64 now.1, .slice sva svn svc] 24)
                    have x0 := fun x => Later.cell (root_cell hg3 0 _ rfl : (w8.alloc (.cells #[.int .i64 now.1, .slice sva svn svc] 24)).cell? ⟨w8.heap.size, 0, none⟩ = some (.int .i64 now.1)) x
                    have x1 := fun x => Later.cell (root_cell hg3 1 _ rfl : (w8.alloc (.cells #[.int .i64 now.1, .slice sva svn svc] 24)).cell? ⟨w8.heap.size, 1, none⟩ = some (.slice sva svn svc)) x
                    have x2 := fun x => Later.cell (root_cell H8A.out.cx 0 _ rfl : (w8.alloc (.cells #[.int .i64 now.1, .slice sva svn svc] 24)).cell? ⟨wr.heap.size, 0, none⟩ = some (.int .i64 m.1)) x
                    have x3 := fun x => Later.cell (root_cell H8A.out.cx 1 _ rfl : (w8.alloc (.cells #[.int .i64 now.1, .slice sva svn svc] 24)).cell? ⟨wr.heap.size, 1, none⟩ = some (.slice sa m.2.length sc)) x
                    have HREF : Hid (∀ x : Later (w8.alloc (.cells #[.int .i64 now.1, .slice sva svn svc] 24)), Calls Tryz.prog 16 #[.agg #[.int .i64 m.1, .slice sa m.2.length sc]] x.1 fun e w' => e = .returned (.agg #[.int .i64 m.1, .slice sa m.2.length sc]) ∧ Below x.1.heap.size x.1 w') :=
                      Lib.hid fun x => lref_any _ _ _ _ _
                    have HSAME : Hid (∀ x : Later (w8.alloc (.cells #[.int .i64 now.1, .slice sva svn svc] 24)), Calls Tryz.prog 20 #[.agg #[.int .i64 now.1, .slice sva svn svc], .agg #[.int .i64 m.1, .slice sa m.2.length sc]] x.1 fun e w' => e = .returned (.bool true) ∧ Below x.1.heap.size x.1 w') :=
                      Lib.hid fun x => (lsame_any now.1 m.1 _ _ now.2 m.2 _ (HNA.out.below x.2) (HNM.out.below x.2) hlb (by omega)).mono (by rintro e w' ⟨rfl, hb⟩; exact ⟨by rw [hbb], hb⟩)
                    clear hg3 hbA
                    go_wp2_with fail
                    refine wp_region_later (by kernel_rfl) (by kernel_rfl) ?_
                    repeat (go_big_quiet_step ((first | (with_reducible exact Later.call (v := .agg #[.int .i64 m.1, .slice sa m.2.length sc]) (HREF.out _)) | (with_reducible exact Later.call (v := .bool true) (HSAME.out _)))))
                    refine wpQuiet_nil ?_; rintro w9 ⟨⟨_, hb9⟩, rfl⟩
                    have H9 := Lib.hid (H8A.out.below hb9)
                    clear x0 x1 x2 x3
                    have HI7 : Hid (Fs.SwapInv st7 true (m.1, m.2)) := Lib.hid (by
                      obtain ⟨h1, h2⟩ := of_decide_eq_true hbb
                      have := HI7.out
                      rwa [show now = (m.1, m.2) from Prod.ext h1 h2] at this)
                    have q0 := root_frozen H9.out.cell 0
                    have q1 := root_frozen H9.out.cell 1
                    have r0 : w9.cell? ⟨w2.heap.size, 0, none⟩ = some (.int .i64 now.1) := root_cell H9.out.cell 0 _ rfl
                    have r1 : w9.cell? ⟨w2.heap.size, 1, none⟩ = some nv := root_cell H9.out.cell 1 _ rfl
                    have s0 : w9.cell? ⟨wr.heap.size, 0, none⟩ = some (.int .i64 m.1) := root_cell H9.out.cx 0 _ rfl
                    have s1 : w9.cell? ⟨wr.heap.size, 1, none⟩ = some (.slice sa m.2.length sc) := root_cell H9.out.cx 1 _ rfl
                    clear hb9
                    go_wp2_with fail
                    go_roundg (ms.length - (i + 1))
                    case measure => rw [HK.out]; omega
                    case rel => exact ⟨i + 1, b7, B7, st7, V7, own7, true, (m.1, m.2), .slice sa m.2.length sc, by omega, by omega, rfl, rfl, rfl, by simp, (H9.out.toSWorld.set 0 (.int .i64 m.1)).set 1 (.slice sa m.2.length sc), HI7.out, HSV.out⟩
          · have hat' : (ats.length : Int) ≤ (i : Int) := by omega
            have HZ : Hid (I64 0) := Lib.hid ⟨by omega, by omega⟩
            by_cases hpl : i < ps.length
            · have hpl' : (i : Int) < (ps.length : Int) := by omega
              obtain ⟨p, hpi⟩ : ∃ p, ps[i]? = some p := ⟨_, List.getElem?_eq_getElem hpl⟩
              obtain ⟨pb, pof, qv, rfl, hpb, pc0, hqv⟩ := HPs.out.at hpi
              obtain ⟨hp20, hpz⟩ := HP2.out p (List.mem_of_getElem? hpi)
              obtain ⟨qa, qc, rfl⟩ := hqv.form
              have p0 : w3.cell? ⟨pb, pof + i, none⟩ = some (.slice qa p.length qc) := by rw [H3.out.bel.cell hpb]; exact pc0
              have HQV := Lib.hid hqv
              have HPZ := Lib.hid hpz
              have hq0 : (0 : Int) ≤ (p.length : Int) := Int.natCast_nonneg _
              clear hpi pc0 hqv hpz
              by_cases hp : p.length ≤ 20
              · have hp' : (p.length : Int) ≤ 20 := by omega
                go_wp2_with fail
                refine wp_region_phase (fun w' => w'.cell? ⟨pb, pof + i, none⟩ = some (.slice qa p.length qc)) 8 (by kernel_rfl) ?_
                have hS : w3.drew.cell? ⟨pb, pof + i, none⟩ = some (.slice qa p.length qc) := p0
                refine wpAnyB_take (i := 0) (v := (.pointer (some ⟨B, 0, none⟩))) (by kernel_rfl) (by decide) rfl (by kernel_rfl) (by kernel_rfl) (by kernel_rfl) (fun _ _ _ h => h) (Or.inl ⟨by rfl, fun w hSw => by go_simp⟩) hS ?_; simp only [Act.put, Array.getInternal_eq_getElem, List.getElem_toArray, List.getElem_cons_zero, List.getElem_cons_succ, List.setIfInBounds_toArray, List.set_cons_zero, List.set_cons_succ]
                refine wpAnyB_take (i := 1) (v := (.pointer (some ⟨B, 0, none⟩))) (by kernel_rfl) (by decide) rfl (by kernel_rfl) (by kernel_rfl) (by kernel_rfl) (fun _ _ _ h => h) (Or.inl ⟨by rfl, fun w hSw => by go_simp⟩) hS ?_; simp only [Act.put, Array.getInternal_eq_getElem, List.getElem_toArray, List.getElem_cons_zero, List.getElem_cons_succ, List.setIfInBounds_toArray, List.set_cons_zero, List.set_cons_succ]
                refine wpAnyB_take (i := 2) (v := (.pointer (some ⟨B, 0, none⟩))) (by kernel_rfl) (by decide) rfl (by kernel_rfl) (by kernel_rfl) (by kernel_rfl) (fun _ _ _ h => h) (Or.inl ⟨by rfl, fun w hSw => by go_simp⟩) hS ?_; simp only [Act.put, Array.getInternal_eq_getElem, List.getElem_toArray, List.getElem_cons_zero, List.getElem_cons_succ, List.setIfInBounds_toArray, List.set_cons_zero, List.set_cons_succ]
                refine wpAnyB_take (i := 3) (v := (.slice (some ⟨pb, pof, none⟩) ps.length pc)) (by kernel_rfl) (by decide) rfl (by kernel_rfl) (by kernel_rfl) (by kernel_rfl) (fun _ _ _ h => h) (Or.inl ⟨by rfl, fun w hSw => by go_simp⟩) hS ?_; simp only [Act.put, Array.getInternal_eq_getElem, List.getElem_toArray, List.getElem_cons_zero, List.getElem_cons_succ, List.setIfInBounds_toArray, List.set_cons_zero, List.set_cons_succ]
                refine wpAnyB_take (i := 4) (v := (.int .i64 (i : Nat))) (by kernel_rfl) (by decide) rfl (by kernel_rfl) (by kernel_rfl) (by kernel_rfl) (fun _ _ _ h => h) (Or.inl ⟨by rfl, fun w hSw => by go_simp⟩) hS ?_; simp only [Act.put, Array.getInternal_eq_getElem, List.getElem_toArray, List.getElem_cons_zero, List.getElem_cons_succ, List.setIfInBounds_toArray, List.set_cons_zero, List.set_cons_succ]
                refine wpAnyB_take (i := 5) (v := (.pointer (some ⟨pb, pof + i, none⟩))) (by kernel_rfl) (by decide) rfl (by kernel_rfl) (by kernel_rfl) (by kernel_rfl) (fun _ _ _ h => h) (Or.inl ⟨by rfl, fun w hSw => by go_simp⟩) hS ?_; simp only [Act.put, Array.getInternal_eq_getElem, List.getElem_toArray, List.getElem_cons_zero, List.getElem_cons_succ, List.setIfInBounds_toArray, List.set_cons_zero, List.set_cons_succ]
                refine wpAnyB_take (i := 6) (v := (.slice qa p.length qc)) (by kernel_rfl) (by decide) rfl (by kernel_rfl) (by kernel_rfl) (by kernel_rfl) (fun _ _ _ h => h) (Or.inl ⟨by rfl, fun w hSw => by go_simp⟩) hS ?_; simp only [Act.put, Array.getInternal_eq_getElem, List.getElem_toArray, List.getElem_cons_zero, List.getElem_cons_succ, List.setIfInBounds_toArray, List.set_cons_zero, List.set_cons_succ]
                refine wpAnyB_one (i := 7) (by kernel_rfl) ?_
                refine wpOp_intro (by decide) (fun K5 HK5 => ?_); simp only [List.drop_succ_cons, List.drop_zero, List.take_succ_cons, List.take_zero]
                go_wp2_with fail
                have hbd : Below w3.heap.size w3 w3.drew := Below.drew (Below.refl _ _)
                refine (plan_any base B st V own _ p w3.drew (H3.out.below hbd).ok (HQV.out.below (H3.out.below hbd).bel) (by omega)).mono ?_
                rintro e w4 ⟨rfl, hp4⟩
                obtain ⟨V4, own4, h4⟩ := (H3.out.below hbd).op hp4
                have HS := Lib.hid h4
                have HARM : Hid (∀ n, 0 ≤ n → Fs.arm (Fs.planned st p) n = (Fs.powered st p n, 0)) := Lib.hid fun n hn => (HI.out.arm p hn).1
                have p4 : w4.cell? ⟨pb, pof + i, none⟩ = some (.slice qa p.length qc) := by rw [← p0]; exact World.cell?_of_block ((h4.bel.block pb hpb).trans (H3.out.bel.block pb hpb).symm)
                clear hp4 h4
                go_wp2_with fail
                refine HK5.out _ _ ⟨fun _ => p4, ?_⟩
                clear HK5 hS
                refine wpAnyB_done (by kernel_rfl) ?_ _
                obtain ⟨pl, hpl2⟩ : ∃ x, x = p := ⟨_, rfl⟩
                rw [← hpl2] at HS HARM HPZ
                have harg : 0 ≤ (0 : Int) ∧ (0 : Int) ≤ 9 := by first | exact cutAt _ | decide
                obtain ⟨hz0, hz9⟩ := harg
                go_wp2_with fail
                refine (arm_any base B _ _ _ ((0 : Int)) _ HS.out.ok (by omega)).mono ?_
                rintro e w5 ⟨rfl, hp5⟩
                rw [HARM.out _ hz0] at hp5 ⊢
                obtain ⟨pn, hpn⟩ : ∃ x, x = (0 : Int) := ⟨_, rfl⟩
                rw [← hpn] at hp5
                clear hpn hz0 hz9
                obtain ⟨V5, own5, h5⟩ := HS.out.op hp5
                have H5 := Lib.hid h5
                have z0 := root_cell h5.cx 0 _ rfl
                have z1 := root_cell h5.cx 1 _ rfl
                clear hp5 h5
                go_wp2_with fail
                refine (save_any base B _ V5 own5 m.1 _ m.2 w5 H5.out.ok ((HEb.out.below H5.out.bel).mono H5.out.wb).sg H5.out.hb 2 (HI.out.sound pl pn) (by omega) (fun z hz => (HPZ.out z hz).2) (HSV.out.below H5.out.bel) (by omega)).mono ?_
                rintro e w6 ⟨rfl, hp6⟩
                obtain ⟨V6, own6, h6⟩ := H5.out.op hp6
                obtain ⟨hs14, hroom, hrnd⟩ := HI.out.round pl (fun z hz => (HPZ.out z hz).2) pn HG.out 0 [0, 0, 0]
                obtain ⟨E, hE⟩ : ∃ E, E = (Mf.save (Fs.powered st pl pn) m.1 m.2).2 := ⟨_, rfl⟩
                obtain ⟨st6, hst6⟩ : ∃ x, x = (Mf.save (Fs.powered st pl pn) m.1 m.2).1 := ⟨_, rfl⟩
                rw [← hE] at hrnd ⊢
                rw [← hst6] at h6 hs14 hroom hrnd
                have H6 := Lib.hid h6
                have HS14 := Lib.hid hs14
                have HRM := Lib.hid hroom
                have HRND := Lib.hid hrnd
                clear hp6 h6 hE hst6 hs14 hroom hrnd z0 z1
                go_wp2_with fail
                have hbT : Below w6.heap.size w6 (w6.alloc (.cells #[.int .i64 (0), .int .i64 (0), .int .i64 (0)] 3)) := (Below.refl _ _).alloc (Nat.le_refl _) _
                have HT6 := Lib.hid (H6.out.below hbT)
                have HTN : Hid (Ints (w6.alloc (.cells #[.int .i64 (0), .int .i64 (0), .int .i64 (0)] 3)) (.slice (some ⟨w6.heap.size, 0, none⟩) 3 3) [0, 0, 0]) :=
                  Lib.hid (OwnI.nums (base := w6.heap.size) (World.ownsRow_lit (base := w6.heap.size) (e := 3) (size := 1) w6 #[.int .i64 (0), .int .i64 (0), .int .i64 (0)] 3 (Nat.le_refl _) (by unfold maxLen; omega) rfl))
                clear hbT
                refine (crash_any base B st6 V6 own6 (0) _ [0, 0, 0] _ HT6.out.ok HT6.out.hb 14 HS14.out (by omega) HTN.out (by simp) (by rw [HRM.out]; omega)).mono ?_
                rintro e w7 ⟨B7, V7, own7, rfl, hok7, hb7⟩
                obtain ⟨st7, hst7⟩ : ∃ x, x = Fs.crash st6 (0) [0, 0, 0] := ⟨_, rfl⟩
                obtain ⟨hs7, hr7⟩ := HRND.out st7 hst7
                rw [← hst7] at hok7
                have H7 := Lib.hid (HT6.out.crashed hok7 hb7)
                obtain ⟨b7, hb7e⟩ : ∃ x, x = (w6.alloc (.cells #[.int .i64 (0), .int .i64 (0), .int .i64 (0)] 3)).heap.size := ⟨_, rfl⟩
                rw [← hb7e] at H7
                have HS7 := Lib.hid hs7
                have HR7 := Lib.hid hr7
                clear hst7 hok7 hb7 hb7e hs7 hr7
                go_wp2_with fail
                refine (load_any b7 B7 st7 V7 own7 w7 H7.out.ok ((HEb.out.below H7.out.bel).mono H7.out.wb) H7.out.hb 14 HS7.out).mono ?_
                rintro e w8 ⟨hb8, sv8, rfl, hoi8⟩
                have H8 := Lib.hid (H7.out.below hb8)
                obtain ⟨Lx, hLx⟩ : ∃ x, x = Mf.load st7 := ⟨_, rfl⟩
                rw [← hLx] at hoi8 ⊢
                obtain ⟨sva, svn, svc, hsv, HSVN⟩ := OwnI.form3 hoi8
                subst hsv
                have HOI8 := Lib.hid hoi8
                have HLX := Lib.hid hLx
                clear hb8 hoi8 hLx
                have hR := HR7.out
                rw [← HLX.out] at hR
                rcases hR with ⟨hL, hinv7⟩ | ⟨hEn, hinv7, hL⟩
                · have HL := Lib.hid hL
                  have HI7 := Lib.hid hinv7
                  clear hL hinv7
                  rw [HL.out]
                  have hlb : m.2.length ≤ 1000000000 := by omega
                  have hbb : decide (m.1 = m.1 ∧ m.2 = m.2) = true := decide_eq_true ⟨rfl, rfl⟩
                  have hbA : Below w8.heap.size w8 (w8.alloc (.cells #[.int .i64 m.1, .slice sva svn svc] 24)) := (Below.refl _ _).alloc (Nat.le_refl _) _
                  have H8A := Lib.hid (H8.out.below hbA)
                  have HNA : Hid (Nums (w8.alloc (.cells #[.int .i64 m.1, .slice sva svn svc] 24)) (.slice sva svn svc) m.2) := Lib.hid (by have := (HOI8.out.keep hbA).nums; rw [show Lx.1.2 = m.2 by first | rw [HL2.out] | rw [HL.out]] at this; exact this)
                  have HNM : Hid (Ints (w8.alloc (.cells #[.int .i64 m.1, .slice sva svn svc] 24)) (.slice sa m.2.length sc) m.2) := Lib.hid (HSV.out.below H8A.out.bel)
                  have hg3 := heap_new w8 (.cells #[.int .i64 m.1, .slice sva svn svc] 24)
                  have x0 := fun x => Later.cell (root_cell hg3 0 _ rfl : (w8.alloc (.cells #[.int .i64 m.1, .slice sva svn svc] 24)).cell? ⟨w8.heap.size, 0, none⟩ = some (.int .i64 m.1)) x
                  have x1 := fun x => Later.cell (root_cell hg3 1 _ rfl : (w8.alloc (.cells #[.int .i64 m.1, .slice sva svn svc] 24)).cell? ⟨w8.heap.size, 1, none⟩ = some (.slice sva svn svc)) x
                  have x2 := fun x => Later.cell (root_cell H8A.out.cx 0 _ rfl : (w8.alloc (.cells #[.int .i64 m.1, .slice sva svn svc] 24)).cell? ⟨wr.heap.size, 0, none⟩ = some (.int .i64 m.1)) x
                  have x3 := fun x => Later.cell (root_cell H8A.out.cx 1 _ rfl : (w8.alloc (.cells #[.int .i64 m.1, .slice sva svn svc] 24)).cell? ⟨wr.heap.size, 1, none⟩ = some (.slice sa m.2.length sc)) x
                  have HREF : Hid (∀ x : Later (w8.alloc (.cells #[.int .i64 m.1, .slice sva svn svc] 24)), Calls Tryz.prog 16 #[.agg #[.int .i64 m.1, .slice sa m.2.length sc]] x.1 fun e w' => e = .returned (.agg #[.int .i64 m.1, .slice sa m.2.length sc]) ∧ Below x.1.heap.size x.1 w') :=
                    Lib.hid fun x => lref_any _ _ _ _ _
                  have HSAME : Hid (∀ x : Later (w8.alloc (.cells #[.int .i64 m.1, .slice sva svn svc] 24)), Calls Tryz.prog 20 #[.agg #[.int .i64 m.1, .slice sva svn svc], .agg #[.int .i64 m.1, .slice sa m.2.length sc]] x.1 fun e w' => e = .returned (.bool true) ∧ Below x.1.heap.size x.1 w') :=
                    Lib.hid fun x => (lsame_any m.1 m.1 _ _ m.2 m.2 _ (HNA.out.below x.2) (HNM.out.below x.2) hlb (by omega)).mono (by rintro e w' ⟨rfl, hb⟩; exact ⟨by rw [hbb], hb⟩)
                  clear hg3 hbA
                  go_wp2_with fail
                  refine wp_region_later (by kernel_rfl) (by kernel_rfl) ?_
                  repeat (go_big_quiet_step ((first | (with_reducible exact Later.call (v := .agg #[.int .i64 m.1, .slice sa m.2.length sc]) (HREF.out _)) | (with_reducible exact Later.call (v := .bool true) (HSAME.out _)))))
                  refine wpQuiet_nil ?_; rintro w9 ⟨⟨_, hb9⟩, rfl⟩
                  have H9 := Lib.hid (H8A.out.below hb9)
                  clear x0 x1 x2 x3
                  have q0 := root_frozen H9.out.cell 0
                  have q1 := root_frozen H9.out.cell 1
                  have r0 : w9.cell? ⟨w2.heap.size, 0, none⟩ = some (.int .i64 now.1) := root_cell H9.out.cell 0 _ rfl
                  have r1 : w9.cell? ⟨w2.heap.size, 1, none⟩ = some nv := root_cell H9.out.cell 1 _ rfl
                  have s0 : w9.cell? ⟨wr.heap.size, 0, none⟩ = some (.int .i64 m.1) := root_cell H9.out.cx 0 _ rfl
                  have s1 : w9.cell? ⟨wr.heap.size, 1, none⟩ = some (.slice sa m.2.length sc) := root_cell H9.out.cx 1 _ rfl
                  clear hb9
                  go_wp2_with fail
                  go_roundg (ms.length - (i + 1))
                  case measure => rw [HK.out]; omega
                  case rel => exact ⟨i + 1, b7, B7, st7, V7, own7, true, (m.1, m.2), .slice sa m.2.length sc, by omega, by omega, rfl, rfl, rfl, by simp, (H9.out.toSWorld.set 0 (.int .i64 m.1)).set 1 (.slice sa m.2.length sc), HI7.out, HSV.out⟩
                · have HL := Lib.hid hL
                  have HI7 := Lib.hid hinv7
                  have hte : (E == 0) = false := by rw [beq_eq_false_iff_ne]; exact hEn
                  clear hL hinv7 hEn
                  cases there
                  · have HL2 : Hid (Lx = ((0, []), 3)) := Lib.hid (by rw [HL.out]; rfl)
                    rw [HL2.out]
                    have H8A := Lib.hid (H8.out.below ((Below.refl _ _).alloc (Nat.le_refl _) (.cells #[.int .i64 0, .slice sva svn svc] 24)))
                    go_wp2_with fail
                    refine wp_region_cuts [] (by kernel_rfl) (by kernel_rfl) ?_; simp only [wpMix, List.take_succ_cons, List.take_zero, List.drop_succ_cons, List.drop_zero, Nat.sub_zero, Nat.reduceSub, Nat.reduceAdd]
                    repeat (go_big_quiet_step (fail))
                    refine wpQuiet_nil ?_; rintro _ ⟨nq, rfl⟩
                    go_wp2_with fail
                    refine wp_region_cuts [] (by kernel_rfl) (by kernel_rfl) ?_; simp only [wpMix, List.take_succ_cons, List.take_zero, List.drop_succ_cons, List.drop_zero, Nat.sub_zero, Nat.reduceSub, Nat.reduceAdd]
                    repeat (go_big_quiet_step (fail))
                    refine wpQuiet_nil ?_; rintro _ ⟨nq, rfl⟩
                    go_wp2_with fail
                    go_roundg (ms.length - (i + 1))
                    case measure => rw [HK.out]; omega
                    case rel => exact ⟨i + 1, b7, B7, st7, V7, own7, false, now, nv, by omega, by omega, rfl, rfl, rfl, by simp, (H8A.out.below (Below.drewN (Below.refl _ _) _)).toSWorld, HI7.out, HNV.out⟩
                  · have HL2 : Hid (Lx = (now, 0)) := Lib.hid (by rw [HL.out]; rfl)
                    rw [HL2.out]
                    have hlb : now.2.length ≤ 1000000000 := by have := (Mf.good_out (HI.out.gd rfl)).2.1; omega
                    cases hbb : decide (now.1 = m.1 ∧ now.2 = m.2)
                    · skip
                      have hbA : Below w8.heap.size w8 (w8.alloc (.cells #[.int .i64 now.1, .slice sva svn svc] 24)) := (Below.refl _ _).alloc (Nat.le_refl _) _
                      have H8A := Lib.hid (H8.out.below hbA)
                      have HNA : Hid (Nums (w8.alloc (.cells #[.int .i64 now.1, .slice sva svn svc] 24)) (.slice sva svn svc) now.2) := Lib.hid (by have := (HOI8.out.keep hbA).nums; rw [show Lx.1.2 = now.2 by first | rw [HL2.out] | rw [HL.out]] at this; exact this)
                      have HNM : Hid (Ints (w8.alloc (.cells #[.int .i64 now.1, .slice sva svn svc] 24)) (.slice sa m.2.length sc) m.2) := Lib.hid (HSV.out.below H8A.out.bel)
                      have hg3 := heap_new w8 (.cells #[.int .i64 now.1, .slice sva svn svc] 24)
                      have x0 := fun x => Later.cell (root_cell hg3 0 _ rfl : (w8.alloc (.cells #[.int .i64 now.1, .slice sva svn svc] 24)).cell? ⟨w8.heap.size, 0, none⟩ = some (.int .i64 now.1)) x
                      have x1 := fun x => Later.cell (root_cell hg3 1 _ rfl : (w8.alloc (.cells #[.int .i64 now.1, .slice sva svn svc] 24)).cell? ⟨w8.heap.size, 1, none⟩ = some (.slice sva svn svc)) x
                      have x2 := fun x => Later.cell (root_cell H8A.out.cx 0 _ rfl : (w8.alloc (.cells #[.int .i64 now.1, .slice sva svn svc] 24)).cell? ⟨wr.heap.size, 0, none⟩ = some (.int .i64 m.1)) x
                      have x3 := fun x => Later.cell (root_cell H8A.out.cx 1 _ rfl : (w8.alloc (.cells #[.int .i64 now.1, .slice sva svn svc] 24)).cell? ⟨wr.heap.size, 1, none⟩ = some (.slice sa m.2.length sc)) x
                      have HREF : Hid (∀ x : Later (w8.alloc (.cells #[.int .i64 now.1, .slice sva svn svc] 24)), Calls Tryz.prog 16 #[.agg #[.int .i64 m.1, .slice sa m.2.length sc]] x.1 fun e w' => e = .returned (.agg #[.int .i64 m.1, .slice sa m.2.length sc]) ∧ Below x.1.heap.size x.1 w') :=
                        Lib.hid fun x => lref_any _ _ _ _ _
                      have HSAME : Hid (∀ x : Later (w8.alloc (.cells #[.int .i64 now.1, .slice sva svn svc] 24)), Calls Tryz.prog 20 #[.agg #[.int .i64 now.1, .slice sva svn svc], .agg #[.int .i64 m.1, .slice sa m.2.length sc]] x.1 fun e w' => e = .returned (.bool false) ∧ Below x.1.heap.size x.1 w') :=
                        Lib.hid fun x => (lsame_any now.1 m.1 _ _ now.2 m.2 _ (HNA.out.below x.2) (HNM.out.below x.2) hlb (by omega)).mono (by rintro e w' ⟨rfl, hb⟩; exact ⟨by rw [hbb], hb⟩)
                      clear hg3 hbA
                      go_wp2_with fail
                      refine wp_region_later (by kernel_rfl) (by kernel_rfl) ?_
                      repeat (go_big_quiet_step ((first | (with_reducible exact Later.call (v := .agg #[.int .i64 m.1, .slice sa m.2.length sc]) (HREF.out _)) | (with_reducible exact Later.call (v := .bool false) (HSAME.out _)))))
                      refine wpQuiet_nil ?_; rintro w9 ⟨⟨_, hb9⟩, rfl⟩
                      have H9 := Lib.hid (H8A.out.below hb9)
                      clear x0 x1 x2 x3
                      have HN9 : Hid (Ints w9 nv now.2) := Lib.hid (HNV.out.below H9.out.bel)
                      have u0 := fun x => Later.cell (root_cell H9.out.cell 0 _ rfl : w9.cell? ⟨w2.heap.size, 0, none⟩ = some (.int .i64 now.1)) x
                      have u1 := fun x => Later.cell (root_cell H9.out.cell 1 _ rfl : w9.cell? ⟨w2.heap.size, 1, none⟩ = some nv) x
                      have hv0 := (hb9.block _ (by simp)).trans (heap_new w8 (.cells #[.int .i64 now.1, .slice sva svn svc] 24))
                      have v0 := fun x => Later.cell (root_cell hv0 0 _ rfl : w9.cell? ⟨w8.heap.size, 0, none⟩ = some (.int .i64 now.1)) x
                      have v1 := fun x => Later.cell (root_cell hv0 1 _ rfl : w9.cell? ⟨w8.heap.size, 1, none⟩ = some (.slice sva svn svc)) x
                      obtain ⟨na, nc, rfl⟩ := HNV.out.form
                      have HREF2 : Hid (∀ x : Later w9, Calls Tryz.prog 16 #[.agg #[.int .i64 now.1, .slice na now.2.length nc]] x.1 fun e w' => e = .returned (.agg #[.int .i64 now.1, .slice na now.2.length nc]) ∧ Below x.1.heap.size x.1 w') :=
                        Lib.hid fun x => lref_any _ _ _ _ _
                      have HSAME2 : Hid (∀ x : Later w9, Calls Tryz.prog 20 #[.agg #[.int .i64 now.1, .slice sva svn svc], .agg #[.int .i64 now.1, .slice na now.2.length nc]] x.1 fun e w' => e = .returned (.bool true) ∧ Below x.1.heap.size x.1 w') :=
                        Lib.hid fun x => (lsame_any now.1 now.1 _ _ now.2 now.2 _ ((HNA.out.below hb9).below x.2) (HN9.out.below x.2) hlb hlb).mono (by rintro e w' ⟨rfl, hb⟩; exact ⟨by rw [decide_eq_true ⟨rfl, rfl⟩], hb⟩)
                      clear hb9 hv0
                      go_wp2_with fail
                      refine wp_region_later (by kernel_rfl) (by kernel_rfl) ?_
                      repeat (go_big_quiet_step ((first | (with_reducible exact Later.call (v := .agg #[.int .i64 now.1, .slice na now.2.length nc]) (HREF2.out _)) | (with_reducible exact Later.call (v := .bool true) (HSAME2.out _)))))
                      refine wpQuiet_nil ?_; rintro w10 ⟨⟨_, hb10⟩, rfl⟩
                      have H10 := Lib.hid (H9.out.below hb10)
                      clear hb10 u0 u1 v0 v1
                      go_wp2_with fail
                      go_roundg (ms.length - (i + 1))
                      case measure => rw [HK.out]; omega
                      case rel => exact ⟨i + 1, b7, B7, st7, V7, own7, true, now, _, by omega, by omega, rfl, rfl, rfl, by simp, H10.out.toSWorld, HI7.out, HNV.out⟩
                    · skip
                      have hbA : Below w8.heap.size w8 (w8.alloc (.cells #[.int .i64 now.1, .slice sva svn svc] 24)) := (Below.refl _ _).alloc (Nat.le_refl _) _
                      have H8A := Lib.hid (H8.out.below hbA)
                      have HNA : Hid (Nums (w8.alloc (.cells #[.int .i64 now.1, .slice sva svn svc] 24)) (.slice sva svn svc) now.2) := Lib.hid (by have := (HOI8.out.keep hbA).nums; rw [show Lx.1.2 = now.2 by first | rw [HL2.out] | rw [HL.out]] at this; exact this)
                      have HNM : Hid (Ints (w8.alloc (.cells #[.int .i64 now.1, .slice sva svn svc] 24)) (.slice sa m.2.length sc) m.2) := Lib.hid (HSV.out.below H8A.out.bel)
                      have hg3 := heap_new w8 (.cells #[.int .i64 now.1, .slice sva svn svc] 24)
                      have x0 := fun x => Later.cell (root_cell hg3 0 _ rfl : (w8.alloc (.cells #[.int .i64 now.1, .slice sva svn svc] 24)).cell? ⟨w8.heap.size, 0, none⟩ = some (.int .i64 now.1)) x
                      have x1 := fun x => Later.cell (root_cell hg3 1 _ rfl : (w8.alloc (.cells #[.int .i64 now.1, .slice sva svn svc] 24)).cell? ⟨w8.heap.size, 1, none⟩ = some (.slice sva svn svc)) x
                      have x2 := fun x => Later.cell (root_cell H8A.out.cx 0 _ rfl : (w8.alloc (.cells #[.int .i64 now.1, .slice sva svn svc] 24)).cell? ⟨wr.heap.size, 0, none⟩ = some (.int .i64 m.1)) x
                      have x3 := fun x => Later.cell (root_cell H8A.out.cx 1 _ rfl : (w8.alloc (.cells #[.int .i64 now.1, .slice sva svn svc] 24)).cell? ⟨wr.heap.size, 1, none⟩ = some (.slice sa m.2.length sc)) x
                      have HREF : Hid (∀ x : Later (w8.alloc (.cells #[.int .i64 now.1, .slice sva svn svc] 24)), Calls Tryz.prog 16 #[.agg #[.int .i64 m.1, .slice sa m.2.length sc]] x.1 fun e w' => e = .returned (.agg #[.int .i64 m.1, .slice sa m.2.length sc]) ∧ Below x.1.heap.size x.1 w') :=
                        Lib.hid fun x => lref_any _ _ _ _ _
                      have HSAME : Hid (∀ x : Later (w8.alloc (.cells #[.int .i64 now.1, .slice sva svn svc] 24)), Calls Tryz.prog 20 #[.agg #[.int .i64 now.1, .slice sva svn svc], .agg #[.int .i64 m.1, .slice sa m.2.length sc]] x.1 fun e w' => e = .returned (.bool true) ∧ Below x.1.heap.size x.1 w') :=
                        Lib.hid fun x => (lsame_any now.1 m.1 _ _ now.2 m.2 _ (HNA.out.below x.2) (HNM.out.below x.2) hlb (by omega)).mono (by rintro e w' ⟨rfl, hb⟩; exact ⟨by rw [hbb], hb⟩)
                      clear hg3 hbA
                      go_wp2_with fail
                      refine wp_region_later (by kernel_rfl) (by kernel_rfl) ?_
                      repeat (go_big_quiet_step ((first | (with_reducible exact Later.call (v := .agg #[.int .i64 m.1, .slice sa m.2.length sc]) (HREF.out _)) | (with_reducible exact Later.call (v := .bool true) (HSAME.out _)))))
                      refine wpQuiet_nil ?_; rintro w9 ⟨⟨_, hb9⟩, rfl⟩
                      have H9 := Lib.hid (H8A.out.below hb9)
                      clear x0 x1 x2 x3
                      have HI7 : Hid (Fs.SwapInv st7 true (m.1, m.2)) := Lib.hid (by
                        obtain ⟨h1, h2⟩ := of_decide_eq_true hbb
                        have := HI7.out
                        rwa [show now = (m.1, m.2) from Prod.ext h1 h2] at this)
                      have q0 := root_frozen H9.out.cell 0
                      have q1 := root_frozen H9.out.cell 1
                      have r0 : w9.cell? ⟨w2.heap.size, 0, none⟩ = some (.int .i64 now.1) := root_cell H9.out.cell 0 _ rfl
                      have r1 : w9.cell? ⟨w2.heap.size, 1, none⟩ = some nv := root_cell H9.out.cell 1 _ rfl
                      have s0 : w9.cell? ⟨wr.heap.size, 0, none⟩ = some (.int .i64 m.1) := root_cell H9.out.cx 0 _ rfl
                      have s1 : w9.cell? ⟨wr.heap.size, 1, none⟩ = some (.slice sa m.2.length sc) := root_cell H9.out.cx 1 _ rfl
                      clear hb9
                      go_wp2_with fail
                      go_roundg (ms.length - (i + 1))
                      case measure => rw [HK.out]; omega
                      case rel => exact ⟨i + 1, b7, B7, st7, V7, own7, true, (m.1, m.2), .slice sa m.2.length sc, by omega, by omega, rfl, rfl, rfl, by simp, (H9.out.toSWorld.set 0 (.int .i64 m.1)).set 1 (.slice sa m.2.length sc), HI7.out, HSV.out⟩
              · have hp' : (20 : Int) < (p.length : Int) := by omega
                have HS := H3
                have HARM : Hid (∀ n, 0 ≤ n → Fs.arm st n = (Fs.powered st [] n, 0)) := Lib.hid fun n hn => (HI.out.arm [] hn).2
                have HPZ : Hid (∀ z ∈ ([] : List Int), I64 z) := Lib.hid fun z hz => by cases hz
                obtain ⟨pl, hpl2⟩ : ∃ x : List Int, x = [] := ⟨_, rfl⟩
                rw [← hpl2] at HARM HPZ
                have harg : 0 ≤ (0 : Int) ∧ (0 : Int) ≤ 9 := by first | exact cutAt _ | decide
                obtain ⟨hz0, hz9⟩ := harg
                go_wp2_with fail
                refine (arm_any base B _ _ _ ((0 : Int)) _ HS.out.ok (by omega)).mono ?_
                rintro e w5 ⟨rfl, hp5⟩
                rw [HARM.out _ hz0] at hp5 ⊢
                obtain ⟨pn, hpn⟩ : ∃ x, x = (0 : Int) := ⟨_, rfl⟩
                rw [← hpn] at hp5
                clear hpn hz0 hz9
                obtain ⟨V5, own5, h5⟩ := HS.out.op hp5
                have H5 := Lib.hid h5
                have z0 := root_cell h5.cx 0 _ rfl
                have z1 := root_cell h5.cx 1 _ rfl
                clear hp5 h5
                go_wp2_with fail
                refine (save_any base B _ V5 own5 m.1 _ m.2 w5 H5.out.ok ((HEb.out.below H5.out.bel).mono H5.out.wb).sg H5.out.hb 2 (HI.out.sound pl pn) (by omega) (fun z hz => (HPZ.out z hz).2) (HSV.out.below H5.out.bel) (by omega)).mono ?_
                rintro e w6 ⟨rfl, hp6⟩
                obtain ⟨V6, own6, h6⟩ := H5.out.op hp6
                obtain ⟨hs14, hroom, hrnd⟩ := HI.out.round pl (fun z hz => (HPZ.out z hz).2) pn HG.out 0 [0, 0, 0]
                obtain ⟨E, hE⟩ : ∃ E, E = (Mf.save (Fs.powered st pl pn) m.1 m.2).2 := ⟨_, rfl⟩
                obtain ⟨st6, hst6⟩ : ∃ x, x = (Mf.save (Fs.powered st pl pn) m.1 m.2).1 := ⟨_, rfl⟩
                rw [← hE] at hrnd ⊢
                rw [← hst6] at h6 hs14 hroom hrnd
                have H6 := Lib.hid h6
                have HS14 := Lib.hid hs14
                have HRM := Lib.hid hroom
                have HRND := Lib.hid hrnd
                clear hp6 h6 hE hst6 hs14 hroom hrnd z0 z1
                go_wp2_with fail
                have hbT : Below w6.heap.size w6 (w6.alloc (.cells #[.int .i64 (0), .int .i64 (0), .int .i64 (0)] 3)) := (Below.refl _ _).alloc (Nat.le_refl _) _
                have HT6 := Lib.hid (H6.out.below hbT)
                have HTN : Hid (Ints (w6.alloc (.cells #[.int .i64 (0), .int .i64 (0), .int .i64 (0)] 3)) (.slice (some ⟨w6.heap.size, 0, none⟩) 3 3) [0, 0, 0]) :=
                  Lib.hid (OwnI.nums (base := w6.heap.size) (World.ownsRow_lit (base := w6.heap.size) (e := 3) (size := 1) w6 #[.int .i64 (0), .int .i64 (0), .int .i64 (0)] 3 (Nat.le_refl _) (by unfold maxLen; omega) rfl))
                clear hbT
                refine (crash_any base B st6 V6 own6 (0) _ [0, 0, 0] _ HT6.out.ok HT6.out.hb 14 HS14.out (by omega) HTN.out (by simp) (by rw [HRM.out]; omega)).mono ?_
                rintro e w7 ⟨B7, V7, own7, rfl, hok7, hb7⟩
                obtain ⟨st7, hst7⟩ : ∃ x, x = Fs.crash st6 (0) [0, 0, 0] := ⟨_, rfl⟩
                obtain ⟨hs7, hr7⟩ := HRND.out st7 hst7
                rw [← hst7] at hok7
                have H7 := Lib.hid (HT6.out.crashed hok7 hb7)
                obtain ⟨b7, hb7e⟩ : ∃ x, x = (w6.alloc (.cells #[.int .i64 (0), .int .i64 (0), .int .i64 (0)] 3)).heap.size := ⟨_, rfl⟩
                rw [← hb7e] at H7
                have HS7 := Lib.hid hs7
                have HR7 := Lib.hid hr7
                clear hst7 hok7 hb7 hb7e hs7 hr7
                go_wp2_with fail
                refine (load_any b7 B7 st7 V7 own7 w7 H7.out.ok ((HEb.out.below H7.out.bel).mono H7.out.wb) H7.out.hb 14 HS7.out).mono ?_
                rintro e w8 ⟨hb8, sv8, rfl, hoi8⟩
                have H8 := Lib.hid (H7.out.below hb8)
                obtain ⟨Lx, hLx⟩ : ∃ x, x = Mf.load st7 := ⟨_, rfl⟩
                rw [← hLx] at hoi8 ⊢
                obtain ⟨sva, svn, svc, hsv, HSVN⟩ := OwnI.form3 hoi8
                subst hsv
                have HOI8 := Lib.hid hoi8
                have HLX := Lib.hid hLx
                clear hb8 hoi8 hLx
                have hR := HR7.out
                rw [← HLX.out] at hR
                rcases hR with ⟨hL, hinv7⟩ | ⟨hEn, hinv7, hL⟩
                · have HL := Lib.hid hL
                  have HI7 := Lib.hid hinv7
                  clear hL hinv7
                  rw [HL.out]
                  have hlb : m.2.length ≤ 1000000000 := by omega
                  have hbb : decide (m.1 = m.1 ∧ m.2 = m.2) = true := decide_eq_true ⟨rfl, rfl⟩
                  have hbA : Below w8.heap.size w8 (w8.alloc (.cells #[.int .i64 m.1, .slice sva svn svc] 24)) := (Below.refl _ _).alloc (Nat.le_refl _) _
                  have H8A := Lib.hid (H8.out.below hbA)
                  have HNA : Hid (Nums (w8.alloc (.cells #[.int .i64 m.1, .slice sva svn svc] 24)) (.slice sva svn svc) m.2) := Lib.hid (by have := (HOI8.out.keep hbA).nums; rw [show Lx.1.2 = m.2 by first | rw [HL2.out] | rw [HL.out]] at this; exact this)
                  have HNM : Hid (Ints (w8.alloc (.cells #[.int .i64 m.1, .slice sva svn svc] 24)) (.slice sa m.2.length sc) m.2) := Lib.hid (HSV.out.below H8A.out.bel)
                  have hg3 := heap_new w8 (.cells #[.int .i64 m.1, .slice sva svn svc] 24)
                  have x0 := fun x => Later.cell (root_cell hg3 0 _ rfl : (w8.alloc (.cells #[.int .i64 m.1, .slice sva svn svc] 24)).cell? ⟨w8.heap.size, 0, none⟩ = some (.int .i64 m.1)) x
                  have x1 := fun x => Later.cell (root_cell hg3 1 _ rfl : (w8.alloc (.cells #[.int .i64 m.1, .slice sva svn svc] 24)).cell? ⟨w8.heap.size, 1, none⟩ = some (.slice sva svn svc)) x
                  have x2 := fun x => Later.cell (root_cell H8A.out.cx 0 _ rfl : (w8.alloc (.cells #[.int .i64 m.1, .slice sva svn svc] 24)).cell? ⟨wr.heap.size, 0, none⟩ = some (.int .i64 m.1)) x
                  have x3 := fun x => Later.cell (root_cell H8A.out.cx 1 _ rfl : (w8.alloc (.cells #[.int .i64 m.1, .slice sva svn svc] 24)).cell? ⟨wr.heap.size, 1, none⟩ = some (.slice sa m.2.length sc)) x
                  have HREF : Hid (∀ x : Later (w8.alloc (.cells #[.int .i64 m.1, .slice sva svn svc] 24)), Calls Tryz.prog 16 #[.agg #[.int .i64 m.1, .slice sa m.2.length sc]] x.1 fun e w' => e = .returned (.agg #[.int .i64 m.1, .slice sa m.2.length sc]) ∧ Below x.1.heap.size x.1 w') :=
                    Lib.hid fun x => lref_any _ _ _ _ _
                  have HSAME : Hid (∀ x : Later (w8.alloc (.cells #[.int .i64 m.1, .slice sva svn svc] 24)), Calls Tryz.prog 20 #[.agg #[.int .i64 m.1, .slice sva svn svc], .agg #[.int .i64 m.1, .slice sa m.2.length sc]] x.1 fun e w' => e = .returned (.bool true) ∧ Below x.1.heap.size x.1 w') :=
                    Lib.hid fun x => (lsame_any m.1 m.1 _ _ m.2 m.2 _ (HNA.out.below x.2) (HNM.out.below x.2) hlb (by omega)).mono (by rintro e w' ⟨rfl, hb⟩; exact ⟨by rw [hbb], hb⟩)
                  clear hg3 hbA
                  go_wp2_with fail
                  refine wp_region_later (by kernel_rfl) (by kernel_rfl) ?_
                  repeat (go_big_quiet_step ((first | (with_reducible exact Later.call (v := .agg #[.int .i64 m.1, .slice sa m.2.length sc]) (HREF.out _)) | (with_reducible exact Later.call (v := .bool true) (HSAME.out _)))))
                  refine wpQuiet_nil ?_; rintro w9 ⟨⟨_, hb9⟩, rfl⟩
                  have H9 := Lib.hid (H8A.out.below hb9)
                  clear x0 x1 x2 x3
                  have q0 := root_frozen H9.out.cell 0
                  have q1 := root_frozen H9.out.cell 1
                  have r0 : w9.cell? ⟨w2.heap.size, 0, none⟩ = some (.int .i64 now.1) := root_cell H9.out.cell 0 _ rfl
                  have r1 : w9.cell? ⟨w2.heap.size, 1, none⟩ = some nv := root_cell H9.out.cell 1 _ rfl
                  have s0 : w9.cell? ⟨wr.heap.size, 0, none⟩ = some (.int .i64 m.1) := root_cell H9.out.cx 0 _ rfl
                  have s1 : w9.cell? ⟨wr.heap.size, 1, none⟩ = some (.slice sa m.2.length sc) := root_cell H9.out.cx 1 _ rfl
                  clear hb9
                  go_wp2_with fail
                  go_roundg (ms.length - (i + 1))
                  case measure => rw [HK.out]; omega
                  case rel => exact ⟨i + 1, b7, B7, st7, V7, own7, true, (m.1, m.2), .slice sa m.2.length sc, by omega, by omega, rfl, rfl, rfl, by simp, (H9.out.toSWorld.set 0 (.int .i64 m.1)).set 1 (.slice sa m.2.length sc), HI7.out, HSV.out⟩
                · have HL := Lib.hid hL
                  have HI7 := Lib.hid hinv7
                  have hte : (E == 0) = false := by rw [beq_eq_false_iff_ne]; exact hEn
                  clear hL hinv7 hEn
                  cases there
                  · have HL2 : Hid (Lx = ((0, []), 3)) := Lib.hid (by rw [HL.out]; rfl)
                    rw [HL2.out]
                    have H8A := Lib.hid (H8.out.below ((Below.refl _ _).alloc (Nat.le_refl _) (.cells #[.int .i64 0, .slice sva svn svc] 24)))
                    go_wp2_with fail
                    refine wp_region_cuts [] (by kernel_rfl) (by kernel_rfl) ?_; simp only [wpMix, List.take_succ_cons, List.take_zero, List.drop_succ_cons, List.drop_zero, Nat.sub_zero, Nat.reduceSub, Nat.reduceAdd]
                    repeat (go_big_quiet_step (fail))
                    refine wpQuiet_nil ?_; rintro _ ⟨nq, rfl⟩
                    go_wp2_with fail
                    refine wp_region_cuts [] (by kernel_rfl) (by kernel_rfl) ?_; simp only [wpMix, List.take_succ_cons, List.take_zero, List.drop_succ_cons, List.drop_zero, Nat.sub_zero, Nat.reduceSub, Nat.reduceAdd]
                    repeat (go_big_quiet_step (fail))
                    refine wpQuiet_nil ?_; rintro _ ⟨nq, rfl⟩
                    go_wp2_with fail
                    go_roundg (ms.length - (i + 1))
                    case measure => rw [HK.out]; omega
                    case rel => exact ⟨i + 1, b7, B7, st7, V7, own7, false, now, nv, by omega, by omega, rfl, rfl, rfl, by simp, (H8A.out.below (Below.drewN (Below.refl _ _) _)).toSWorld, HI7.out, HNV.out⟩
                  · have HL2 : Hid (Lx = (now, 0)) := Lib.hid (by rw [HL.out]; rfl)
                    rw [HL2.out]
                    have hlb : now.2.length ≤ 1000000000 := by have := (Mf.good_out (HI.out.gd rfl)).2.1; omega
                    cases hbb : decide (now.1 = m.1 ∧ now.2 = m.2)
                    · skip
                      have hbA : Below w8.heap.size w8 (w8.alloc (.cells #[.int .i64 now.1, .slice sva svn svc] 24)) := (Below.refl _ _).alloc (Nat.le_refl _) _
                      have H8A := Lib.hid (H8.out.below hbA)
                      have HNA : Hid (Nums (w8.alloc (.cells #[.int .i64 now.1, .slice sva svn svc] 24)) (.slice sva svn svc) now.2) := Lib.hid (by have := (HOI8.out.keep hbA).nums; rw [show Lx.1.2 = now.2 by first | rw [HL2.out] | rw [HL.out]] at this; exact this)
                      have HNM : Hid (Ints (w8.alloc (.cells #[.int .i64 now.1, .slice sva svn svc] 24)) (.slice sa m.2.length sc) m.2) := Lib.hid (HSV.out.below H8A.out.bel)
                      have hg3 := heap_new w8 (.cells #[.int .i64 now.1, .slice sva svn svc] 24)
                      have x0 := fun x => Later.cell (root_cell hg3 0 _ rfl : (w8.alloc (.cells #[.int .i64 now.1, .slice sva svn svc] 24)).cell? ⟨w8.heap.size, 0, none⟩ = some (.int .i64 now.1)) x
                      have x1 := fun x => Later.cell (root_cell hg3 1 _ rfl : (w8.alloc (.cells #[.int .i64 now.1, .slice sva svn svc] 24)).cell? ⟨w8.heap.size, 1, none⟩ = some (.slice sva svn svc)) x
                      have x2 := fun x => Later.cell (root_cell H8A.out.cx 0 _ rfl : (w8.alloc (.cells #[.int .i64 now.1, .slice sva svn svc] 24)).cell? ⟨wr.heap.size, 0, none⟩ = some (.int .i64 m.1)) x
                      have x3 := fun x => Later.cell (root_cell H8A.out.cx 1 _ rfl : (w8.alloc (.cells #[.int .i64 now.1, .slice sva svn svc] 24)).cell? ⟨wr.heap.size, 1, none⟩ = some (.slice sa m.2.length sc)) x
                      have HREF : Hid (∀ x : Later (w8.alloc (.cells #[.int .i64 now.1, .slice sva svn svc] 24)), Calls Tryz.prog 16 #[.agg #[.int .i64 m.1, .slice sa m.2.length sc]] x.1 fun e w' => e = .returned (.agg #[.int .i64 m.1, .slice sa m.2.length sc]) ∧ Below x.1.heap.size x.1 w') :=
                        Lib.hid fun x => lref_any _ _ _ _ _
                      have HSAME : Hid (∀ x : Later (w8.alloc (.cells #[.int .i64 now.1, .slice sva svn svc] 24)), Calls Tryz.prog 20 #[.agg #[.int .i64 now.1, .slice sva svn svc], .agg #[.int .i64 m.1, .slice sa m.2.length sc]] x.1 fun e w' => e = .returned (.bool false) ∧ Below x.1.heap.size x.1 w') :=
                        Lib.hid fun x => (lsame_any now.1 m.1 _ _ now.2 m.2 _ (HNA.out.below x.2) (HNM.out.below x.2) hlb (by omega)).mono (by rintro e w' ⟨rfl, hb⟩; exact ⟨by rw [hbb], hb⟩)
                      clear hg3 hbA
                      go_wp2_with fail
                      refine wp_region_later (by kernel_rfl) (by kernel_rfl) ?_
                      repeat (go_big_quiet_step ((first | (with_reducible exact Later.call (v := .agg #[.int .i64 m.1, .slice sa m.2.length sc]) (HREF.out _)) | (with_reducible exact Later.call (v := .bool false) (HSAME.out _)))))
                      refine wpQuiet_nil ?_; rintro w9 ⟨⟨_, hb9⟩, rfl⟩
                      have H9 := Lib.hid (H8A.out.below hb9)
                      clear x0 x1 x2 x3
                      have HN9 : Hid (Ints w9 nv now.2) := Lib.hid (HNV.out.below H9.out.bel)
                      have u0 := fun x => Later.cell (root_cell H9.out.cell 0 _ rfl : w9.cell? ⟨w2.heap.size, 0, none⟩ = some (.int .i64 now.1)) x
                      have u1 := fun x => Later.cell (root_cell H9.out.cell 1 _ rfl : w9.cell? ⟨w2.heap.size, 1, none⟩ = some nv) x
                      have hv0 := (hb9.block _ (by simp)).trans (heap_new w8 (.cells #[.int .i64 now.1, .slice sva svn svc] 24))
                      have v0 := fun x => Later.cell (root_cell hv0 0 _ rfl : w9.cell? ⟨w8.heap.size, 0, none⟩ = some (.int .i64 now.1)) x
                      have v1 := fun x => Later.cell (root_cell hv0 1 _ rfl : w9.cell? ⟨w8.heap.size, 1, none⟩ = some (.slice sva svn svc)) x
                      obtain ⟨na, nc, rfl⟩ := HNV.out.form
                      have HREF2 : Hid (∀ x : Later w9, Calls Tryz.prog 16 #[.agg #[.int .i64 now.1, .slice na now.2.length nc]] x.1 fun e w' => e = .returned (.agg #[.int .i64 now.1, .slice na now.2.length nc]) ∧ Below x.1.heap.size x.1 w') :=
                        Lib.hid fun x => lref_any _ _ _ _ _
                      have HSAME2 : Hid (∀ x : Later w9, Calls Tryz.prog 20 #[.agg #[.int .i64 now.1, .slice sva svn svc], .agg #[.int .i64 now.1, .slice na now.2.length nc]] x.1 fun e w' => e = .returned (.bool true) ∧ Below x.1.heap.size x.1 w') :=
                        Lib.hid fun x => (lsame_any now.1 now.1 _ _ now.2 now.2 _ ((HNA.out.below hb9).below x.2) (HN9.out.below x.2) hlb hlb).mono (by rintro e w' ⟨rfl, hb⟩; exact ⟨by rw [decide_eq_true ⟨rfl, rfl⟩], hb⟩)
                      clear hb9 hv0
                      go_wp2_with fail
                      refine wp_region_later (by kernel_rfl) (by kernel_rfl) ?_
                      repeat (go_big_quiet_step ((first | (with_reducible exact Later.call (v := .agg #[.int .i64 now.1, .slice na now.2.length nc]) (HREF2.out _)) | (with_reducible exact Later.call (v := .bool true) (HSAME2.out _)))))
                      refine wpQuiet_nil ?_; rintro w10 ⟨⟨_, hb10⟩, rfl⟩
                      have H10 := Lib.hid (H9.out.below hb10)
                      clear hb10 u0 u1 v0 v1
                      go_wp2_with fail
                      go_roundg (ms.length - (i + 1))
                      case measure => rw [HK.out]; omega
                      case rel => exact ⟨i + 1, b7, B7, st7, V7, own7, true, now, _, by omega, by omega, rfl, rfl, rfl, by simp, H10.out.toSWorld, HI7.out, HNV.out⟩
                    · skip
                      have hbA : Below w8.heap.size w8 (w8.alloc (.cells #[.int .i64 now.1, .slice sva svn svc] 24)) := (Below.refl _ _).alloc (Nat.le_refl _) _
                      have H8A := Lib.hid (H8.out.below hbA)
                      have HNA : Hid (Nums (w8.alloc (.cells #[.int .i64 now.1, .slice sva svn svc] 24)) (.slice sva svn svc) now.2) := Lib.hid (by have := (HOI8.out.keep hbA).nums; rw [show Lx.1.2 = now.2 by first | rw [HL2.out] | rw [HL.out]] at this; exact this)
                      have HNM : Hid (Ints (w8.alloc (.cells #[.int .i64 now.1, .slice sva svn svc] 24)) (.slice sa m.2.length sc) m.2) := Lib.hid (HSV.out.below H8A.out.bel)
                      have hg3 := heap_new w8 (.cells #[.int .i64 now.1, .slice sva svn svc] 24)
                      have x0 := fun x => Later.cell (root_cell hg3 0 _ rfl : (w8.alloc (.cells #[.int .i64 now.1, .slice sva svn svc] 24)).cell? ⟨w8.heap.size, 0, none⟩ = some (.int .i64 now.1)) x
                      have x1 := fun x => Later.cell (root_cell hg3 1 _ rfl : (w8.alloc (.cells #[.int .i64 now.1, .slice sva svn svc] 24)).cell? ⟨w8.heap.size, 1, none⟩ = some (.slice sva svn svc)) x
                      have x2 := fun x => Later.cell (root_cell H8A.out.cx 0 _ rfl : (w8.alloc (.cells #[.int .i64 now.1, .slice sva svn svc] 24)).cell? ⟨wr.heap.size, 0, none⟩ = some (.int .i64 m.1)) x
                      have x3 := fun x => Later.cell (root_cell H8A.out.cx 1 _ rfl : (w8.alloc (.cells #[.int .i64 now.1, .slice sva svn svc] 24)).cell? ⟨wr.heap.size, 1, none⟩ = some (.slice sa m.2.length sc)) x
                      have HREF : Hid (∀ x : Later (w8.alloc (.cells #[.int .i64 now.1, .slice sva svn svc] 24)), Calls Tryz.prog 16 #[.agg #[.int .i64 m.1, .slice sa m.2.length sc]] x.1 fun e w' => e = .returned (.agg #[.int .i64 m.1, .slice sa m.2.length sc]) ∧ Below x.1.heap.size x.1 w') :=
                        Lib.hid fun x => lref_any _ _ _ _ _
                      have HSAME : Hid (∀ x : Later (w8.alloc (.cells #[.int .i64 now.1, .slice sva svn svc] 24)), Calls Tryz.prog 20 #[.agg #[.int .i64 now.1, .slice sva svn svc], .agg #[.int .i64 m.1, .slice sa m.2.length sc]] x.1 fun e w' => e = .returned (.bool true) ∧ Below x.1.heap.size x.1 w') :=
                        Lib.hid fun x => (lsame_any now.1 m.1 _ _ now.2 m.2 _ (HNA.out.below x.2) (HNM.out.below x.2) hlb (by omega)).mono (by rintro e w' ⟨rfl, hb⟩; exact ⟨by rw [hbb], hb⟩)
                      clear hg3 hbA
                      go_wp2_with fail
                      refine wp_region_later (by kernel_rfl) (by kernel_rfl) ?_
                      repeat (go_big_quiet_step ((first | (with_reducible exact Later.call (v := .agg #[.int .i64 m.1, .slice sa m.2.length sc]) (HREF.out _)) | (with_reducible exact Later.call (v := .bool true) (HSAME.out _)))))
                      refine wpQuiet_nil ?_; rintro w9 ⟨⟨_, hb9⟩, rfl⟩
                      have H9 := Lib.hid (H8A.out.below hb9)
                      clear x0 x1 x2 x3
                      have HI7 : Hid (Fs.SwapInv st7 true (m.1, m.2)) := Lib.hid (by
                        obtain ⟨h1, h2⟩ := of_decide_eq_true hbb
                        have := HI7.out
                        rwa [show now = (m.1, m.2) from Prod.ext h1 h2] at this)
                      have q0 := root_frozen H9.out.cell 0
                      have q1 := root_frozen H9.out.cell 1
                      have r0 : w9.cell? ⟨w2.heap.size, 0, none⟩ = some (.int .i64 now.1) := root_cell H9.out.cell 0 _ rfl
                      have r1 : w9.cell? ⟨w2.heap.size, 1, none⟩ = some nv := root_cell H9.out.cell 1 _ rfl
                      have s0 : w9.cell? ⟨wr.heap.size, 0, none⟩ = some (.int .i64 m.1) := root_cell H9.out.cx 0 _ rfl
                      have s1 : w9.cell? ⟨wr.heap.size, 1, none⟩ = some (.slice sa m.2.length sc) := root_cell H9.out.cx 1 _ rfl
                      clear hb9
                      go_wp2_with fail
                      go_roundg (ms.length - (i + 1))
                      case measure => rw [HK.out]; omega
                      case rel => exact ⟨i + 1, b7, B7, st7, V7, own7, true, (m.1, m.2), .slice sa m.2.length sc, by omega, by omega, rfl, rfl, rfl, by simp, (H9.out.toSWorld.set 0 (.int .i64 m.1)).set 1 (.slice sa m.2.length sc), HI7.out, HSV.out⟩
            · have hpl' : (ps.length : Int) ≤ (i : Int) := by omega
              have HS := H3
              have HARM : Hid (∀ n, 0 ≤ n → Fs.arm st n = (Fs.powered st [] n, 0)) := Lib.hid fun n hn => (HI.out.arm [] hn).2
              have HPZ : Hid (∀ z ∈ ([] : List Int), I64 z) := Lib.hid fun z hz => by cases hz
              obtain ⟨pl, hpl2⟩ : ∃ x : List Int, x = [] := ⟨_, rfl⟩
              rw [← hpl2] at HARM HPZ
              have harg : 0 ≤ (0 : Int) ∧ (0 : Int) ≤ 9 := by first | exact cutAt _ | decide
              obtain ⟨hz0, hz9⟩ := harg
              go_wp2_with fail
              refine (arm_any base B _ _ _ ((0 : Int)) _ HS.out.ok (by omega)).mono ?_
              rintro e w5 ⟨rfl, hp5⟩
              rw [HARM.out _ hz0] at hp5 ⊢
              obtain ⟨pn, hpn⟩ : ∃ x, x = (0 : Int) := ⟨_, rfl⟩
              rw [← hpn] at hp5
              clear hpn hz0 hz9
              obtain ⟨V5, own5, h5⟩ := HS.out.op hp5
              have H5 := Lib.hid h5
              have z0 := root_cell h5.cx 0 _ rfl
              have z1 := root_cell h5.cx 1 _ rfl
              clear hp5 h5
              go_wp2_with fail
              refine (save_any base B _ V5 own5 m.1 _ m.2 w5 H5.out.ok ((HEb.out.below H5.out.bel).mono H5.out.wb).sg H5.out.hb 2 (HI.out.sound pl pn) (by omega) (fun z hz => (HPZ.out z hz).2) (HSV.out.below H5.out.bel) (by omega)).mono ?_
              rintro e w6 ⟨rfl, hp6⟩
              obtain ⟨V6, own6, h6⟩ := H5.out.op hp6
              obtain ⟨hs14, hroom, hrnd⟩ := HI.out.round pl (fun z hz => (HPZ.out z hz).2) pn HG.out 0 [0, 0, 0]
              obtain ⟨E, hE⟩ : ∃ E, E = (Mf.save (Fs.powered st pl pn) m.1 m.2).2 := ⟨_, rfl⟩
              obtain ⟨st6, hst6⟩ : ∃ x, x = (Mf.save (Fs.powered st pl pn) m.1 m.2).1 := ⟨_, rfl⟩
              rw [← hE] at hrnd ⊢
              rw [← hst6] at h6 hs14 hroom hrnd
              have H6 := Lib.hid h6
              have HS14 := Lib.hid hs14
              have HRM := Lib.hid hroom
              have HRND := Lib.hid hrnd
              clear hp6 h6 hE hst6 hs14 hroom hrnd z0 z1
              go_wp2_with fail
              have hbT : Below w6.heap.size w6 (w6.alloc (.cells #[.int .i64 (0), .int .i64 (0), .int .i64 (0)] 3)) := (Below.refl _ _).alloc (Nat.le_refl _) _
              have HT6 := Lib.hid (H6.out.below hbT)
              have HTN : Hid (Ints (w6.alloc (.cells #[.int .i64 (0), .int .i64 (0), .int .i64 (0)] 3)) (.slice (some ⟨w6.heap.size, 0, none⟩) 3 3) [0, 0, 0]) :=
                Lib.hid (OwnI.nums (base := w6.heap.size) (World.ownsRow_lit (base := w6.heap.size) (e := 3) (size := 1) w6 #[.int .i64 (0), .int .i64 (0), .int .i64 (0)] 3 (Nat.le_refl _) (by unfold maxLen; omega) rfl))
              clear hbT
              refine (crash_any base B st6 V6 own6 (0) _ [0, 0, 0] _ HT6.out.ok HT6.out.hb 14 HS14.out (by omega) HTN.out (by simp) (by rw [HRM.out]; omega)).mono ?_
              rintro e w7 ⟨B7, V7, own7, rfl, hok7, hb7⟩
              obtain ⟨st7, hst7⟩ : ∃ x, x = Fs.crash st6 (0) [0, 0, 0] := ⟨_, rfl⟩
              obtain ⟨hs7, hr7⟩ := HRND.out st7 hst7
              rw [← hst7] at hok7
              have H7 := Lib.hid (HT6.out.crashed hok7 hb7)
              obtain ⟨b7, hb7e⟩ : ∃ x, x = (w6.alloc (.cells #[.int .i64 (0), .int .i64 (0), .int .i64 (0)] 3)).heap.size := ⟨_, rfl⟩
              rw [← hb7e] at H7
              have HS7 := Lib.hid hs7
              have HR7 := Lib.hid hr7
              clear hst7 hok7 hb7 hb7e hs7 hr7
              go_wp2_with fail
              refine (load_any b7 B7 st7 V7 own7 w7 H7.out.ok ((HEb.out.below H7.out.bel).mono H7.out.wb) H7.out.hb 14 HS7.out).mono ?_
              rintro e w8 ⟨hb8, sv8, rfl, hoi8⟩
              have H8 := Lib.hid (H7.out.below hb8)
              obtain ⟨Lx, hLx⟩ : ∃ x, x = Mf.load st7 := ⟨_, rfl⟩
              rw [← hLx] at hoi8 ⊢
              obtain ⟨sva, svn, svc, hsv, HSVN⟩ := OwnI.form3 hoi8
              subst hsv
              have HOI8 := Lib.hid hoi8
              have HLX := Lib.hid hLx
              clear hb8 hoi8 hLx
              have hR := HR7.out
              rw [← HLX.out] at hR
              rcases hR with ⟨hL, hinv7⟩ | ⟨hEn, hinv7, hL⟩
              · have HL := Lib.hid hL
                have HI7 := Lib.hid hinv7
                clear hL hinv7
                rw [HL.out]
                have hlb : m.2.length ≤ 1000000000 := by omega
                have hbb : decide (m.1 = m.1 ∧ m.2 = m.2) = true := decide_eq_true ⟨rfl, rfl⟩
                have hbA : Below w8.heap.size w8 (w8.alloc (.cells #[.int .i64 m.1, .slice sva svn svc] 24)) := (Below.refl _ _).alloc (Nat.le_refl _) _
                have H8A := Lib.hid (H8.out.below hbA)
                have HNA : Hid (Nums (w8.alloc (.cells #[.int .i64 m.1, .slice sva svn svc] 24)) (.slice sva svn svc) m.2) := Lib.hid (by have := (HOI8.out.keep hbA).nums; rw [show Lx.1.2 = m.2 by first | rw [HL2.out] | rw [HL.out]] at this; exact this)
                have HNM : Hid (Ints (w8.alloc (.cells #[.int .i64 m.1, .slice sva svn svc] 24)) (.slice sa m.2.length sc) m.2) := Lib.hid (HSV.out.below H8A.out.bel)
                have hg3 := heap_new w8 (.cells #[.int .i64 m.1, .slice sva svn svc] 24)
                have x0 := fun x => Later.cell (root_cell hg3 0 _ rfl : (w8.alloc (.cells #[.int .i64 m.1, .slice sva svn svc] 24)).cell? ⟨w8.heap.size, 0, none⟩ = some (.int .i64 m.1)) x
                have x1 := fun x => Later.cell (root_cell hg3 1 _ rfl : (w8.alloc (.cells #[.int .i64 m.1, .slice sva svn svc] 24)).cell? ⟨w8.heap.size, 1, none⟩ = some (.slice sva svn svc)) x
                have x2 := fun x => Later.cell (root_cell H8A.out.cx 0 _ rfl : (w8.alloc (.cells #[.int .i64 m.1, .slice sva svn svc] 24)).cell? ⟨wr.heap.size, 0, none⟩ = some (.int .i64 m.1)) x
                have x3 := fun x => Later.cell (root_cell H8A.out.cx 1 _ rfl : (w8.alloc (.cells #[.int .i64 m.1, .slice sva svn svc] 24)).cell? ⟨wr.heap.size, 1, none⟩ = some (.slice sa m.2.length sc)) x
                have HREF : Hid (∀ x : Later (w8.alloc (.cells #[.int .i64 m.1, .slice sva svn svc] 24)), Calls Tryz.prog 16 #[.agg #[.int .i64 m.1, .slice sa m.2.length sc]] x.1 fun e w' => e = .returned (.agg #[.int .i64 m.1, .slice sa m.2.length sc]) ∧ Below x.1.heap.size x.1 w') :=
                  Lib.hid fun x => lref_any _ _ _ _ _
                have HSAME : Hid (∀ x : Later (w8.alloc (.cells #[.int .i64 m.1, .slice sva svn svc] 24)), Calls Tryz.prog 20 #[.agg #[.int .i64 m.1, .slice sva svn svc], .agg #[.int .i64 m.1, .slice sa m.2.length sc]] x.1 fun e w' => e = .returned (.bool true) ∧ Below x.1.heap.size x.1 w') :=
                  Lib.hid fun x => (lsame_any m.1 m.1 _ _ m.2 m.2 _ (HNA.out.below x.2) (HNM.out.below x.2) hlb (by omega)).mono (by rintro e w' ⟨rfl, hb⟩; exact ⟨by rw [hbb], hb⟩)
                clear hg3 hbA
                go_wp2_with fail
                refine wp_region_later (by kernel_rfl) (by kernel_rfl) ?_
                repeat (go_big_quiet_step ((first | (with_reducible exact Later.call (v := .agg #[.int .i64 m.1, .slice sa m.2.length sc]) (HREF.out _)) | (with_reducible exact Later.call (v := .bool true) (HSAME.out _)))))
                refine wpQuiet_nil ?_; rintro w9 ⟨⟨_, hb9⟩, rfl⟩
                have H9 := Lib.hid (H8A.out.below hb9)
                clear x0 x1 x2 x3
                have q0 := root_frozen H9.out.cell 0
                have q1 := root_frozen H9.out.cell 1
                have r0 : w9.cell? ⟨w2.heap.size, 0, none⟩ = some (.int .i64 now.1) := root_cell H9.out.cell 0 _ rfl
                have r1 : w9.cell? ⟨w2.heap.size, 1, none⟩ = some nv := root_cell H9.out.cell 1 _ rfl
                have s0 : w9.cell? ⟨wr.heap.size, 0, none⟩ = some (.int .i64 m.1) := root_cell H9.out.cx 0 _ rfl
                have s1 : w9.cell? ⟨wr.heap.size, 1, none⟩ = some (.slice sa m.2.length sc) := root_cell H9.out.cx 1 _ rfl
                clear hb9
                go_wp2_with fail
                go_roundg (ms.length - (i + 1))
                case measure => rw [HK.out]; omega
                case rel => exact ⟨i + 1, b7, B7, st7, V7, own7, true, (m.1, m.2), .slice sa m.2.length sc, by omega, by omega, rfl, rfl, rfl, by simp, (H9.out.toSWorld.set 0 (.int .i64 m.1)).set 1 (.slice sa m.2.length sc), HI7.out, HSV.out⟩
              · have HL := Lib.hid hL
                have HI7 := Lib.hid hinv7
                have hte : (E == 0) = false := by rw [beq_eq_false_iff_ne]; exact hEn
                clear hL hinv7 hEn
                cases there
                · have HL2 : Hid (Lx = ((0, []), 3)) := Lib.hid (by rw [HL.out]; rfl)
                  rw [HL2.out]
                  have H8A := Lib.hid (H8.out.below ((Below.refl _ _).alloc (Nat.le_refl _) (.cells #[.int .i64 0, .slice sva svn svc] 24)))
                  go_wp2_with fail
                  refine wp_region_cuts [] (by kernel_rfl) (by kernel_rfl) ?_; simp only [wpMix, List.take_succ_cons, List.take_zero, List.drop_succ_cons, List.drop_zero, Nat.sub_zero, Nat.reduceSub, Nat.reduceAdd]
                  repeat (go_big_quiet_step (fail))
                  refine wpQuiet_nil ?_; rintro _ ⟨nq, rfl⟩
                  go_wp2_with fail
                  refine wp_region_cuts [] (by kernel_rfl) (by kernel_rfl) ?_; simp only [wpMix, List.take_succ_cons, List.take_zero, List.drop_succ_cons, List.drop_zero, Nat.sub_zero, Nat.reduceSub, Nat.reduceAdd]
                  repeat (go_big_quiet_step (fail))
                  refine wpQuiet_nil ?_; rintro _ ⟨nq, rfl⟩
                  go_wp2_with fail
                  go_roundg (ms.length - (i + 1))
                  case measure => rw [HK.out]; omega
                  case rel => exact ⟨i + 1, b7, B7, st7, V7, own7, false, now, nv, by omega, by omega, rfl, rfl, rfl, by simp, (H8A.out.below (Below.drewN (Below.refl _ _) _)).toSWorld, HI7.out, HNV.out⟩
                · have HL2 : Hid (Lx = (now, 0)) := Lib.hid (by rw [HL.out]; rfl)
                  rw [HL2.out]
                  have hlb : now.2.length ≤ 1000000000 := by have := (Mf.good_out (HI.out.gd rfl)).2.1; omega
                  cases hbb : decide (now.1 = m.1 ∧ now.2 = m.2)
                  · skip
                    have hbA : Below w8.heap.size w8 (w8.alloc (.cells #[.int .i64 now.1, .slice sva svn svc] 24)) := (Below.refl _ _).alloc (Nat.le_refl _) _
                    have H8A := Lib.hid (H8.out.below hbA)
                    have HNA : Hid (Nums (w8.alloc (.cells #[.int .i64 now.1, .slice sva svn svc] 24)) (.slice sva svn svc) now.2) := Lib.hid (by have := (HOI8.out.keep hbA).nums; rw [show Lx.1.2 = now.2 by first | rw [HL2.out] | rw [HL.out]] at this; exact this)
                    have HNM : Hid (Ints (w8.alloc (.cells #[.int .i64 now.1, .slice sva svn svc] 24)) (.slice sa m.2.length sc) m.2) := Lib.hid (HSV.out.below H8A.out.bel)
                    have hg3 := heap_new w8 (.cells #[.int .i64 now.1, .slice sva svn svc] 24)
                    have x0 := fun x => Later.cell (root_cell hg3 0 _ rfl : (w8.alloc (.cells #[.int .i64 now.1, .slice sva svn svc] 24)).cell? ⟨w8.heap.size, 0, none⟩ = some (.int .i64 now.1)) x
                    have x1 := fun x => Later.cell (root_cell hg3 1 _ rfl : (w8.alloc (.cells #[.int .i64 now.1, .slice sva svn svc] 24)).cell? ⟨w8.heap.size, 1, none⟩ = some (.slice sva svn svc)) x
                    have x2 := fun x => Later.cell (root_cell H8A.out.cx 0 _ rfl : (w8.alloc (.cells #[.int .i64 now.1, .slice sva svn svc] 24)).cell? ⟨wr.heap.size, 0, none⟩ = some (.int .i64 m.1)) x
                    have x3 := fun x => Later.cell (root_cell H8A.out.cx 1 _ rfl : (w8.alloc (.cells #[.int .i64 now.1, .slice sva svn svc] 24)).cell? ⟨wr.heap.size, 1, none⟩ = some (.slice sa m.2.length sc)) x
                    have HREF : Hid (∀ x : Later (w8.alloc (.cells #[.int .i64 now.1, .slice sva svn svc] 24)), Calls Tryz.prog 16 #[.agg #[.int .i64 m.1, .slice sa m.2.length sc]] x.1 fun e w' => e = .returned (.agg #[.int .i64 m.1, .slice sa m.2.length sc]) ∧ Below x.1.heap.size x.1 w') :=
                      Lib.hid fun x => lref_any _ _ _ _ _
                    have HSAME : Hid (∀ x : Later (w8.alloc (.cells #[.int .i64 now.1, .slice sva svn svc] 24)), Calls Tryz.prog 20 #[.agg #[.int .i64 now.1, .slice sva svn svc], .agg #[.int .i64 m.1, .slice sa m.2.length sc]] x.1 fun e w' => e = .returned (.bool false) ∧ Below x.1.heap.size x.1 w') :=
                      Lib.hid fun x => (lsame_any now.1 m.1 _ _ now.2 m.2 _ (HNA.out.below x.2) (HNM.out.below x.2) hlb (by omega)).mono (by rintro e w' ⟨rfl, hb⟩; exact ⟨by rw [hbb], hb⟩)
                    clear hg3 hbA
                    go_wp2_with fail
                    refine wp_region_later (by kernel_rfl) (by kernel_rfl) ?_
                    repeat (go_big_quiet_step ((first | (with_reducible exact Later.call (v := .agg #[.int .i64 m.1, .slice sa m.2.length sc]) (HREF.out _)) | (with_reducible exact Later.call (v := .bool false) (HSAME.out _)))))
                    refine wpQuiet_nil ?_; rintro w9 ⟨⟨_, hb9⟩, rfl⟩
                    have H9 := Lib.hid (H8A.out.below hb9)
                    clear x0 x1 x2 x3
                    have HN9 : Hid (Ints w9 nv now.2) := Lib.hid (HNV.out.below H9.out.bel)
                    have u0 := fun x => Later.cell (root_cell H9.out.cell 0 _ rfl : w9.cell? ⟨w2.heap.size, 0, none⟩ = some (.int .i64 now.1)) x
                    have u1 := fun x => Later.cell (root_cell H9.out.cell 1 _ rfl : w9.cell? ⟨w2.heap.size, 1, none⟩ = some nv) x
                    have hv0 := (hb9.block _ (by simp)).trans (heap_new w8 (.cells #[.int .i64 now.1, .slice sva svn svc] 24))
                    have v0 := fun x => Later.cell (root_cell hv0 0 _ rfl : w9.cell? ⟨w8.heap.size, 0, none⟩ = some (.int .i64 now.1)) x
                    have v1 := fun x => Later.cell (root_cell hv0 1 _ rfl : w9.cell? ⟨w8.heap.size, 1, none⟩ = some (.slice sva svn svc)) x
                    obtain ⟨na, nc, rfl⟩ := HNV.out.form
                    have HREF2 : Hid (∀ x : Later w9, Calls Tryz.prog 16 #[.agg #[.int .i64 now.1, .slice na now.2.length nc]] x.1 fun e w' => e = .returned (.agg #[.int .i64 now.1, .slice na now.2.length nc]) ∧ Below x.1.heap.size x.1 w') :=
                      Lib.hid fun x => lref_any _ _ _ _ _
                    have HSAME2 : Hid (∀ x : Later w9, Calls Tryz.prog 20 #[.agg #[.int .i64 now.1, .slice sva svn svc], .agg #[.int .i64 now.1, .slice na now.2.length nc]] x.1 fun e w' => e = .returned (.bool true) ∧ Below x.1.heap.size x.1 w') :=
                      Lib.hid fun x => (lsame_any now.1 now.1 _ _ now.2 now.2 _ ((HNA.out.below hb9).below x.2) (HN9.out.below x.2) hlb hlb).mono (by rintro e w' ⟨rfl, hb⟩; exact ⟨by rw [decide_eq_true ⟨rfl, rfl⟩], hb⟩)
                    clear hb9 hv0
                    go_wp2_with fail
                    refine wp_region_later (by kernel_rfl) (by kernel_rfl) ?_
                    repeat (go_big_quiet_step ((first | (with_reducible exact Later.call (v := .agg #[.int .i64 now.1, .slice na now.2.length nc]) (HREF2.out _)) | (with_reducible exact Later.call (v := .bool true) (HSAME2.out _)))))
                    refine wpQuiet_nil ?_; rintro w10 ⟨⟨_, hb10⟩, rfl⟩
                    have H10 := Lib.hid (H9.out.below hb10)
                    clear hb10 u0 u1 v0 v1
                    go_wp2_with fail
                    go_roundg (ms.length - (i + 1))
                    case measure => rw [HK.out]; omega
                    case rel => exact ⟨i + 1, b7, B7, st7, V7, own7, true, now, _, by omega, by omega, rfl, rfl, rfl, by simp, H10.out.toSWorld, HI7.out, HNV.out⟩
                  · skip
                    have hbA : Below w8.heap.size w8 (w8.alloc (.cells #[.int .i64 now.1, .slice sva svn svc] 24)) := (Below.refl _ _).alloc (Nat.le_refl _) _
                    have H8A := Lib.hid (H8.out.below hbA)
                    have HNA : Hid (Nums (w8.alloc (.cells #[.int .i64 now.1, .slice sva svn svc] 24)) (.slice sva svn svc) now.2) := Lib.hid (by have := (HOI8.out.keep hbA).nums; rw [show Lx.1.2 = now.2 by first | rw [HL2.out] | rw [HL.out]] at this; exact this)
                    have HNM : Hid (Ints (w8.alloc (.cells #[.int .i64 now.1, .slice sva svn svc] 24)) (.slice sa m.2.length sc) m.2) := Lib.hid (HSV.out.below H8A.out.bel)
                    have hg3 := heap_new w8 (.cells #[.int .i64 now.1, .slice sva svn svc] 24)
                    have x0 := fun x => Later.cell (root_cell hg3 0 _ rfl : (w8.alloc (.cells #[.int .i64 now.1, .slice sva svn svc] 24)).cell? ⟨w8.heap.size, 0, none⟩ = some (.int .i64 now.1)) x
                    have x1 := fun x => Later.cell (root_cell hg3 1 _ rfl : (w8.alloc (.cells #[.int .i64 now.1, .slice sva svn svc] 24)).cell? ⟨w8.heap.size, 1, none⟩ = some (.slice sva svn svc)) x
                    have x2 := fun x => Later.cell (root_cell H8A.out.cx 0 _ rfl : (w8.alloc (.cells #[.int .i64 now.1, .slice sva svn svc] 24)).cell? ⟨wr.heap.size, 0, none⟩ = some (.int .i64 m.1)) x
                    have x3 := fun x => Later.cell (root_cell H8A.out.cx 1 _ rfl : (w8.alloc (.cells #[.int .i64 now.1, .slice sva svn svc] 24)).cell? ⟨wr.heap.size, 1, none⟩ = some (.slice sa m.2.length sc)) x
                    have HREF : Hid (∀ x : Later (w8.alloc (.cells #[.int .i64 now.1, .slice sva svn svc] 24)), Calls Tryz.prog 16 #[.agg #[.int .i64 m.1, .slice sa m.2.length sc]] x.1 fun e w' => e = .returned (.agg #[.int .i64 m.1, .slice sa m.2.length sc]) ∧ Below x.1.heap.size x.1 w') :=
                      Lib.hid fun x => lref_any _ _ _ _ _
                    have HSAME : Hid (∀ x : Later (w8.alloc (.cells #[.int .i64 now.1, .slice sva svn svc] 24)), Calls Tryz.prog 20 #[.agg #[.int .i64 now.1, .slice sva svn svc], .agg #[.int .i64 m.1, .slice sa m.2.length sc]] x.1 fun e w' => e = .returned (.bool true) ∧ Below x.1.heap.size x.1 w') :=
                      Lib.hid fun x => (lsame_any now.1 m.1 _ _ now.2 m.2 _ (HNA.out.below x.2) (HNM.out.below x.2) hlb (by omega)).mono (by rintro e w' ⟨rfl, hb⟩; exact ⟨by rw [hbb], hb⟩)
                    clear hg3 hbA
                    go_wp2_with fail
                    refine wp_region_later (by kernel_rfl) (by kernel_rfl) ?_
                    repeat (go_big_quiet_step ((first | (with_reducible exact Later.call (v := .agg #[.int .i64 m.1, .slice sa m.2.length sc]) (HREF.out _)) | (with_reducible exact Later.call (v := .bool true) (HSAME.out _)))))
                    refine wpQuiet_nil ?_; rintro w9 ⟨⟨_, hb9⟩, rfl⟩
                    have H9 := Lib.hid (H8A.out.below hb9)
                    clear x0 x1 x2 x3
                    have HI7 : Hid (Fs.SwapInv st7 true (m.1, m.2)) := Lib.hid (by
                      obtain ⟨h1, h2⟩ := of_decide_eq_true hbb
                      have := HI7.out
                      rwa [show now = (m.1, m.2) from Prod.ext h1 h2] at this)
                    have q0 := root_frozen H9.out.cell 0
                    have q1 := root_frozen H9.out.cell 1
                    have r0 : w9.cell? ⟨w2.heap.size, 0, none⟩ = some (.int .i64 now.1) := root_cell H9.out.cell 0 _ rfl
                    have r1 : w9.cell? ⟨w2.heap.size, 1, none⟩ = some nv := root_cell H9.out.cell 1 _ rfl
                    have s0 : w9.cell? ⟨wr.heap.size, 0, none⟩ = some (.int .i64 m.1) := root_cell H9.out.cx 0 _ rfl
                    have s1 : w9.cell? ⟨wr.heap.size, 1, none⟩ = some (.slice sa m.2.length sc) := root_cell H9.out.cx 1 _ rfl
                    clear hb9
                    go_wp2_with fail
                    go_roundg (ms.length - (i + 1))
                    case measure => rw [HK.out]; omega
                    case rel => exact ⟨i + 1, b7, B7, st7, V7, own7, true, (m.1, m.2), .slice sa m.2.length sc, by omega, by omega, rfl, rfl, rfl, by simp, (H9.out.toSWorld.set 0 (.int .i64 m.1)).set 1 (.slice sa m.2.length sc), HI7.out, HSV.out⟩
      · have hend : ((ms.length : Int) ≤ (i : Int)) ∨ ((i : Int) < (ms.length : Int) ∧ (10 : Int) ≤ (i : Int)) := by omega
        rcases hend with h1 | ⟨h1, h2⟩
        · go_wp2_with fail
          go_ret
          exact ⟨rfl, HB1.out.trans (HW.out.bel.mono HB1.out.size)⟩
        · go_wp2_with fail
          go_ret
          exact ⟨rfl, HB1.out.trans (HW.out.bel.mono HB1.out.size)⟩
end Go.Proofs.YtcinagglbkbmkaaGreatDoor
