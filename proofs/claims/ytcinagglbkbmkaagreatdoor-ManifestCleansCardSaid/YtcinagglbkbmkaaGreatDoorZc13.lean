/-
  'ManifestCleans', walked. Numbers, texts, manifests that came in. What the listed variables give; a world for the witnesses (layers 5 and 6).
-/
import Derived.Test.YtcinagglbkbmkaaGreatDoorZc11
import Derived.Test.YtcinagglbkbmkaaGreatDoorZc12
import Derived.Test.YtcinagglbkbmkaaGreatDoorZc2
import Derived.Test.YtcinagglbkbmkaaGreatDoorCards
import Derived.Test.YtcinagglbkbmkaaGreatDoorTie
import Derived.WalkKit
import Derived.ProofKit
import Derived.OpenShut
import Derived.Deep.DeepHandedRow
import Derived.Lib.LaidTab
import Derived.Lib.LaidIn
import Derived.Lib.LaidU8
import Derived.Stop.LaidErr
import Derived.LaidLaws
import Derived.Carry
namespace Go.Proofs.YtcinagglbkbmkaaGreatDoor
set_option linter.unusedSimpArgs false
set_option linter.unusedVariables false
open Go Go.RowKit
open Go.Maps Go.WideMaps

/-- The file system, over a world. -/
structure CWorld (base B : Nat) (w1 : World) (st : Fs.St) (V : FsV) (own : Nat → Tag) (w : World) : Prop where
  ok : FsOK base B st V own w
  bel : Below base w1 w
  hb : base ≤ w.heap.size
section
variable {base B : Nat} {w1 : World} {st : Fs.St} {V : FsV} {own : Nat → Tag} {w w' : World} (h : CWorld base B w1 st V own w)
include h
theorem CWorld.op {st' : Fs.St} (hp : OpPost base B st' own w w') : ∃ V' own', CWorld base B w1 st' V' own' w' := by
  have hb := hp.below0 h.ok h.hb
  obtain ⟨V', own', h1, h2, h3⟩ := hp
  exact ⟨V', own', h1, h.bel.trans hb, Nat.le_trans h.hb h3.size⟩
theorem CWorld.below (hb : Below w.heap.size w w') : CWorld base B w1 st V own w' :=
  ⟨h.ok.kept (kept_below hb), h.bel.trans (hb.mono h.hb), Nat.le_trans h.hb hb.size⟩
end
set_option maxHeartbeats 1000000 in
set_option maxRecDepth 100000 in
theorem check_all (ver : Int) (sv : Value) (l : List Int) (w : World) (hS : Nums w sv l) (hl : l.length ≤ 9223372036854775807) :
    Calls Tryz.prog 17 #[.agg #[.int .i64 ver, sv]] w fun e w' => e = .returned (.int .i64 (Mf.chk ver l)) ∧ Below w.heap.size w w' := by
  by_cases hsm : l.length ≤ 1000000000
  · exact check_any ver sv l w hS hsm
  obtain ⟨sa, sc, rfl⟩ := hS.form
  have hr := heap_new w (.cells #[.int .i64 ver, .slice sa l.length sc] 24)
  have y0 := root_cell hr 0 _ rfl
  have y1 := root_cell hr 1 _ rfl
  clear hS hr
  go_enter Tryz.func17, Tryz.ntmps17
  by_cases h1 : ver < 1
  · skip
    have HE : Hid (Mf.chk ver l = 1) := by unfold Mf.chk; rw [Mf.good_bad (by omega)]; exact Lib.hid rfl
    go_wp2_with fail
    go_ret
    exact ⟨congrArg (fun x => Ending.returned (.int .i64 x)) HE.out.symm, (Below.refl _ _).alloc (Nat.le_refl _) _⟩
  have h1' : 1 ≤ ver := by omega
  by_cases h2 : 2147483647 < ver
  · skip
    have HE : Hid (Mf.chk ver l = 1) := by unfold Mf.chk; rw [Mf.good_bad (by omega)]; exact Lib.hid rfl
    go_wp2_with fail
    go_ret
    exact ⟨congrArg (fun x => Ending.returned (.int .i64 x)) HE.out.symm, (Below.refl _ _).alloc (Nat.le_refl _) _⟩
  have h2' : ver ≤ 2147483647 := by omega
  have h3' : (1 : Int) ≤ (l.length : Int) := by omega
  have h4i : (32 : Int) < (l.length : Int) := by omega
  have HE : Hid (Mf.chk ver l = 1) := by unfold Mf.chk; rw [Mf.good_bad (by omega)]; exact Lib.hid rfl
  go_wp2_with fail
  go_ret
  exact ⟨congrArg (fun x => Ending.returned (.int .i64 x)) HE.out.symm, (Below.refl _ _).alloc (Nat.le_refl _) _⟩
theorem bytesIn_str (w : World) (own : Nat → Tag) (s : ByteArray) (fz : Nat × Nat) (ho : own w.heap.size = .other) :
    BytesIn ((w.alloc (.cells (bytesRow s (grownCap w s.size 0 5)) 5 fz)).drew) own (.slice (some ⟨w.heap.size, 0, none⟩) s.size (grownCap w s.size 0 5)) s.data.toList := by
  have hl : s.data.toList.length = s.size := by simp
  have h := byts_of_str w s (grownCap w s.size 0 5) (grownCap_ge _ _ _ _) fz
  refine ⟨w.heap.size, 0, _, by rw [hl], by rw [hl]; exact grownCap_ge _ _ _ _, ?_, ho, fun i x hi => ?_⟩
  · show w.heap.size < (w.drew.alloc _).heap.size
    simp
  · obtain ⟨b, off, e1, e2, e3⟩ := h.at hi
    cases e1
    exact e3
theorem seg_eq (s : ByteArray) (n : Nat) : (s.toList == ((⟨#[115, 101, 103, 45]⟩ : ByteArray) ++ ⟨(Lib.decDigits n).toArray⟩).toList) = decide ([115, 101, 103, 45] ++ Lib.itoa (n : Int) = s.data.toList) := by
  rw [Lib.itoa_nonneg, ByteArray.toList_eq, ByteArray.toList_eq, Bool.eq_iff_iff, beq_iff_eq, decide_eq_true_eq]
  constructor
  · intro h; rw [h]; simp
  · intro h; rw [← h]; simp
set_option maxHeartbeats 2000000 in
set_option maxRecDepth 100000 in
theorem manifestCleans_any (ver : Int) (lv ov : Value) (l : List Int) (os : List ByteArray) (w : World) (B0 : Nat) (hE : MEnv B0 w) (hB : B0 ≤ w.heap.size) (hM : Ints w lv l) (hO : Strs w ov os)
    (hm : l.length ≤ 9223372036854775807) (ho : os.length ≤ 9223372036854775807) (ho2 : ∀ s ∈ os, s.size ≤ 9223372036854775807) :
    Calls Tryz.prog 6 #[.agg #[.int .i64 ver, lv], ov] w fun e w' => e = .returned (.bool true) ∧ Below w.heap.size w w' := by
  obtain ⟨la, lc, rfl⟩ := hM.form
  obtain ⟨oa, oc, rfl⟩ := hO.form
  have HE := Lib.hid hE
  have HM := Lib.hid hM
  have HO := Lib.hid hO
  have HO2 := Lib.hid ho2
  have hb0 : Below w.heap.size w (w.alloc (.cells #[.int .i64 ver, .slice la l.length lc] 24)) := (Below.refl _ _).alloc (Nat.le_refl _) _
  have hr0 := heap_new w (.cells #[.int .i64 ver, .slice la l.length lc] 24)
  have HB0 := Lib.hid hb0
  have HR0 := Lib.hid hr0
  clear hE hM hO ho2 hb0 hr0
  go_enter Tryz.func6, Tryz.ntmps6
  go_wp2_with fail
  refine (mawake_any _ B0 (HE.out.below (HB0.out.mono hB)) (Nat.le_trans hB HB0.out.size)).mono ?_
  rintro e w1 ⟨rfl, hb1⟩
  have HB1 := Lib.hid (HB0.out.trans (hb1.mono HB0.out.size))
  have HR1 := Lib.hid ((hb1.block _ (heap_lt HR0.out)).trans HR0.out)
  clear hb1
  by_cases hlong : 60 < os.length
  · have hlong' : (60 : Int) < (os.length : Int) := by omega
    go_wp2_with fail
    refine (mawake_any w1 B0 (HE.out.below (HB1.out.mono hB)) (Nat.le_trans hB HB1.out.size)).mono ?_
    rintro e w9 ⟨rfl, hb9⟩
    have HB9 := Lib.hid (HB1.out.trans (hb9.mono HB1.out.size))
    clear hb9
    go_wp2_with fail
    go_ret
    exact ⟨rfl, HB9.out⟩
  · have hlong' : (os.length : Int) ≤ 60 := by omega
    have y0 := root_cell HR1.out 0 _ rfl
    have y1 := root_cell HR1.out 1 _ rfl
    go_wp2_with fail
    refine (check_all ver _ l w1 (HM.out.below HB1.out) hm).mono ?_
    rintro e w2 ⟨rfl, hb2⟩
    have HB2 := Lib.hid (HB1.out.trans (hb2.mono HB1.out.size))
    have HR2 := Lib.hid ((hb2.block _ (heap_lt HR1.out)).trans HR1.out)
    clear hb2 y0 y1
    cases hg : Mf.good ver l
    · have HC : Hid (Mf.chk ver l = 1) := by unfold Mf.chk; rw [hg]; exact Lib.hid rfl
      rw [HC.out]
      clear hg
      go_wp2_with fail
      refine (mawake_any w2 B0 (HE.out.below (HB2.out.mono hB)) (Nat.le_trans hB HB2.out.size)).mono ?_
      rintro e w9 ⟨rfl, hb9⟩
      have HB9 := Lib.hid (HB2.out.trans (hb9.mono HB2.out.size))
      clear hb9
      go_wp2_with fail
      go_ret
      exact ⟨rfl, HB9.out⟩
    · have HC : Hid (Mf.chk ver l = 0) := by unfold Mf.chk; rw [hg]; exact Lib.hid rfl
      have HG := Lib.hid hg
      have hl33 := (Mf.good_out hg).2.1
      rw [HC.out]
      clear hg HC
      go_wp2_with fail
      refine (new_any 20000 w2).mono ?_
      rintro e w3 ⟨hb3, hres⟩
      rcases hres with ⟨h, rfl⟩ | ⟨_, rfl, V0, hok⟩
      · omega
      · have HC3 : Hid (CWorld w2.heap.size (w2.heap.size + 2) w2 (Fs.new 20000) V0 (tags0 w2.heap.size) w3) := Lib.hid ⟨hok, hb3, hb3.size⟩
        have HEb := Lib.hid ((HE.out.below (HB2.out.mono hB)).mono (Nat.le_trans hB HB2.out.size))
        have HRb := HR2
        have hbx := heap_lt HR2.out
        have r3 := (hb3.block _ hbx).trans HR2.out
        have y0 := root_cell r3 0 _ rfl
        have y1 := root_cell r3 1 _ rfl
        have HM2 := Lib.hid (HM.out.below HB2.out)
        have HOs := Lib.hid (HO.out.below HB2.out)
        clear hb3 hok r3
        go_wp2_with fail
        refine (save_any w2.heap.size _ _ _ _ ver _ l w3 HC3.out.ok (HEb.out.below HC3.out.bel).sg HC3.out.hb 0 (Fs.Sound.new ⟨by decide, by decide⟩ 0) (by omega) (fun z hz => by cases hz) (HM2.out.below HC3.out.bel) (by omega)).mono ?_
        rintro e w4 ⟨rfl, hp4⟩
        obtain ⟨V4, own4, h4⟩ := HC3.out.op hp4
        obtain ⟨hs0, hinv0⟩ := Fs.CleansInv.new (v := ver) (l := l) HG.out
        rw [hs0]
        obtain ⟨st4, hst4⟩ : ∃ x, x = (Mf.save (Fs.new 20000) ver l).1 := ⟨_, rfl⟩
        rw [← hst4] at h4 hinv0
        have HC4 := Lib.hid h4
        have HI0 := Lib.hid hinv0
        clear hp4 h4 hs0 hst4 hinv0 y0 y1
        go_wp2_with fail
        go_loopg [51] os.length (fun k s51 wr => ∃ (j : Nat) (st : Fs.St) (V : FsV) (own : Nat → Tag), j ≤ os.length ∧ k = os.length - j ∧ s51 = .int .i64 (j : Nat) ∧ CWorld w2.heap.size (w2.heap.size + 2) w2 st V own wr ∧ Fs.CleansInv ver l j st)
        case atStart => exact ⟨0, _, _, _, Nat.zero_le _, rfl, rfl, HC4.out, HI0.out⟩
        case round =>
          obtain ⟨j, st, V, own, hj, hk, rfl, hcw, hinv⟩ := hrel
          have HK := Lib.hid hk
          have HC := Lib.hid hcw
          have HI := Lib.hid hinv
          clear hk hcw hinv
          have hj0 : (0 : Int) ≤ (j : Int) := Int.natCast_nonneg _
          by_cases hjn : j < os.length
          · have hjn' : (j : Int) < (os.length : Int) := by omega
            obtain ⟨s, hsi⟩ : ∃ s, os[j]? = some s := ⟨_, List.getElem?_eq_getElem hjn⟩
            obtain ⟨bo, oo, rfl, e0⟩ := HOs.out.at hsi
            have hbo := cellLt e0
            have e1 : wr.cell? ⟨bo, oo + j, none⟩ = some (.string s) := by rw [HC.out.bel.cell hbo]; exact e0
            have hss := HO2.out s (List.mem_of_getElem? hsi)
            have hs0 : (0 : Int) ≤ (s.size : Int) := Int.natCast_nonneg _
            clear hsi e0
            by_cases hsl : 50 < s.size
            · have hsl' : (50 : Int) < (s.size : Int) := by omega
              go_wp2_with fail
              go_roundg (os.length - (j + 1))
              case measure => rw [HK.out]; omega
              case rel => exact ⟨j + 1, st, V, own, by omega, rfl, by simp, HC.out, HI.out.next⟩
            · have hsl' : (s.size : Int) ≤ 50 := by omega
              go_wp2_with fail
              refine (create_any w2.heap.size _ st V own s _ HC.out.ok (by omega) (by have := HI.out.sound.nf; omega) (by have := HI.out.sound.nc; omega) (by have := HI.out.sound.ndir; omega)).mono ?_
              rintro e w5 ⟨rfl, hp5⟩
              obtain ⟨V5, own5, h5⟩ := HC.out.op hp5
              clear hp5
              rcases HI.out.make HG.out (by omega) s.data.toList with ⟨hc, hst⟩ | ⟨hc, hs1, hp1, ha, hin⟩
              · rw [hst] at h5
                have H5 := Lib.hid h5
                obtain ⟨C, hC⟩ : ∃ C, C = (Fs.create st s.data.toList).2 := ⟨_, rfl⟩
                rw [← hC] at hc ⊢
                have hte : (C == 0) = false := by rw [beq_eq_false_iff_ne]; exact hc
                clear hC hc h5 hst
                go_wp2_with fail
                go_roundg (os.length - (j + 1))
                case measure => rw [HK.out]; omega
                case rel => exact ⟨j + 1, st, V5, own5, by omega, rfl, by simp, H5.out, HI.out.next⟩
              · rw [hc]
                have H5 := Lib.hid h5
                have HS1 := Lib.hid hs1
                have HP1 := Lib.hid hp1
                have HA := Lib.hid ha
                have HIN := Lib.hid hin
                obtain ⟨st5, hst5⟩ : ∃ x, x = (Fs.create st s.data.toList).1 := ⟨_, rfl⟩
                rw [← hst5] at H5 HS1 HP1 HA HIN
                have hcv := run_bytes_of_string (P := Tryz.prog) w5 9 25 5 s Tryz.underlying9 Tryz.underlying25 Tryz.underlying5
                clear hc h5 hs1 hp1 ha hin hst5
                go_wp2_with fail
                have hz5 := H5.out.hb
                have hbd : Below w5.heap.size w5 ((w5.alloc (.cells (bytesRow s (grownCap w5 s.size 0 5)) 5 ((bytesRow s (grownCap w5 s.size 0 5)).size, (bytesRow s (grownCap w5 s.size 0 5)).size + 1))).drew) := Below.drew ((Below.refl _ _).alloc (Nat.le_refl _) _)
                have H6 := Lib.hid (H5.out.below hbd)
                refine (append_any w2.heap.size _ st5 V5 own5 s _ s.data.toList _ H6.out.ok (bytesIn_str w5 own5 s _ (H5.out.ok.fresh _ (Nat.le_refl _))) (by omega) (fun f hf => (HS1.out.full f hf).2) (by simp; omega) (by have := HS1.out.ndir; omega) (by have := HS1.out.nf; omega) HS1.out.room HP1.out.how H6.out.hb).mono ?_
                rintro e w7 ⟨rfl, hp7⟩
                rw [HA.out]
                obtain ⟨V7, own7, h7⟩ := H6.out.op hp7
                have H7 := Lib.hid h7
                clear hp7 h7 hbd
                go_wp2_with fail
                go_roundg (os.length - (j + 1))
                case measure => rw [HK.out]; omega
                case rel => exact ⟨j + 1, _, V7, own7, by omega, rfl, by simp, H7.out, HIN.out⟩
          · have hjn' : (os.length : Int) ≤ (j : Int) := by omega
            have hdir := HI.out.dir
            obtain ⟨hce, hcn, hcl⟩ := HI.out.clean HG.out (by omega)
            have hjo : j ≤ 60 := by omega
            go_wp2_with fail
            refine (list_any w2.heap.size _ st V own wr HC.out.ok (by omega)).mono ?_
            rintro e w5 ⟨va, rfl, hStr, _, hb5⟩
            obtain ⟨aa, ac, hv⟩ := hStr.form
            subst hv
            rw [strsOf_len]
            have H5 := Lib.hid (HC.out.below hb5)
            have hr5 := (H5.out.bel.block _ hbx).trans HR2.out
            have y0 := root_cell hr5 0 _ rfl
            have y1 := root_cell hr5 1 _ rfl
            clear hStr hb5 hr5
            go_wp2_with fail
            refine (clean_any w2.heap.size _ st V own ver _ l w5 H5.out.ok (HEb.out.below H5.out.bel).sg H5.out.hb (12 + 2 * j) HI.out.sound (by omega) HI.out.plan (HM2.out.below H5.out.bel) (by omega) ?_).mono ?_
            · intro p n c hp
              simp only [Value.slice.injEq] at hp
              obtain ⟨rfl, rfl, rfl⟩ := hp
              obtain ⟨b, off, e, hb, _⟩ := HM2.out.at (List.getElem?_eq_getElem (show 0 < l.length by omega))
              cases e
              exact H5.out.ok.old _ hb
            rintro e w6 ⟨rfl, hp6⟩
            obtain ⟨V6, own6, h6⟩ := H5.out.op hp6
            rw [hce]
            obtain ⟨D, hD⟩ : ∃ D, D = (Fs.clean st ver l).2.1 := ⟨_, rfl⟩
            obtain ⟨st6, hst6⟩ : ∃ x, x = (Fs.clean st ver l).1 := ⟨_, rfl⟩
            rw [← hst6] at h6 hcl hcn
            rw [← hD] at hcn ⊢
            have H6 := Lib.hid h6
            have HCL := Lib.hid hcl
            clear hp6 h6 hce hcl hD hst6 y0 y1
            go_wp2_with fail
            refine (list_any w2.heap.size _ st6 V6 own6 w6 H6.out.ok (by omega)).mono ?_
            rintro e w7 ⟨vb, rfl, hStr, _, hb7⟩
            obtain ⟨ba, bc, hv⟩ := hStr.form
            subst hv
            have HSTR := Lib.hid hStr
            rw [strsOf_len] at HSTR ⊢
            have H7 := Lib.hid (H6.out.below hb7)
            have hdn : (D : Int) = (st.dir.length : Int) - (st6.dir.length : Int) := by omega
            clear hStr hb7
            obtain ⟨N, hN⟩ : ∃ N, N = st6.dir.length := ⟨_, rfl⟩
            rw [← hN] at HSTR hdn ⊢
            have HN := Lib.hid hN
            clear hN hcn
            go_wp2_with fail
            go_loopg [96] N (fun k' s96 wr => ∃ i : Nat, i ≤ N ∧ k' = N - i ∧ s96 = .int .i64 (i : Nat) ∧ Below w7.heap.size w7 wr)
            case atStart => exact ⟨0, Nat.zero_le _, rfl, rfl, Below.refl _ _⟩
            case round =>
              obtain ⟨i, hi, hk', rfl, hbq⟩ := hrel
              have HK' := Lib.hid hk'
              have HQ := Lib.hid hbq
              clear hk' hbq
              have hi0 : (0 : Int) ≤ (i : Int) := Int.natCast_nonneg _
              by_cases hin : i < N
              · have hin' : (i : Int) < (N : Int) := by omega
                obtain ⟨x, hx⟩ : ∃ x, (Fs.keys st6.dir)[i]? = some x := ⟨_, List.getElem?_eq_getElem (by rw [Fs.keys_len, ← HN.out]; exact hin)⟩
                have hxs : (strsOf (Fs.keys st6.dir))[i]? = some ⟨x.toArray⟩ := by unfold strsOf; rw [List.getElem?_map, hx]; rfl
                obtain ⟨b, off, rfl, hcell⟩ := HSTR.out.at hxs
                obtain ⟨s, hs, hsx⟩ : ∃ s : ByteArray, s = ⟨x.toArray⟩ ∧ s.data.toList = x := ⟨_, rfl, by simp⟩
                have hxd : Fs.mhas st6.dir x = true := Fs.keys_mem.1 (List.mem_of_getElem? hx)
                have hrest := HCL.out.rest x hxd
                have hxg : Fs.good x = true := by
                  obtain ⟨p, hp, e⟩ := Fs.mhas_mem.1 hxd
                  rw [← e]; exact HCL.out.inv.gd p hp
                have hss : s.size ≤ 1000000 := by
                  have := Fs.good_len hxg
                  rw [hs]; show x.toArray.size ≤ _; simp; omega
                have HOP : Hid (Fs.openE st6 s.data.toList = 0) := Lib.hid (by rw [hsx]; exact Fs.openE_of hxg hxd)
                rw [← hs] at hcell
                rw [← hsx] at hrest
                have HRE := Lib.hid hrest
                have c1 : ∀ W, Below w7.heap.size w7 W → W.cell? ⟨b, off + i, none⟩ = some (.string s) := fun W h => by rw [h.cell (cellLt hcell)]; exact hcell
                have e1 := c1 wr HQ.out
                clear hx hxs hcell hsx hs hrest hxd hxg c1
                have HCQ := Lib.hid (H7.out.below HQ.out)
                have hrq := (HCQ.out.bel.block _ hbx).trans HR2.out
                have y1 := root_cell hrq 1 _ rfl
                clear hrq
                obtain ⟨T, hT⟩ : ∃ T : Bool, T = decide (s.data.toList = Mf.final) := ⟨_, rfl⟩
                have hTe : (s.toList == [109, 97, 110, 105, 102, 101, 115, 116]) = T := by
                  rw [hT, ByteArray.toList_eq, Bool.eq_iff_iff, beq_iff_eq, decide_eq_true_eq]
                  exact Iff.rfl
                have HT := Lib.hid hT
                clear hT
                go_wp2_with fail
                go_loopg [14, 105] l.length (fun k2 s14 s105 wr => ∃ (a : Nat) (q : Bool), a ≤ l.length ∧ k2 = l.length - a ∧ s105 = .int .i64 (a : Nat) ∧ s14 = .bool q ∧ q = (T || (l.take a).any (fun v => decide ([115, 101, 103, 45] ++ Lib.itoa v = s.data.toList))) ∧ Below w7.heap.size w7 wr)
                case atStart => exact ⟨0, T, Nat.zero_le _, rfl, rfl, rfl, by simp, HQ.out⟩
                case round =>
                  obtain ⟨a, q, ha, hk2, rfl, rfl, hq, hbp⟩ := hrel
                  have HK2 := Lib.hid hk2
                  have HBP := Lib.hid hbp
                  have HQQ := Lib.hid hq
                  clear hk2 hbp hq
                  have ha0 : (0 : Int) ≤ (a : Int) := Int.natCast_nonneg _
                  by_cases hal : a < l.length
                  · have hal' : (a : Int) < (l.length : Int) := by omega
                    obtain ⟨v, hv⟩ : ∃ v, l[a]? = some v := ⟨_, List.getElem?_eq_getElem hal⟩
                    obtain ⟨lb, lo, rfl, _, hlc⟩ := HM2.out.at hv
                    have d0 := hlc
                    rw [← World.cell?_of_block ((H7.out.below HBP.out).bel.block _ (cellLt hlc))] at d0
                    have hvg := Mf.good_all HG.out v (List.mem_cons_of_mem _ (List.mem_of_getElem? hv))
                    have HNX : Hid ((l.take (a + 1)).any (fun v => decide ([115, 101, 103, 45] ++ Lib.itoa v = s.data.toList)) = ((l.take a).any (fun v => decide ([115, 101, 103, 45] ++ Lib.itoa v = s.data.toList)) || decide ([115, 101, 103, 45] ++ Lib.itoa v = s.data.toList))) := by
                      refine Lib.hid ?_
                      rw [List.take_add_one, hv, List.any_append]
                      simp
                    clear hv hlc
                    cases q
                    · skip
                      obtain ⟨n, rfl⟩ := Int.eq_ofNat_of_zero_le (show 0 ≤ v by omega)
                      go_wp2_with fail
                      refine (digits_any n _ (by omega)).mono ?_
                      rintro e w8 ⟨rfl, hb8⟩
                      have HB8 := Lib.hid (HBP.out.trans (hb8.mono HBP.out.size))
                      obtain ⟨t, ht⟩ : ∃ t : ByteArray, t = ⟨(Lib.decDigits n).toArray⟩ := ⟨_, rfl⟩
                      have hsz : (t.size : Int) ≤ 21 := by
                        have hlen2 := Lib.itoa_length_le (n : Int) (by omega) (by omega)
                        rw [Lib.itoa_nonneg] at hlen2
                        rw [ht]
                        show ((Lib.decDigits n).toArray.size : Int) ≤ 21
                        simp; omega
                      have hsz0 : (0 : Int) ≤ (t.size : Int) := Int.natCast_nonneg _
                      rw [← ht]
                      have HTT := Lib.hid ht
                      clear hb8 ht
                      go_wp2_with fail
                      go_roundg (l.length - (a + 1))
                      case measure => rw [HK2.out]; omega
                      case rel => exact ⟨a + 1, _, by omega, rfl, by simp, rfl, by rw [HNX.out, ← Bool.or_assoc, ← HQQ.out, Bool.false_or, HTT.out]; exact seg_eq s n, HB8.out⟩
                    · skip
                      go_wp2_with fail
                      go_roundg (l.length - (a + 1))
                      case measure => rw [HK2.out]; omega
                      case rel => exact ⟨a + 1, true, by omega, rfl, by simp, rfl, by rw [HNX.out, ← Bool.or_assoc, ← HQQ.out]; rfl, HBP.out⟩
                  · have hal' : (l.length : Int) ≤ (a : Int) := by omega
                    have hqt : q = true := by
                      rw [HQQ.out, List.take_of_length_le (by omega), HT.out]
                      rcases HRE.out with h | ⟨⟨v, hv, e⟩, _, _⟩
                      · rw [decide_eq_true h]; rfl
                      · rw [List.any_eq_true.2 ⟨v, hv, decide_eq_true e⟩, Bool.or_true]
                    subst hqt
                    have HCP := Lib.hid (H7.out.below HBP.out)
                    go_wp2_with fail
                    refine (read_any w2.heap.size _ st6 V6 own6 s wr HCP.out.ok hss (fun f hf => by have := (HCL.out.sound.full f hf).2; omega)).mono ?_
                    rintro e w8 ⟨hb8, hres⟩
                    have HB8 := Lib.hid (HBP.out.trans (hb8.mono HBP.out.size))
                    rcases hres with ⟨h0, f, v2, hf, rfl, ho2⟩ | ⟨hx, _⟩
                    · have hfa : Fs.fileAt st6 s.data.toList = f.1 := by unfold Fs.fileAt; rw [hf]
                      obtain ⟨da, dn, dc, hv2, HDN⟩ := OwnB.form3 ho2
                      subst hv2
                      have hcv := convB ho2.byts
                      cases T
                      · have hfs : (⟨f.1.toArray⟩ : ByteArray) = s := by
                          rcases HRE.out with h | ⟨_, h, _⟩
                          · have := HT.out; rw [decide_eq_true h] at this; cases this
                          · obtain ⟨_, h2⟩ := Fs.look_some h
                            rw [← hfa, h2]
                        rw [hfs] at hcv
                        clear hb8 h0 hf hfa ho2 hfs
                        go_wp2_with fail
                        go_roundg (N - (i + 1))
                        case measure => rw [HK'.out]; omega
                        case rel => exact ⟨i + 1, by omega, rfl, by simp, HB8.out⟩
                      · clear hb8 h0 hf hfa ho2 hcv
                        go_wp2_with fail
                        go_roundg (N - (i + 1))
                        case measure => rw [HK'.out]; omega
                        case rel => exact ⟨i + 1, by omega, rfl, by simp, HB8.out⟩
                    · exact absurd HOP.out hx
              · have hin' : (N : Int) ≤ (i : Int) := by omega
                have HCQ := Lib.hid (H7.out.below HQ.out)
                have HLD := Lib.hid (HCL.out.load HG.out)
                go_wp2_with fail
                refine (load_any w2.heap.size _ st6 V6 own6 wr HCQ.out.ok (HEb.out.below HCQ.out.bel) HCQ.out.hb 500 HCL.out.sound).mono ?_
                rintro e w8 ⟨hb8, sv, rfl, hoi⟩
                rw [HLD.out] at hoi ⊢
                obtain ⟨sva, svn, svc, hsv, HSVN⟩ := OwnI.form3 hoi
                subst hsv
                have hbA : Below w8.heap.size w8 (w8.alloc (.cells #[.int .i64 ver, .slice sva svn svc] 24)) := (Below.refl _ _).alloc (Nat.le_refl _) _
                have HLA := Lib.hid ((HCQ.out.below hb8).below hbA)
                have HNA := Lib.hid (hoi.keep hbA).nums
                have HFIN : Hid (Below w.heap.size w (w8.alloc (.cells #[.int .i64 ver, .slice sva svn svc] 24))) := Lib.hid (HB2.out.trans (HLA.out.bel.mono HB2.out.size))
                have hg3 := heap_new w8 (.cells #[.int .i64 ver, .slice sva svn svc] 24)
                have hg2 := (HLA.out.bel.block _ hbx).trans HR2.out
                have x0 := fun x => Later.cell (root_cell hg3 0 _ rfl : (w8.alloc (.cells #[.int .i64 ver, .slice sva svn svc] 24)).cell? ⟨w8.heap.size, 0, none⟩ = some (.int .i64 ver)) x
                have x1 := fun x => Later.cell (root_cell hg3 1 _ rfl : (w8.alloc (.cells #[.int .i64 ver, .slice sva svn svc] 24)).cell? ⟨w8.heap.size, 1, none⟩ = some (.slice sva svn svc)) x
                have x2 := fun x => Later.cell (root_cell hg2 0 _ rfl : (w8.alloc (.cells #[.int .i64 ver, .slice sva svn svc] 24)).cell? ⟨w.heap.size, 0, none⟩ = some (.int .i64 ver)) x
                have x3 := fun x => Later.cell (root_cell hg2 1 _ rfl : (w8.alloc (.cells #[.int .i64 ver, .slice sva svn svc] 24)).cell? ⟨w.heap.size, 1, none⟩ = some (.slice la l.length lc)) x
                have hgl : l.length ≤ 1000000000 := by omega
                have HNL : Hid (Ints (w8.alloc (.cells #[.int .i64 ver, .slice sva svn svc] 24)) (.slice la l.length lc) l) := Lib.hid (HM2.out.below HLA.out.bel)
                have HREF : Hid (∀ x : Later (w8.alloc (.cells #[.int .i64 ver, .slice sva svn svc] 24)), Calls Tryz.prog 16 #[.agg #[.int .i64 ver, .slice la l.length lc]] x.1 fun e w' => e = .returned (.agg #[.int .i64 ver, .slice la l.length lc]) ∧ Below x.1.heap.size x.1 w') :=
                  Lib.hid fun x => lref_any _ _ _ _ _
                have HSAME : Hid (∀ x : Later (w8.alloc (.cells #[.int .i64 ver, .slice sva svn svc] 24)), Calls Tryz.prog 20 #[.agg #[.int .i64 ver, .slice sva svn svc], .agg #[.int .i64 ver, .slice la l.length lc]] x.1 fun e w' => e = .returned (.bool true) ∧ Below x.1.heap.size x.1 w') :=
                  Lib.hid fun x => (lsame_any ver ver _ _ l l _ (HNA.out.below x.2) (HNL.out.below x.2) hgl hgl).mono (by rintro e w' ⟨rfl, hb⟩; exact ⟨by rw [decide_eq_true ⟨rfl, rfl⟩], hb⟩)
                clear hg3 hg2 hb8 hoi hbA
                go_wp2_with fail
                refine wp_region_later (by kernel_rfl) (by kernel_rfl) ?_
                repeat (go_big_quiet_step ((first | (with_reducible exact Later.call (v := .agg #[.int .i64 ver, .slice la l.length lc]) (HREF.out _)) | (with_reducible exact Later.call (v := .bool true) (HSAME.out _)))))
                refine wpQuiet_nil ?_; rintro w4 ⟨⟨_, hb4⟩, rfl⟩
                go_wp2_with fail
                go_ret
                exact ⟨rfl, HFIN.out.trans (hb4.mono HFIN.out.size)⟩
end Go.Proofs.YtcinagglbkbmkaaGreatDoor
namespace Go.Proofs.YtcinagglbkbmkaaGreatDoor
set_option linter.unusedSimpArgs false
set_option linter.unusedVariables false
open Go Go.RowKit

theorem ints_reads {w : World} {P : Nat → Prop} {a : Option Addr} {cap : Nat} {l : List Int} (h : Reads w P (.seq 1 (l.map .int)) [.slice a l.length cap]) : Ints w (.slice a l.length cap) l := by
  obtain ⟨a', cap', e, hs⟩ := h.seq_inv
  simp only [List.length_map, List.cons.injEq, and_true, Value.slice.injEq] at e
  obtain ⟨rfl, -, rfl⟩ := e
  refine ⟨a, cap, rfl, fun i x hi => ?_⟩
  obtain ⟨g, o, cs, e, -, hg, hl, hc, hr⟩ := hs.at i (.int x) (by rw [List.getElem?_map, hi]; rfl)
  have e2 := hr.int_inv
  subst e2
  refine ⟨g, o, e, hg, ?_⟩
  have := hc 0 (.int .i64 x) rfl
  rw [Nat.zero_add, Nat.mul_one, Nat.add_zero] at this
  exact this
theorem ints_reads1 {w : World} {P : Nat → Prop} {l : List Int} {cs : List Value} (h : Reads w P (.seq 1 (l.map .int)) cs) : ∃ sv, cs = [sv] ∧ Ints w sv l := by
  obtain ⟨a, cap, e, hs⟩ := h.seq_inv
  rw [List.length_map] at e
  subst e
  exact ⟨_, rfl, ints_reads h⟩
theorem strs_reads {w : World} {P : Nat → Prop} {l : List (List UInt8)} {cs : List Value} (h : Reads w P (.seq 1 (l.map .str)) cs) : ∃ sv, cs = [sv] ∧ Strs w sv (strsOf l) := by
  obtain ⟨a, cap, e, hs⟩ := h.seq_inv
  subst e
  refine ⟨_, rfl, a, cap, by unfold strsOf; rw [List.length_map, List.length_map], fun i s hi => ?_⟩
  unfold strsOf at hi
  rw [List.getElem?_map] at hi
  cases hx : l[i]? with
  | none => rw [hx] at hi; cases hi
  | some x =>
    rw [hx] at hi
    simp at hi; subst hi
    obtain ⟨g, o, cs, e, -, hg, hl, hc, hr⟩ := hs.at i (.str x) (by rw [List.getElem?_map, hx]; rfl)
    have e2 := hr.str_inv
    subst e2
    refine ⟨g, o, e, hg, ?_⟩
    have := hc 0 _ rfl
    rw [Nat.zero_add, Nat.mul_one, Nat.add_zero] at this
    exact this
/-- A manifest as a tree. -/
def manD (m : Int × List Int) : D := .obj [.int m.1, .seq 1 (m.2.map .int)]
theorem man_reads {w : World} {P : Nat → Prop} {m : Int × List Int} {cs : List Value} (h : Reads w P (manD m) cs) : ∃ sv, cs = [.int .i64 m.1, sv] ∧ Ints w sv m.2 := by
  obtain ⟨c, r, rfl, h1, h2⟩ := h.obj_inv.cons_inv
  obtain ⟨c2, r2, rfl, h3, h4⟩ := h2.cons_inv
  have := h4.nil_inv
  subst this
  have := h1.int_inv
  subst this
  obtain ⟨sv, rfl, h5⟩ := ints_reads1 h3
  exact ⟨sv, rfl, h5⟩
theorem hasT_ints : ∀ {ds : List D}, HasTe Tryz.prog 3 ds → ∃ l : List Int, ds = l.map .int
  | [], _ => ⟨[], rfl⟩
  | d :: ds, h => by
    unfold HasTe at h
    obtain ⟨n, rfl, -⟩ := h.1.int Tryz.underlying3
    obtain ⟨l, rfl⟩ := hasT_ints h.2
    exact ⟨n :: l, rfl⟩
theorem hasT_strs : ∀ {ds : List D}, HasTe Tryz.prog 9 ds → ∃ l : List (List UInt8), ds = l.map .str ∧ ∀ s ∈ l, s.length ≤ maxLen
  | [], _ => ⟨[], rfl, fun s hs => by cases hs⟩
  | d :: ds, h => by
    unfold HasTe at h
    obtain ⟨s, rfl, hs⟩ := h.1.str Tryz.underlying9
    obtain ⟨l, rfl, hl⟩ := hasT_strs h.2
    exact ⟨s :: l, rfl, fun x hx => by rcases List.mem_cons.1 hx with rfl | hx; exact hs; exact hl x hx⟩
theorem manFields : ∃ fs, Tryz.prog.underlying 24 = some (.struct fs) ∧ fs.toList.map (·.type) = [3, 22] := ⟨_, Tryz.underlying24, rfl⟩
theorem cellsInt : Tryz.prog.cellsOf 3 = 1 := by kernel_rfl
theorem cellsString : Tryz.prog.cellsOf 9 = 1 := by kernel_rfl
theorem hasT_man {d : D} (h : HasT Tryz.prog 24 d) : ∃ m, d = manD m ∧ m.2.length ≤ maxLen := by
  obtain ⟨fs, hu, hf⟩ := manFields
  obtain ⟨ds, rfl, ht⟩ := h.obj hu
  rw [hf] at ht
  obtain ⟨d0, r, rfl, h0, ht⟩ := ht.cons
  obtain ⟨d1, r, rfl, h1, ht⟩ := ht.cons
  have := ht.nil
  subst this
  obtain ⟨n, rfl, -⟩ := h0.int Tryz.underlying3
  obtain ⟨ds, rfl, hl, he⟩ := h1.seq Tryz.underlying22
  obtain ⟨l, rfl⟩ := hasT_ints he
  rw [cellsInt]
  exact ⟨(n, l), rfl, by simpa using hl⟩
def manTypes : List TypeId := [41, 24, 22, 3, 42, 9]
theorem manNice : niceB Tryz.prog manTypes = true := by kernel_rfl
section
set_option maxRecDepth 20000
variable {H : Type} {enc : TypeId × Value → H} {W : World} {v : Value} {x : DataW H} {ps : List MemPlace} {sp : Nat → Bool} {r : Reach} {base : Nat}
theorem strs_arg (hv : Value.okWide Tryz.prog W r base 42 v) (h : DataW.Trod enc Tryz.prog W 0 sp true 42 v x ps) : ∃ l : List (List UInt8), Strs W v (strsOf l) ∧ l.length ≤ maxLen ∧ ∀ s ∈ l, s.length ≤ maxLen := by
  obtain ⟨a0, len, cap, rfl⟩ := Go.WideShapes.okWide_slice Tryz.underlying42 hv
  obtain ⟨d, hr, ht⟩ := open_arg manNice (by simp [manTypes]) h
  obtain ⟨ds, rfl, hl, he⟩ := ht.seq Tryz.underlying42
  obtain ⟨l, rfl, hs⟩ := hasT_strs he
  rw [cellsString] at hr
  obtain ⟨sv, e, h1⟩ := strs_reads hr
  have e : [Value.slice a0 len cap] = [sv] := e
  simp only [List.cons.injEq, and_true] at e
  subst e
  exact ⟨l, h1, by simpa using hl, hs⟩
theorem manif_arg (hv : Value.okWide Tryz.prog W r base 24 v) (h : DataW.Trod enc Tryz.prog W 0 sp true 24 v x ps) : ∃ (m : Int × List Int) (sv : Value), v = .agg #[.int .i64 m.1, sv] ∧ Ints W sv m.2 ∧ m.2.length ≤ maxLen := by
  obtain ⟨fs, hu, hf⟩ := manFields
  obtain ⟨cs, rfl, -⟩ := Go.WideShapes.okWide_struct hu hv
  obtain ⟨d, hr, ht⟩ := open_arg manNice (by simp [manTypes]) h
  obtain ⟨m, rfl, hm⟩ := hasT_man ht
  have hr : Reads W (fun _ => True) (manD m) cs.toList := hr
  obtain ⟨sv, e, h1⟩ := man_reads hr
  refine ⟨m, sv, ?_, h1, hm⟩
  congr 1
  have := congrArg List.toArray e
  simpa using this
end
end Go.Proofs.YtcinagglbkbmkaaGreatDoor
namespace Go.Proofs.YtcinagglbkbmkaaGreatDoor
set_option linter.unusedSimpArgs false
set_option linter.unusedVariables false
open Go Go.RowKit
open Go.ChangeShapes Go.WideShapes Go.ChangeAt

theorem own : ownKnob Tryz.prog.godebug = none := by kernel_rfl
theorem laidOut : laidOutB Tryz.prog = true := by kernel_rfl
/-- The list that each row bears. -/
abbrev laidList : List (String × DataW Unit) := [("math/bits.deBruijn32tab", Rows.laid_math_bits_deBruijn32tab), ("math/bits.deBruijn64tab", Rows.laid_math_bits_deBruijn64tab), ("internal/strconv.uint64pow10", Rows.laid_internal_strconv_uint64pow10), ("unicode/utf8.acceptRanges", Rows.laid_unicode_utf8_acceptRanges), ("strconv.ErrRange", Rows.laid_strconv_ErrRange), ("strconv.ErrSyntax", Rows.laid_strconv_ErrSyntax), ("unicode/utf8.first", Rows.laid_unicode_utf8_first)]
theorem starES : "*" ++ "errors.errorString" = "*errors.errorString" := by decide
theorem rowES (u : TypeId) (h : Tryz.prog.typeName? 3 u = some "*errors.errorString") : u = 301 :=
  typeName_ptr_named (nm := "errors.errorString") (by rw [starES]; kernel_rfl) (by kernel_rfl) (by decide) u (by rw [starES]; exact h)
theorem cellsES : Tryz.prog.cellsOf 303 = 1 := by kernel_rfl
theorem cellsStr : Tryz.prog.cellsOf 9 = 1 := by kernel_rfl
theorem varLt {W : World} {n : String} {g : Nat} {cs : Array Value} (hg : Tryz.prog.globalNamed n = some g) (h : W.var? Tryz.prog n = some cs) : g < W.heap.size := by
  unfold World.var? at h
  rw [hg] at h
  rcases Nat.lt_or_ge g W.heap.size with h' | h'
  · exact h'
  · simp [Array.getElem?_eq_none h'] at h
set_option maxRecDepth 100000 in
theorem env_of {W : World} (hL : laidMet Tryz.prog laidList W) (hS : W.ShapedOpen Tryz.prog) : MEnv W.heap.size W := by
  have h1 : Lib.TabIs Tryz.prog W "internal/strconv.uint64pow10" .u64 Lib.pow10Tab :=
    Lib.tabIs_of_head (g := 2) (by kernel_rfl) (by kernel_rfl) Tryz.underlying296 Tryz.underlying270 (by kernel_rfl) (by kernel_rfl) (show laidMet Tryz.prog (("internal/strconv.uint64pow10", Lib.tabData .u64 Lib.pow10Tab) :: _) W from hL.tail.tail)
  obtain ⟨a0, s0, hv0, -, -, -⟩ := laid_sentinel hL.tail.tail.tail.tail (g := 1) (by kernel_rfl) (by kernel_rfl) Tryz.underlying137 rowES Tryz.underlying301 Tryz.underlying303 rfl rfl Tryz.underlying9 cellsES cellsStr
  obtain ⟨a1, s1, hv1, -, -, -⟩ := laid_sentinel hL.tail.tail.tail.tail.tail (g := 0) (by kernel_rfl) (by kernel_rfl) Tryz.underlying137 rowES Tryz.underlying301 Tryz.underlying303 rfl rfl Tryz.underlying9 cellsES cellsStr
  have hm : ∃ m, W.cell? ⟨3, 0, none⟩ = some (.int .i64 m) := cell_of_shapedOpen_int (zero := #[.int .i64 0]) (t := 3) hS (of_decide_eq_true (by kernel_rfl)) (by kernel_rfl) rfl (by kernel_rfl) (by kernel_rfl) Tryz.underlying3
  obtain ⟨m, hm'⟩ := hm
  exact ⟨⟨h1, ⟨_, _, hv0⟩, ⟨_, _, hv1⟩, varLt (by kernel_rfl) h1, varLt (by kernel_rfl) hv0, varLt (by kernel_rfl) hv1⟩, ⟨m, hm'⟩, cellLt hm'⟩

abbrev synS : ByteArray := { data := #[105, 110, 118, 97, 108, 105, 100, 32, 115, 121, 110, 116, 97, 120] }
abbrev rngS : ByteArray := { data := #[118, 97, 108, 117, 101, 32, 111, 117, 116, 32, 111, 102, 32, 114, 97, 110, 103, 101] }
/-- So many blocks has the settled world. -/
noncomputable def low : Nat := (World.holding Tryz.prog default ⟨#[], #[], []⟩).heap.size
def tab32 : List Int := [0, 1, 28, 2, 29, 14, 24, 3, 30, 22, 20, 15, 25, 17, 4, 8, 31, 27, 13, 23, 21, 19, 16, 7, 26, 12, 18, 6, 11, 5, 10, 9]
def tab64 : List Int := [0, 1, 56, 2, 57, 49, 28, 3, 61, 58, 42, 50, 38, 29, 17, 4, 62, 47, 59, 36, 45, 43, 51, 22, 53, 39, 33, 30, 24, 18, 12, 5, 63, 55, 48, 27, 60, 41, 37, 16, 46, 35, 44, 21, 52, 32, 23, 11, 54, 26, 40, 15, 34, 20, 31, 10, 25, 14, 19, 9, 13, 8, 7, 6]
/-- The settled world, the variables holding what their initialisers lay. -/
noncomputable def laidWorld (os : Os) : World :=
  let w0 := World.holding Tryz.prog os ⟨#[.cells #[.string synS] 303, .cells #[.string rngS] 303], #[], []⟩
  let put (h : Array Obj) (g : Nat) (cs : Array Value) : Array Obj := h.modify g fun
    | .cells _ t frozen => .cells cs t frozen
    | o => o
  let h1 := put w0.heap 0 #[.iface 301 (.pointer (some ⟨low, 0, none⟩))]
  let h2 := put h1 1 #[.iface 301 (.pointer (some ⟨low + 1, 0, none⟩))]
  let h3 := put h2 2 (Lib.pow10Tab.map fun z => Value.int .u64 z).toArray
  let h4 := put h3 6 (tab32.map fun z => Value.int .u8 z).toArray
  let h5 := put h4 7 (tab64.map fun z => Value.int .u8 z).toArray
  let h6 := put h5 4 (Lib.firstTab.map fun z => Value.int .u8 z).toArray
  let h7 := put h6 5 ((List.range 16).flatMap fun i => [Value.int .u8 (Lib.accLo i), Value.int .u8 (Lib.accHi i)]).toArray
  { w0 with heap := h7 }
theorem laid_met (os : Os) (args : Array Value) : laidMet Tryz.prog laidList ((laidWorld os).forCall (fun _ _ => 0) ⟨#[], args, []⟩).memory :=
  (LaidIn.of_run (l := laidList) [0, 1, 2, 6, 7, 4, 5, low, low + 1] 8 (by kernel_rfl) (by kernel_rfl) (by kernel_rfl) (by kernel_rfl)).met
end Go.Proofs.YtcinagglbkbmkaaGreatDoor
