/-
  The file system: Crash, walked.
-/
import Derived.Test.YtcinagglbkbmkaaDoorZk10
import Derived.Test.YtcinagglbkbmkaaDoorZk9
namespace Go.Proofs.YtcinagglbkbmkaaDoor
set_option linter.unusedSimpArgs false
set_option linter.unusedVariables false
open Go Go.RowKit
open Go.Maps Go.WideMaps

set_option maxHeartbeats 1000000 in
set_option maxRecDepth 100000 in
theorem do_any2 (md : Nat) (d l : Fs.Names) (v : Value) (w : World) (hM : MapOf w md d) (hC : ChgCells w v l) (hne : ∀ b n c, v = .slice (some b) n c → b.block ≠ md) (hl : ∀ c ∈ l, c.1.length ≤ 1000000 ∧ c.2 ≤ 9223372036854775807)
    (hn : d.length + l.length ≤ 1000000) :
    Calls Tryd.prog 21 #[.map (some md), v] w fun e w' => e = .returned (.tuple #[]) ∧ MapOf w' md (Fs.doAll d l) ∧ But (fun k => k = md) w w' := by
  obtain ⟨g, cap, rfl, hg, hcl⟩ := hC
  have hgm : g ≠ md := hne _ _ _ rfl
  go_enter Tryd.func21, Tryd.ntmps21
  go_wp2
  go_loopg [8] l.length (fun k s8 wr => ∃ j : Nat, j ≤ l.length ∧ k = l.length - j ∧ s8 = .int .i64 (j : Nat) ∧ MapOf wr md (Fs.doAll d (l.take j)) ∧ But (fun k => k = md) w wr)
  case atStart => exact ⟨0, Nat.zero_le _, rfl, rfl, hM, But.refl _ _⟩
  case round =>
    obtain ⟨j, hj, hk, rfl, hMr, hB⟩ := hrel
    have HK := Lib.hid hk
    clear hk
    have hj0 : (0 : Int) ≤ (j : Int) := Int.natCast_nonneg _
    by_cases hjn : j < l.length
    · have hjn1 : (j : Int) < (l.length : Int) := by omega
      obtain ⟨p, hp⟩ : ∃ p, l[j]? = some p := ⟨_, List.getElem?_eq_getElem hjn⟩
      obtain ⟨k0, k1⟩ := hcl j p hp
      have c0 : wr.cell? ⟨g, j * 2, none⟩ = some (.string ⟨p.1.toArray⟩) := by rw [hB.cell hg hgm]; exact k0
      have c1 : wr.cell? ⟨g, j * 2 + 1, none⟩ = some (.int .i64 p.2) := by rw [hB.cell hg hgm]; exact k1
      obtain ⟨hpl, hpb⟩ := hl p (List.mem_of_getElem? hp)
      have HTK : Hid (Fs.doAll d (l.take (j + 1)) = Fs.doOne (Fs.doAll d (l.take j)) p) := by
        unfold Fs.doAll
        rw [List.take_add_one, hp, List.foldl_append]
        exact Lib.hid rfl
      have hlen : (Fs.doAll d (l.take j)).length ≤ 1000000 := by
        have := Fs.doAll_len (l.take j) d
        rw [List.length_take] at this
        omega
      have hkey := keyOf_string_mk Tryd.underlying9 (s := ⟨p.1.toArray⟩) (show p.1.length ≤ maxLen by unfold maxLen; omega)
      have HM1 := Lib.hid (World.ownsMap.alloc hMr (.cells #[.string ⟨p.1.toArray⟩, .int .i64 p.2] 91))
      have HB1 := Lib.hid (hB.alloc (.cells #[.string ⟨p.1.toArray⟩, .int .i64 p.2] 91))
      clear k0 k1 hp hMr hB
      by_cases hneg : p.2 < 0
      · have HD : Hid (Fs.doOne (Fs.doAll d (l.take j)) p = Fs.mdel (Fs.doAll d (l.take j)) p.1) := by unfold Fs.doOne; rw [if_pos hneg]; exact Lib.hid rfl
        go_wp2_with (first | (at_delete; refine wpList_delete_own _ rfl _ _ 35 9 rfl 3 strKeyed Tryd.underlying35 _ md _ _ rfl HM1.out _ _ rfl hkey ?_; intro w3 hown3 hturn3) | fail)
        go_roundg (l.length - (j + 1))
        case measure => rw [HK.out]; omega
        case rel =>
          refine ⟨j + 1, hjn, rfl, by simp, ?_, HB1.out.grown hturn3.grown (fun k h => by simpa using h.symm)⟩
          rw [HTK.out, HD.out]
          rw [Fs.datum_del] at hown3
          exact MapOf.of hown3
      · have hneg2 : 0 ≤ p.2 := by omega
        have HW : Hid ((Lit.int .i64 p.2).wf = true) := by
          refine Lib.hid ?_
          have e1 : IntKind.i64.min = -9223372036854775808 := by decide
          have e2 : IntKind.i64.max = 9223372036854775807 := by decide
          simp [Lit.wf, e1, e2]
          omega
        have HD : Hid (Fs.doOne (Fs.doAll d (l.take j)) p = Fs.mput (Fs.doAll d (l.take j)) p.1 p.2) := by unfold Fs.doOne; rw [if_neg hneg]; exact Lib.hid rfl
        go_wp2_with (first | (at_mapUpdate; refine wpList_mapUpdate_own _ rfl _ _ _ 35 rfl 9 3 strKeyed Tryd.underlying35 _ md _ _ rfl HM1.out (by unfold maxLen; omega) _ _ _ rfl rfl hkey _ [] (plainElem_int Tryd.underlying3 HW.out) ?_; intro w3 hown3 hgrow3) | fail)
        go_roundg (l.length - (j + 1))
        case measure => rw [HK.out]; omega
        case rel =>
          refine ⟨j + 1, hjn, rfl, by simp, ?_, HB1.out.grown hgrow3 (fun k h => by simpa using h.symm)⟩
          rw [HTK.out, HD.out]
          rw [Fs.datum_put] at hown3
          exact MapOf.of hown3
    · have hjn1 : (l.length : Int) ≤ (j : Int) := by omega
      have hjl : l.take j = l := List.take_of_length_le (by omega)
      rw [hjl] at hMr
      go_wp2
      go_end0
      exact ⟨rfl, hMr, hB⟩
/-- Changes, as they lie. -/
theorem ChgOne.cells {w : World} {own : Nat → Tag} {v : Value} {l : Fs.Names} (h : ChgOne w own v l) : ChgCells w v l ∧ ∀ b n c, v = .slice (some b) n c → own b.block = .chgs := by
  obtain ⟨b, cap, cur, rfl, h2, h3, h4⟩ := h
  refine ⟨chg_cells h3 h4, fun p n c e => ?_⟩
  simp only [Value.slice.injEq, Option.some.injEq] at e
  rw [← e.1]; exact h2
theorem FsAt.synced1 {base B : Nat} {st : Fs.St} {V : FsV} {own : Nat → Tag} {w w3 : World} (h : FsAt base B st V own w) (hb : Below w.heap.size w w3) (hm : MapOf w3 w.heap.size st.dir) (hbase : base ≤ w.heap.size) :
    FsAt base B { st with sure := st.dir } { V with ms := w.heap.size } (tag1 own w.heap.size .sure)
      (w3.setCell ⟨B, 6, none⟩ (.map (some w.heap.size))) := by
  have ho : ∀ k, k < w.heap.size → tag1 own w.heap.size .sure k = own k := fun k hk => tag1_old hk
  have hB := heap_lt h.root
  have hk : Kept own (· = .root) w (w3.setCell ⟨B, 6, none⟩ (.map (some w.heap.size))) :=
    (kept_below hb).setCell ⟨B, 6, none⟩ h.tB _
  have hk2 := hk.tags ho
  have hr3 : w3.heap[B]? = some (.cells (FsCells st V) 38 (0, 0)) := by rw [hb.block B hB]; exact h.root
  refine ⟨heap_set hr3 _, (ho B hB).trans h.tB, h.lo, h.left, (h.plan.tags (fun k hk _ => ho k hk)).kept hk2 (by simp), row_kept h.files (fun g hg => hk.block g (row_block_lt h.files g hg).2 (by rw [h.tfiles g hg]; simp)), fun k hk3 => (ho k (row_block_lt h.files k hk3).2).trans (h.tfiles k hk3), h.nfb, h.ndv,
    fun i f b d h1 h2 h3 => ((h.file i f b d h1 h2 h3).tags (fun k hk _ => ho k hk)).kept hk2 (by simp) (by simp), h.dir.heap (hk.block _ h.dir.lt (by rw [h.tdir]; simp)), (ho _ h.dir.lt).trans h.tdir, ?_, tag1_new, (h.chg.tags (fun k hk _ => ho k hk)).kept hk2 (by simp) (by simp), h.known, ⟨h.bl.1, hbase⟩⟩
  · refine hm.heap ?_
    have hne : w.heap.size ≠ B := by omega
    rw [Below.heap_setCell _ _ _ _ hne]
/-- The first bytes of a row, copied. -/
theorem cloneBpart (base : Nat) (a : Option Addr) (n c m : Nat) (l : List UInt8) (w : World) (h : OwnB w base (.slice a n c) l) (hn : n = l.length) (hm : m ≤ l.length) (hl : l.length ≤ 1000000000) :
    Calls Tryd.prog 24 #[.slice a m c] w fun e w' => ∃ v', e = .returned v' ∧ OwnB w' w.heap.size v' (l.take m) ∧ Below w.heap.size w w' := by
  obtain ⟨i0, hi, hz0, hz1, hz2⟩ := info_parts infoB
  have hlt : (l.take m).length = m := by rw [List.length_take]; omega
  rcases h.2 with ⟨h1, h2⟩ | ⟨g, cap, cur, h1, hg, hc, hcap, hmax, hsz, htk⟩
  · simp only [Value.slice.injEq] at h1
    obtain ⟨rfl, _, rfl⟩ := h1
    refine (AnyE.slices_Clone_nil cloneB_lays m 0 w).mono ?_
    rintro e w' ⟨rfl, rfl⟩
    have hl0 : l.take m = [] := List.length_eq_zero_iff.1 (by omega)
    rw [hl0]
    exact ⟨_, rfl, World.ownsRow_nil _ _ _ _, Below.refl _ _⟩
  · simp only [Value.slice.injEq] at h1
    obtain ⟨rfl, _, rfl⟩ := h1
    refine (AnyE.slices_Clone cloneB_lays i0 (.int .u8 0) 1 1 hi hz0 hz1 hz2 rfl (by decide) (fun w => Tryd.sizeOf5 w) g 0 m c (u8Cells (l.take m)) w (by rw [u8Cells_len]; omega) (by unfold maxLen; omega) (by omega) ?_ (u8Cells_one _)).mono ?_
    · intro j u hj
      rw [Nat.zero_add]
      have hj2 : (u8Cells l)[j]? = some u := by
        unfold u8Cells at hj ⊢
        rw [List.getElem?_map] at hj ⊢
        rw [List.getElem?_take] at hj
        split at hj
        · exact hj
        · cases hj
      have := World.ownsRow.cells h rfl j u hj2
      rw [addr_add] at this
      exact this
    · rintro e w' ⟨v', rfl, h3, _, h4⟩
      exact ⟨v', rfl, by unfold OwnB; rw [hlt]; exact h3, h4⟩
namespace Fs
/-- On the way: files and names laid. -/
def midc (room : Int) (fs : List (List UInt8 × Nat)) (d : Names) : St := ⟨0, -1, [], room, fs, d, [], []⟩
end Fs
set_option maxHeartbeats 2000000 in
set_option maxRecDepth 100000 in
theorem crash_any (base B : Nat) (st : Fs.St) (V : FsV) (own : Nat → Tag) (dirs : Int) (tv : Value) (tails : List Int) (w : World) (h : FsOK base B st V own w) (hbase : base ≤ w.heap.size) (k : Nat) (hS : Fs.Sound st k) (hk : k ≤ 200000)
    (hN : Ints w tv tails) (ht : tails.length ≤ 1000000000) (hroom : 1 ≤ st.room ∧ st.room ≤ 1048576) :
    Calls Tryd.prog 10 #[.pointer (some ⟨B, 0, none⟩), .int .i64 dirs, tv] w fun e w' => ∃ B' V' own', e = .returned (.pointer (some ⟨B', 0, none⟩)) ∧ FsOK w.heap.size B' (Fs.crash st dirs tails) V' own' w' ∧ Below w.heap.size w w' := by
  obtain ⟨ta, tc, rfl⟩ := hN.form
  have H := Lib.hid h
  have HN := Lib.hid hN
  have c3 : w.cell? ⟨B, 3, none⟩ = some (.int .i64 st.room) := root_cell h.at_.root 3 _ rfl
  have hnc := hS.nc
  clear h hN
  go_enter Tryd.func10, Tryd.ntmps10
  go_wp2_with fail
  refine (new_any st.room w).mono ?_
  rintro e w1 ⟨hb1, hres⟩
  rcases hres with ⟨hx, _⟩ | ⟨_, rfl, V0, hok⟩
  · omega
  have HC1 := Lib.hid hok
  have HB1 := Lib.hid hb1
  have H1 := Lib.hid (H.out.kept (kept_below hb1))
  have c6 : w1.cell? ⟨B, 6, none⟩ = some (.map (some V.ms)) := root_cell H1.out.at_.root 6 _ rfl
  clear hb1 hok c3
  go_wp2_with fail
  refine (cloneM V.ms st.sure w1 H1.out.at_.sure).mono ?_
  rintro e w2 ⟨rfl, hm2, hb2⟩
  have HC2 := Lib.hid (HC1.out.kept (kept_below hb2))
  have HB2 := Lib.hid (HB1.out.trans (hb2.mono HB1.out.size))
  have H2 := Lib.hid (H.out.kept (kept_below HB2.out))
  have HM2 := Lib.hid hm2
  have c7 : w2.cell? ⟨B, 7, none⟩ = some V.cv := root_cell H2.out.at_.root 7 _ rfl
  obtain ⟨vs, hvs1, hvs2, hvs3⟩ := H2.out.at_.chg
  obtain ⟨cva, cvc, hcv, hcvc⟩ : ∃ a c, V.cv = .slice a st.changes.length c ∧ st.changes.length ≤ c := by
    rcases hvs1.2 with ⟨h1, h2⟩ | ⟨g, cap, cur, h1, hg, hb, hc, hm, _, _⟩
    · exact ⟨none, 0, by rw [h1, h2], by omega⟩
    · exact ⟨_, cap, h1, by omega⟩
  rw [hcv] at c7
  have hn0 : (0 : Int) ≤ (st.changes.length : Int) := Int.natCast_nonneg _
  obtain ⟨m, hm⟩ : ∃ m : Nat, max 0 (min dirs (st.changes.length : Int)) = (m : Int) := ⟨(max 0 (min dirs (st.changes.length : Int))).toNat, by omega⟩
  have hmn : m ≤ st.changes.length := by omega
  have hmc : (m : Int) ≤ (cvc : Int) := by omega
  have hm0 : (0 : Int) ≤ (m : Int) := Int.natCast_nonneg _
  have HD : Hid (Fs.dirsOf st dirs = m) := Lib.hid (by unfold Fs.dirsOf; rw [hm]; rfl)
  have z7 := fun x => Later.cell c7 x
  clear hb2 hm2 c6
  go_wp2_with fail
  refine wp_region_later (by kernel_rfl) (by kernel_rfl) ?_
  repeat (go_big_quiet_step (fail))
  refine wpQuiet_nil ?_; rintro w3 ⟨⟨_, hb3⟩, rfl⟩
  have HC3 := Lib.hid (HC2.out.kept (kept_below hb3))
  have HB3 := Lib.hid (HB2.out.trans (hb3.mono HB2.out.size))
  have H3 := Lib.hid (H.out.kept (kept_below HB3.out))
  have HM3 := Lib.hid (HM2.out.heap (hb3.block _ HM2.out.lt))
  have hz1 := HB1.out.size
  have hmd2 := HM2.out.lt
  have hz3 := hb3.size
  obtain ⟨vs, hvs1, hvs2, hvs3⟩ := H3.out.at_.chg
  rw [hcv] at hvs1
  have HCA : Hid (∀ (j : Nat) l, st.changes[j]? = some l → ∃ cb v, cva = some ⟨cb, 0, none⟩ ∧ cb < w3.heap.size ∧ cb ≠ w1.heap.size ∧ w3.cell? ⟨cb, j, none⟩ = some v ∧ ChgOne w3 own v l) := by
    refine Lib.hid fun j l hl => ?_
    obtain ⟨g, c, e⟩ := row_form hvs1 (by have := (List.getElem?_eq_some_iff.1 hl).1; omega)
    simp only [Value.slice.injEq] at e
    have hvl := hvs1.1
    obtain ⟨v, hv⟩ : ∃ v, vs[j]? = some v := ⟨_, List.getElem?_eq_getElem (by have := (List.getElem?_eq_some_iff.1 hl).1; omega)⟩
    have hg := row_block_lt hvs1 g (by rw [e.1]; rfl)
    refine ⟨g, v, e.1, hg.2, fun x => ?_, ?_, hvs3 j v l hv hl⟩
    · have h1 := hvs2 g (by rw [hcv, e.1]; rfl)
      rw [x, H.out.fresh _ hz1] at h1; cases h1
    · have := World.ownsRow.cells hvs1 (g := g) (by rw [e.1]; rfl) j v hv
      rw [addr_add] at this
      exact this
  clear hb3 c7 z7 hvs1 hvs2 hvs3
  go_wp2_with fail
  go_loopg [45] m (fun k' s45 wr => ∃ j : Nat, j ≤ m ∧ k' = m - j ∧ s45 = .int .i64 (j : Nat) ∧ MapOf wr w1.heap.size ((st.changes.take j).foldl Fs.doAll st.sure) ∧ But (fun b => b = w1.heap.size) w3 wr)
  case atStart => exact ⟨0, Nat.zero_le _, rfl, rfl, HM3.out, But.refl _ _⟩
  case round =>
    obtain ⟨j, hj, hk', rfl, hMr, hBr⟩ := hrel
    have HK := Lib.hid hk'
    have HMR := Lib.hid hMr
    have HBR := Lib.hid hBr
    clear hk' hMr hBr
    have hj0 : (0 : Int) ≤ (j : Int) := Int.natCast_nonneg _
    by_cases hjn : j < m
    · have hjn1 : (j : Int) < (m : Int) := by omega
      obtain ⟨l, hl⟩ : ∃ l, st.changes[j]? = some l := ⟨_, List.getElem?_eq_getElem (by omega)⟩
      obtain ⟨cb, v, rfl, hcb, hcbne, hcell, hone⟩ := HCA.out j l hl
      have e0 : wr.cell? ⟨cb, j, none⟩ = some v := by rw [HBR.out.cell hcb hcbne]; exact hcell
      obtain ⟨hcc, hcn⟩ := hone.cells
      have hchg := hS.chg l (List.mem_of_getElem? hl)
      have hlen : ((st.changes.take j).foldl Fs.doAll st.sure).length ≤ k + 2 * j := (hS.crashDir j).2.2
      have HTK : Hid ((st.changes.take (j + 1)).foldl Fs.doAll st.sure = Fs.doAll ((st.changes.take j).foldl Fs.doAll st.sure) l) := by
        rw [List.take_add_one, hl, List.foldl_append]
        exact Lib.hid rfl
      have hnf := hS.nf
      have HDO := Lib.hid (do_any2 w1.heap.size _ l v wr HMR.out (by
          obtain ⟨b, cap, e, h1, h2⟩ := hcc
          have hbne : b ≠ w1.heap.size := fun x => by
            have := hcn _ _ _ e
            rw [show (⟨b, 0, none⟩ : Addr).block = b from rfl, x, H.out.fresh _ hz1] at this
            cases this
          exact ⟨b, cap, e, Nat.lt_of_lt_of_le h1 HBR.out.size, fun i p hi => by rw [HBR.out.cell h1 hbne, HBR.out.cell h1 hbne]; exact h2 i p hi⟩)
        (fun b n c e x => by
          have := hcn b n c e
          rw [x, H.out.fresh _ hz1] at this
          cases this)
        (fun c hc => ⟨by have := Fs.good_len (hchg.1 c hc).2; omega, by have := (hchg.1 c hc).1; omega⟩) (by have := hchg.2; omega))
      clear hl hcell hone hcc hcn hchg
      go_wp2_with fail
      refine HDO.out.mono ?_
      rintro e w4 ⟨rfl, hm4, hb4⟩
      have HM4 := Lib.hid hm4
      have HB4 := Lib.hid (HBR.out.trans hb4)
      clear hm4 hb4
      go_wp2_with fail
      go_roundg (m - (j + 1))
      case measure => rw [HK.out]; omega
      case rel => exact ⟨j + 1, by omega, rfl, by simp, by rw [HTK.out]; exact HM4.out, HB4.out⟩
    · have hjn1 : (m : Int) ≤ (j : Int) := by omega
      have hje : j = m := by omega
      obtain ⟨D, hDD⟩ : ∃ D, D = Fs.crashDir st m := ⟨_, rfl⟩
      have HMD : Hid (MapOf wr w1.heap.size D) := by
        have := HMR.out
        rw [hje] at this
        rw [hDD]
        exact Lib.hid this
      obtain ⟨hDg, hDnd, hDl⟩ := hS.crashDir m
      rw [← hDD] at hDg hDnd hDl
      have HCR : Hid (Fs.crash st dirs tails = ⟨0, -1, [], st.room, (Fs.crashGo (Fs.cutOf st D tails) (Fs.keys D) [] []).1, (Fs.crashGo (Fs.cutOf st D tails) (Fs.keys D) [] []).2, (Fs.crashGo (Fs.cutOf st D tails) (Fs.keys D) [] []).2, []⟩) := by
        unfold Fs.crash; rw [HD.out, ← hDD]; exact Lib.hid rfl
      have hsz := Fs.datum_size D
      have hmax : Maps.size (Fs.datum D) ≤ maxLen := by rw [hsz]; unfold maxLen; omega
      have hbytes : Maps.size (Fs.datum D) * 16 ≤ 140737488355328 := by rw [hsz]; omega
      have HDG := Lib.hid hDg
      clear hDD hDg hje hjn hsz
      go_wp2_with fail
      refine ((callsIn_wide (n := 5)).1 (mapsKeys_any _ wr)).mono ?_
      rintro e w4 ⟨rfl, hw4⟩
      subst hw4
      go_wp2_with fail
      refine ((callsIn_wide (n := 5)).1 (sortedKeys_any w1.heap.size _ (Fs.datum D) _ wr HMD.out hmax hbytes)).mono ?_
      rintro e w5 ⟨v, ss, rfl, hSp, hrow, hnil, hb5⟩
      obtain ⟨hStr, hvo⟩ := sortedKeys_strs hSp hrow
      obtain ⟨la, lc, hv⟩ := hStr.form
      subst hv
      have hbr5 : Below wr.heap.size wr w5 := ((Below.refl _ wr).alloc (Nat.le_refl _) _).trans (hb5.mono (by simp))
      have HC5 : Hid (FsOK w.heap.size (w.heap.size + 2) (Fs.new st.room) V0 (tags0 w.heap.size) w5) := by
        have h1 : Kept (tags0 w.heap.size) (· = .other) w3 wr := ⟨HBR.out.os, HBR.out.tape, HBR.out.output, HBR.out.size, fun b hb ht => HBR.out.block b hb (fun e => ht (by rw [e]; exact HC1.out.fresh _ (Nat.le_refl _)))⟩
        exact Lib.hid ((HC3.out.kept h1).kept (kept_below hbr5))
      have HB5 : Hid (Below w.heap.size w w5) := by
        have h1 : Below w.heap.size w3 wr := ⟨HBR.out.os, HBR.out.tape, HBR.out.output, HBR.out.size, fun b hb => HBR.out.block b (by omega) (by omega)⟩
        have := HBR.out.size
        exact Lib.hid ((HB3.out.trans h1).trans (hbr5.mono (by omega)))
      have HM5 := Lib.hid (HMD.out.heap (hbr5.block _ HMD.out.lt))
      have HSTR := Lib.hid hStr
      have hz5 : w1.heap.size < w5.heap.size := Nat.lt_of_lt_of_le HMD.out.lt hbr5.size
      have HLO : Hid (∀ p, la = some p → tags0 w.heap.size p.block = .other) := Lib.hid fun p hp => HC1.out.fresh _ (by
        have := (hvo p.block (by rw [hp]; rfl)).1
        simp at this
        have := HMD.out.lt
        omega)
      have HKL : Hid ((strsOf (Fs.keys D)).length = (Fs.keys D).length) := Lib.hid (by unfold strsOf; rw [List.length_map])
      obtain ⟨N, hNN⟩ : ∃ N, N = (strsOf (Fs.keys D)).length := ⟨_, rfl⟩
      have hNk : N ≤ 600000 := by rw [hNN, HKL.out, Fs.keys_len]; omega
      rw [← hNN] at HKL HSTR ⊢
      clear hStr hvo hrow hSp hnil hb5 hbr5 hNN
      go_wp2_with fail
      go_loopg [57] N (fun k' s57 wr => ∃ (i : Nat) (fs : List (List UInt8 × Nat)) (dd : Fs.Names) (V' : FsV) (own' : Nat → Tag), i ≤ N ∧ k' = N - i ∧ s57 = .int .i64 (i : Nat) ∧ FsOK w.heap.size (w.heap.size + 2) (Fs.midc st.room fs dd) V' own' wr ∧
        (∀ b, b < w5.heap.size → own' b = tags0 w.heap.size b) ∧ Kept (tags0 w.heap.size) (fun t => t = .root ∨ t = .files ∨ t = .dir) w5 wr ∧ fs.length = i ∧ dd.length ≤ i ∧ Fs.crashGo (Fs.cutOf st D tails) ((Fs.keys D).drop i) fs dd = Fs.crashGo (Fs.cutOf st D tails) (Fs.keys D) [] [])
      case atStart => exact ⟨0, [], [], V0, _, Nat.zero_le _, rfl, rfl, HC5.out, fun _ _ => rfl, Kept.refl _ _ _, rfl, Nat.le_refl _, rfl⟩
      case round =>
        obtain ⟨i, fs, dd, V', own', hi, hk', rfl, hok, hown, hkept, hfl, hdl, hgo⟩ := hrel
        have HK2 := Lib.hid hk'
        have HOK := Lib.hid hok
        have HOWN := Lib.hid hown
        have HKEPT := Lib.hid hkept
        have HGO := Lib.hid hgo
        have HFL := Lib.hid hfl
        have hfl2 : fs.length ≤ 600000 := by omega
        clear hk' hok hown hkept hgo hfl
        have hi0 : (0 : Int) ≤ (i : Int) := Int.natCast_nonneg _
        have hz6 := HKEPT.out.size
        have hotag : ∀ b, tags0 w.heap.size b = .other → ¬ ((fun t => t = Tag.root ∨ t = Tag.files ∨ t = Tag.dir) (tags0 w.heap.size b)) := fun b hb => by rw [hb]; simp
        have HBO : Hid (Below w.heap.size w wr) := Lib.hid (by
          have h1 : Below w.heap.size w5 wr := ⟨HKEPT.out.os, HKEPT.out.tape, HKEPT.out.output, hz6, fun b hb => HKEPT.out.block b (by omega) (hotag b (HC1.out.old b hb))⟩
          exact HB5.out.trans h1)
        have HO := Lib.hid (H.out.kept (kept_below HBO.out))
        by_cases hin : i < N
        · have hin1 : (i : Int) < (N : Int) := by omega
          obtain ⟨x, hx⟩ : ∃ x, (Fs.keys D)[i]? = some x := ⟨_, List.getElem?_eq_getElem (by rw [← HKL.out]; exact hin)⟩
          have hxs : (strsOf (Fs.keys D))[i]? = some ⟨x.toArray⟩ := by unfold strsOf; rw [List.getElem?_map, hx]; rfl
          obtain ⟨lb, lo, rfl, hlt, hcell⟩ : ∃ b off, la = some ⟨b, off, none⟩ ∧ b < w5.heap.size ∧ w5.cell? ⟨b, off + i, none⟩ = some (.string ⟨x.toArray⟩) := by
            obtain ⟨a', c', h1, h2⟩ := HSTR.out
            obtain ⟨b, off, e1, e2, e3⟩ := h2 i _ hxs
            simp only [Value.slice.injEq] at h1
            exact ⟨b, off, by rw [h1.1, e1], e2, e3⟩
          obtain ⟨s, hs, hsx⟩ : ∃ s : ByteArray, s = ⟨x.toArray⟩ ∧ s.data.toList = x := ⟨_, rfl, by simp⟩
          have hcr : wr.cell? ⟨lb, lo + i, none⟩ = some (.string s) := by
            rw [World.cell?_of_block (HKEPT.out.block lb hlt (hotag lb (HLO.out _ rfl))), hs]; exact hcell
          have hxd : Fs.mhas D x = true := Fs.keys_mem.1 (List.mem_of_getElem? hx)
          obtain ⟨p, hp, hp1, hp2⟩ := Fs.mget_mem hxd
          obtain ⟨⟨hq0, hqn⟩, hgood⟩ := HDG.out p hp
          have hss : s.size ≤ 20 := by
            have := Fs.good_len hgood
            rw [hs]; show x.toArray.size ≤ _; rw [← hp1]; simp; omega
          obtain ⟨q, hq⟩ : ∃ q : Nat, Fs.mget D x = (q : Int) := ⟨(Fs.mget D x).toNat, by rw [← hp2]; omega⟩
          have hqn2 : q < st.files.length := by have : p.2 = (q : Int) := hp2.trans hq; omega
          obtain ⟨f, hf⟩ : ∃ f, st.files[q]? = some f := ⟨_, List.getElem?_eq_getElem hqn2⟩
          obtain ⟨b, hb⟩ : ∃ b, V.fb[q]? = some b := ⟨_, List.getElem?_eq_getElem (by rw [HO.out.at_.nfb]; exact hqn2)⟩
          obtain ⟨d, hd⟩ : ∃ d, V.dv[q]? = some d := ⟨_, List.getElem?_eq_getElem (by rw [HO.out.at_.ndv]; exact hqn2)⟩
          have HFA := Lib.hid (HO.out.at_.file q f b d hf hb hd)
          obtain ⟨hf1, hf2⟩ := hS.full f (List.mem_of_getElem? hf)
          obtain ⟨fg, fc, hfv, hfgc⟩ : ∃ g cap, V.fv = .slice (some ⟨g, 0, none⟩) st.files.length cap ∧ wr.cell? ⟨g, q, none⟩ = some (.pointer (some ⟨b, 0, none⟩)) := by
            rcases HO.out.at_.files.2 with ⟨h1, h2⟩ | ⟨g, cap, cur, h1, _⟩
            · omega
            · exact ⟨g, cap, h1, by rw [← addr_add]; exact World.ownsRow.cells HO.out.at_.files (by rw [h1]; rfl) _ _ (ptr_cells _ _ _ hb)⟩
          have c4 : wr.cell? ⟨B, 4, none⟩ = some V.fv := root_cell HO.out.at_.root 4 _ rfl
          rw [hfv] at c4
          have HGET := Lib.hid (Fs.datum_get D s.data.toList)
          have HMW := Lib.hid (HM5.out.heap (HKEPT.out.block _ hz5 (hotag _ (HC1.out.fresh _ (Nat.le_refl _)))))
          have hkey := keyOf_string_mk Tryd.underlying9 (s := s) (show s.size ≤ maxLen by unfold maxLen; omega)
          have HQ : Hid (Fs.mget D s.data.toList = (q : Int)) := Lib.hid (by rw [hsx]; exact hq)
          have HCUT : Hid (Fs.cutOf st D tails s.data.toList = Fs.cut f tails[q]?) := by
            unfold Fs.cutOf; rw [HQ.out, Int.toNat_natCast, hf]; exact Lib.hid rfl
          have HDR : Hid (Fs.crashGo (Fs.cutOf st D tails) ((Fs.keys D).drop (i + 1)) (fs ++ [(Fs.cut f tails[q]?, (Fs.cut f tails[q]?).length)]) (Fs.mput dd s.data.toList fs.length) = Fs.crashGo (Fs.cutOf st D tails) (Fs.keys D) [] []) := by
            rw [← HGO.out]
            obtain ⟨h1, h2⟩ := List.getElem?_eq_some_iff.1 hx
            rw [List.drop_eq_getElem_cons h1, h2, Fs.crashGo, ← hsx, HCUT.out]
            exact Lib.hid rfl
          have hq0' : (0 : Int) ≤ (q : Int) := Int.natCast_nonneg _
          have hq1' : (q : Int) < (st.files.length : Int) := by omega
          clear hx hxs hcell hs hsx hxd hp hp1 hp2 hq0 hqn hgood hq hf hb hd hfv hlt
          obtain ⟨da, dc, hdv, hdcc⟩ : ∃ a c, d = .slice a f.1.length c ∧ f.1.length ≤ c := by
            rcases HFA.out.row.2 with ⟨h1, h2⟩ | ⟨g, cap, cur, h1, hg, hb, hc, hm, _, _⟩
            · exact ⟨none, 0, by rw [h1, h2], by omega⟩
            · exact ⟨_, cap, h1, by omega⟩
          subst hdv
          have b0 : wr.cell? ⟨b, 0, none⟩ = some (.slice da f.1.length dc) := root_cell HFA.out.blk 0 _ rfl
          have b1 : wr.cell? ⟨b, 1, none⟩ = some (.int .i64 f.2) := root_cell HFA.out.blk 1 _ rfl
          have hfl0 : (0 : Int) ≤ (f.1.length : Int) := Int.natCast_nonneg _
          have hfs0 : (0 : Int) ≤ (f.2 : Int) := Int.natCast_nonneg _
          by_cases hqt : q < tails.length
          · have hqt' : (q : Int) < (tails.length : Int) := by omega
            obtain ⟨z, hz⟩ : ∃ z, tails[q]? = some z := ⟨_, List.getElem?_eq_getElem hqt⟩
            obtain ⟨tb, tof, rfl, htb, htc⟩ := HN.out.at hz
            have t0 : wr.cell? ⟨tb, tof + q, none⟩ = some (.int .i64 z) := by rw [HBO.out.cell htb]; exact htc
            obtain ⟨M, hM⟩ : ∃ M : Nat, max 0 (min z ((f.1.length : Int) - f.2)) = (M : Int) := ⟨(max 0 (min z ((f.1.length : Int) - f.2))).toNat, by omega⟩
            have hMl : f.2 + M ≤ f.1.length := by omega
            have HCF : Hid (Fs.cut f tails[q]? = f.1.take (f.2 + M)) := by
              refine Lib.hid ?_; unfold Fs.cut; rw [hz]; simp only [hM, Int.toNat_natCast]
            have z0 := fun x => Later.cell b0 x
            have z1 := fun x => Later.cell b1 x
            have z2 := fun x => Later.cell t0 x
            clear hz htb htc
            go_wp2_with (first | (at_lookup; refine wpList_lookup_own_int _ rfl _ _ 35 rfl 9 3 .i64 strKeyed Tryd.underlying35 Tryd.underlying3 (zeroInt _) w1.heap.size _ _ rfl HMW.out _ _ rfl hkey ?_; intro c hat hwc; obtain rfl : c = (q : Int) := (by have := hat.symm.trans HGET.out; simp only [DataW.lit.injEq, Lit.int.injEq, true_and] at this; rw [this, HQ.out]); clear hat hwc) | fail)
            refine wp_region_later (by kernel_rfl) (by kernel_rfl) ?_
            repeat (go_big_quiet_step (fail))
            refine wpQuiet_nil ?_; rintro w6 ⟨⟨_, hb6⟩, rfl⟩
            have HBW := Lib.hid hb6
            have HBC : Hid (w6.cell? ⟨b, 0, none⟩ = some (.slice da f.1.length dc) ∧ w6.cell? ⟨b, 1, none⟩ = some (.int .i64 f.2)) := Lib.hid (And.intro (z0 ⟨w6, hb6⟩) (z1 ⟨w6, hb6⟩))
            clear z0 z1 z2 t0 hb6
            have HOKW := Lib.hid (HOK.out.kept (kept_below HBW.out))
            have hzW := HBW.out.size
            obtain ⟨C, hCe⟩ : ∃ C : Nat, C = f.2 + M := ⟨_, rfl⟩
            have hwr : IntKind.i64.wrap ((f.2 : Int) + (M : Int)) = (C : Int) := by rw [IntKind.wrap_i64]; omega
            have hC0 : (0 : Int) ≤ (C : Int) := Int.natCast_nonneg _
            have hC1 : (C : Int) ≤ (dc : Int) := by omega
            have hCM : M = 0 → IntKind.i64.wrap (f.2 : Int) = (C : Int) := fun h => by rw [IntKind.wrap_i64]; omega
            skip
            rw [← hCe] at HCF hMl
            have HSO := Lib.hid hS
            clear hCe
            go_wp2_with fail
            refine wp_region_phase (fun w' => w'.cell? ⟨b, 0, none⟩ = some (.slice da f.1.length dc) ∧ w'.cell? ⟨b, 1, none⟩ = some (.int .i64 f.2)) 12 (by kernel_rfl) ?_
            have hS : (w6).drew.cell? ⟨b, 0, none⟩ = some (.slice da f.1.length dc) ∧ (w6).drew.cell? ⟨b, 1, none⟩ = some (.int .i64 f.2) := HBC.out
            refine wpAnyB_take (i := 0) (v := (.pointer (some ⟨b, 0, none⟩))) (by kernel_rfl) (by decide) rfl (by kernel_rfl) (by kernel_rfl) (by kernel_rfl) (fun _ _ _ h => h) (Or.inl ⟨by rfl, fun w hSw => by go_simp⟩) hS ?_; simp only [Act.put, Array.getInternal_eq_getElem, List.getElem_toArray, List.getElem_cons_zero, List.getElem_cons_succ, List.setIfInBounds_toArray, List.set_cons_zero, List.set_cons_succ]
            refine wpAnyB_take (i := 1) (v := (.pointer (some ⟨b, 0, none⟩))) (by kernel_rfl) (by decide) rfl (by kernel_rfl) (by kernel_rfl) (by kernel_rfl) (fun _ _ _ h => h) (Or.inl ⟨by rfl, fun w hSw => by go_simp⟩) hS ?_; simp only [Act.put, Array.getInternal_eq_getElem, List.getElem_toArray, List.getElem_cons_zero, List.getElem_cons_succ, List.setIfInBounds_toArray, List.set_cons_zero, List.set_cons_succ]
            refine wpAnyB_take (i := 2) (v := (.pointer (some ⟨b, 0, none⟩))) (by kernel_rfl) (by decide) rfl (by kernel_rfl) (by kernel_rfl) (by kernel_rfl) (fun _ _ _ h => h) (Or.inl ⟨by rfl, fun w hSw => by go_simp⟩) hS ?_; simp only [Act.put, Array.getInternal_eq_getElem, List.getElem_toArray, List.getElem_cons_zero, List.getElem_cons_succ, List.setIfInBounds_toArray, List.set_cons_zero, List.set_cons_succ]
            refine wpAnyB_take (i := 3) (v := (.slice da f.1.length dc)) (by kernel_rfl) (by decide) rfl (by kernel_rfl) (by kernel_rfl) (by kernel_rfl) (fun _ _ _ h => h) (Or.inl ⟨by rfl, fun w hSw => by go_simp⟩) hS ?_; simp only [Act.put, Array.getInternal_eq_getElem, List.getElem_toArray, List.getElem_cons_zero, List.getElem_cons_succ, List.setIfInBounds_toArray, List.set_cons_zero, List.set_cons_succ]
            refine wpAnyB_take (i := 4) (v := (.pointer (some ⟨b, 0, none⟩))) (by kernel_rfl) (by decide) rfl (by kernel_rfl) (by kernel_rfl) (by kernel_rfl) (fun _ _ _ h => h) (Or.inl ⟨by rfl, fun w hSw => by go_simp⟩) hS ?_; simp only [Act.put, Array.getInternal_eq_getElem, List.getElem_toArray, List.getElem_cons_zero, List.getElem_cons_succ, List.setIfInBounds_toArray, List.set_cons_zero, List.set_cons_succ]
            refine wpAnyB_take (i := 5) (v := (.pointer (some ⟨b, 0, none⟩))) (by kernel_rfl) (by decide) rfl (by kernel_rfl) (by kernel_rfl) (by kernel_rfl) (fun _ _ _ h => h) (Or.inl ⟨by rfl, fun w hSw => by go_simp⟩) hS ?_; simp only [Act.put, Array.getInternal_eq_getElem, List.getElem_toArray, List.getElem_cons_zero, List.getElem_cons_succ, List.setIfInBounds_toArray, List.set_cons_zero, List.set_cons_succ]
            refine wpAnyB_take (i := 6) (v := (.pointer (some ⟨b, 1, none⟩))) (by kernel_rfl) (by decide) rfl (by kernel_rfl) (by kernel_rfl) (by kernel_rfl) (fun _ _ _ h => h) (Or.inl ⟨by rfl, fun w hSw => by go_simp⟩) hS ?_; simp only [Act.put, Array.getInternal_eq_getElem, List.getElem_toArray, List.getElem_cons_zero, List.getElem_cons_succ, List.setIfInBounds_toArray, List.set_cons_zero, List.set_cons_succ]
            refine wpAnyB_take (i := 7) (v := (.int .i64 f.2)) (by kernel_rfl) (by decide) rfl (by kernel_rfl) (by kernel_rfl) (by kernel_rfl) (fun _ _ _ h => h) (Or.inl ⟨by rfl, fun w hSw => by go_simp⟩) hS ?_; simp only [Act.put, Array.getInternal_eq_getElem, List.getElem_toArray, List.getElem_cons_zero, List.getElem_cons_succ, List.setIfInBounds_toArray, List.set_cons_zero, List.set_cons_succ]
            refine wpAnyB_take (i := 8) (v := (.int .i64 (M : Nat))) (by kernel_rfl) (by decide) rfl (by kernel_rfl) (by kernel_rfl) (by kernel_rfl) (fun _ _ _ h => h) (Or.inl ⟨by rfl, fun w hSw => by go_simp⟩) hS ?_; simp only [Act.put, Array.getInternal_eq_getElem, List.getElem_toArray, List.getElem_cons_zero, List.getElem_cons_succ, List.setIfInBounds_toArray, List.set_cons_zero, List.set_cons_succ]
            refine wpAnyB_take (i := 9) (v := (.int .i64 (C : Nat))) (by kernel_rfl) (by decide) rfl (by kernel_rfl) (by kernel_rfl) (by kernel_rfl) (fun _ _ _ h => h) (Or.inl ⟨by rfl, fun w hSw => by go_simp⟩) hS ?_; simp only [Act.put, Array.getInternal_eq_getElem, List.getElem_toArray, List.getElem_cons_zero, List.getElem_cons_succ, List.setIfInBounds_toArray, List.set_cons_zero, List.set_cons_succ]
            refine wpAnyB_take (i := 10) (v := (.slice da C dc)) (by kernel_rfl) (by decide) rfl (by kernel_rfl) (by kernel_rfl) (by kernel_rfl) (fun _ _ _ h => h) (Or.inl ⟨by rfl, fun w hSw => by go_simp⟩) hS ?_; simp only [Act.put, Array.getInternal_eq_getElem, List.getElem_toArray, List.getElem_cons_zero, List.getElem_cons_succ, List.setIfInBounds_toArray, List.set_cons_zero, List.set_cons_succ]
            refine wpAnyB_one (i := 11) (by kernel_rfl) ?_
            refine wpOp_intro (by decide) (fun K5 HK5 => ?_); simp only [List.drop_succ_cons, List.drop_zero, List.take_succ_cons, List.take_zero]
            go_wp2_with fail
            refine (cloneBpart base da _ dc C f.1 ((w6).drew) (row_kept (w' := (w6).drew) HFA.out.row (fun g hg => HBW.out.block g (row_block_lt HFA.out.row g hg).2)) rfl hMl (by omega)).mono ?_
            rintro e w7 ⟨dv, rfl, hdo, hb7⟩
            obtain ⟨va, vn, vc, hv, HVN⟩ := OwnB.form3 hdo
            subst hv
            have hS7 : w7.cell? ⟨b, 0, none⟩ = some (.slice da f.1.length dc) ∧ w7.cell? ⟨b, 1, none⟩ = some (.int .i64 f.2) := ⟨by rw [hb7.cell (cellLt hS.1)]; exact hS.1, by rw [hb7.cell (cellLt hS.1)]; exact hS.2⟩
            go_wp2_with fail
            refine HK5.out _ _ ⟨fun _ => hS7, ?_⟩
            clear HK5
            refine wpAnyB_one (i := 12) (by kernel_rfl) ?_
            refine wpOp_intro (by decide) (fun K6 HK6 => ?_); simp only [List.drop_succ_cons, List.drop_zero, List.take_succ_cons, List.take_zero]
            go_wp2_with fail
            refine HK6.out _ _ ⟨fun h => absurd h (by decide), ?_⟩
            clear HK6
            refine wpAnyB_done (by kernel_rfl) ?_ _
            have HDO := Lib.hid hdo
            have HBW7 : Hid (Below wr.heap.size wr w7) := Lib.hid (HBW.out.trans ((Below.drew (Below.refl _ _)).trans (hb7.mono (by show wr.heap.size ≤ (w6).heap.size; exact hzW))))
            have HOK7 := Lib.hid (HOK.out.kept (kept_below HBW7.out))
            obtain ⟨fa, fcap, hfv'⟩ : ∃ a c, V'.fv = .slice a fs.length c := row_any HOK7.out.at_.files
            have hz7 := HBW7.out.size
            have r4 : w7.cell? ⟨w.heap.size + 2, 4, none⟩ = some V'.fv := root_cell HOK7.out.at_.root 4 _ rfl
            have r5 : w7.cell? ⟨w.heap.size + 2, 5, none⟩ = some (.map (some V'.md)) := root_cell HOK7.out.at_.root 5 _ rfl
            rw [hfv'] at r4
            have HLT7 : Hid (∀ k, (Value.slice va vn vc).ownBlock = some k → (w6).heap.size ≤ k) := Lib.hid fun k hk => (row_block_lt hdo k hk).1
            clear hS7 hS hdo hb7 b0 b1
            go_wp2_with fail
            refine wp_region_phase (fun w' => w'.cell? ⟨w.heap.size + 2, 4, none⟩ = some (.slice fa fs.length fcap) ∧ w'.cell? ⟨w.heap.size + 2, 5, none⟩ = some (.map (some V'.md))) 11 (by kernel_rfl) ?_
            have hS : w7.drew.cell? ⟨w.heap.size + 2, 4, none⟩ = some (.slice fa fs.length fcap) ∧ w7.drew.cell? ⟨w.heap.size + 2, 5, none⟩ = some (.map (some V'.md)) := ⟨r4, r5⟩
            refine wpAnyB_take (i := 0) (v := (.pointer (some ⟨w.heap.size + 2, 0, none⟩))) (by kernel_rfl) (by decide) rfl (by kernel_rfl) (by kernel_rfl) (by kernel_rfl) (fun _ _ _ h => h) (Or.inl ⟨by rfl, fun w hSw => by go_simp⟩) hS ?_; simp only [Act.put, Array.getInternal_eq_getElem, List.getElem_toArray, List.getElem_cons_zero, List.getElem_cons_succ, List.setIfInBounds_toArray, List.set_cons_zero, List.set_cons_succ]
            refine wpAnyB_take (i := 1) (v := (.pointer (some ⟨w.heap.size + 2, 0, none⟩))) (by kernel_rfl) (by decide) rfl (by kernel_rfl) (by kernel_rfl) (by kernel_rfl) (fun _ _ _ h => h) (Or.inl ⟨by rfl, fun w hSw => by go_simp⟩) hS ?_; simp only [Act.put, Array.getInternal_eq_getElem, List.getElem_toArray, List.getElem_cons_zero, List.getElem_cons_succ, List.setIfInBounds_toArray, List.set_cons_zero, List.set_cons_succ]
            refine wpAnyB_take (i := 2) (v := (.pointer (some ⟨w.heap.size + 2, 5, none⟩))) (by kernel_rfl) (by decide) rfl (by kernel_rfl) (by kernel_rfl) (by kernel_rfl) (fun _ _ _ h => h) (Or.inl ⟨by rfl, fun w hSw => by go_simp⟩) hS ?_; simp only [Act.put, Array.getInternal_eq_getElem, List.getElem_toArray, List.getElem_cons_zero, List.getElem_cons_succ, List.setIfInBounds_toArray, List.set_cons_zero, List.set_cons_succ]
            refine wpAnyB_take (i := 3) (v := (.map (some V'.md))) (by kernel_rfl) (by decide) rfl (by kernel_rfl) (by kernel_rfl) (by kernel_rfl) (fun _ _ _ h => h) (Or.inl ⟨by rfl, fun w hSw => by go_simp⟩) hS ?_; simp only [Act.put, Array.getInternal_eq_getElem, List.getElem_toArray, List.getElem_cons_zero, List.getElem_cons_succ, List.setIfInBounds_toArray, List.set_cons_zero, List.set_cons_succ]
            refine wpAnyB_take (i := 4) (v := (.string s)) (by kernel_rfl) (by decide) rfl (by kernel_rfl) (by kernel_rfl) (by kernel_rfl) (fun _ _ _ h => h) (Or.inl ⟨by rfl, fun w hSw => by go_simp⟩) hS ?_; simp only [Act.put, Array.getInternal_eq_getElem, List.getElem_toArray, List.getElem_cons_zero, List.getElem_cons_succ, List.setIfInBounds_toArray, List.set_cons_zero, List.set_cons_succ]
            refine wpAnyB_take (i := 5) (v := (.pointer (some ⟨w.heap.size + 2, 0, none⟩))) (by kernel_rfl) (by decide) rfl (by kernel_rfl) (by kernel_rfl) (by kernel_rfl) (fun _ _ _ h => h) (Or.inl ⟨by rfl, fun w hSw => by go_simp⟩) hS ?_; simp only [Act.put, Array.getInternal_eq_getElem, List.getElem_toArray, List.getElem_cons_zero, List.getElem_cons_succ, List.setIfInBounds_toArray, List.set_cons_zero, List.set_cons_succ]
            refine wpAnyB_take (i := 6) (v := (.pointer (some ⟨w.heap.size + 2, 0, none⟩))) (by kernel_rfl) (by decide) rfl (by kernel_rfl) (by kernel_rfl) (by kernel_rfl) (fun _ _ _ h => h) (Or.inl ⟨by rfl, fun w hSw => by go_simp⟩) hS ?_; simp only [Act.put, Array.getInternal_eq_getElem, List.getElem_toArray, List.getElem_cons_zero, List.getElem_cons_succ, List.setIfInBounds_toArray, List.set_cons_zero, List.set_cons_succ]
            refine wpAnyB_take (i := 7) (v := (.pointer (some ⟨w.heap.size + 2, 4, none⟩))) (by kernel_rfl) (by decide) rfl (by kernel_rfl) (by kernel_rfl) (by kernel_rfl) (fun _ _ _ h => h) (Or.inl ⟨by rfl, fun w hSw => by go_simp⟩) hS ?_; simp only [Act.put, Array.getInternal_eq_getElem, List.getElem_toArray, List.getElem_cons_zero, List.getElem_cons_succ, List.setIfInBounds_toArray, List.set_cons_zero, List.set_cons_succ]
            refine wpAnyB_take (i := 8) (v := (.slice fa fs.length fcap)) (by kernel_rfl) (by decide) rfl (by kernel_rfl) (by kernel_rfl) (by kernel_rfl) (fun _ _ _ h => h) (Or.inl ⟨by rfl, fun w hSw => by go_simp⟩) hS ?_; simp only [Act.put, Array.getInternal_eq_getElem, List.getElem_toArray, List.getElem_cons_zero, List.getElem_cons_succ, List.setIfInBounds_toArray, List.set_cons_zero, List.set_cons_succ]
            refine wpAnyB_take (i := 9) (v := (.int .i64 (fs.length : Nat))) (by kernel_rfl) (by decide) rfl (by kernel_rfl) (by kernel_rfl) (by kernel_rfl) (fun _ _ _ h => h) (Or.inl ⟨by rfl, fun w hSw => by go_simp⟩) hS ?_; simp only [Act.put, Array.getInternal_eq_getElem, List.getElem_toArray, List.getElem_cons_zero, List.getElem_cons_succ, List.setIfInBounds_toArray, List.set_cons_zero, List.set_cons_succ]
            have HW : Hid ((Lit.int .i64 (fs.length : Nat)).wf = true) := by
              refine Lib.hid ?_
              have e1 : IntKind.i64.min = -9223372036854775808 := by decide
              have e2 : IntKind.i64.max = 9223372036854775807 := by decide
              simp [Lit.wf, e1, e2]
              omega
            have HMM : Hid (MapOf w7.drew V'.md dd) := Lib.hid (HOK7.out.at_.dir)
            refine wpAnyB_one (i := 10) (by kernel_rfl) ?_
            refine wpOp_intro (by decide) (fun K7 HK7 => ?_); simp only [List.drop_succ_cons, List.drop_zero, List.take_succ_cons, List.take_zero]
            go_wp2_with (first | (at_mapUpdate; refine wpList_mapUpdate_own _ rfl _ _ _ 35 rfl 9 3 strKeyed Tryd.underlying35 _ V'.md _ _ rfl HMM.out (by unfold maxLen; omega) _ _ _ rfl rfl hkey _ [] (plainElem_int Tryd.underlying3 HW.out) ?_; intro w8 hown8 hgrow8) | fail)
            have hBlt := heap_lt HOK7.out.at_.root
            have hBne : w.heap.size + 2 ≠ V'.md := fun e => by have h1 := HOK7.out.at_.tdir; rw [← e, HOK7.out.at_.tB] at h1; cases h1
            have hB8 : w8.heap[w.heap.size + 2]? = some (.cells (FsCells (Fs.midc st.room fs dd) V') 38 (0, 0)) := by
              rw [hgrow8.block _ hBlt (fun e => hBne (Option.some.inj e))]; exact HOK7.out.at_.root
            have HM8 : Hid (MapOf w8 V'.md (Fs.mput dd s.data.toList fs.length)) := by
              rw [Fs.datum_put] at hown8
              exact Lib.hid (MapOf.of hown8)
            have HK78 : Hid (Kept own' (· = .dir) w7 w8) := Lib.hid (((Kept.refl _ _ _).drewN 1).grown hgrow8 (fun k e => .inl (by rw [← Option.some.inj e]; exact HOK7.out.at_.tdir)))
            have HROW8 : Hid (w8.ownsRow w.heap.size 71 1 (.slice fa fs.length fcap) fs.length (V'.fb.map fun b => .pointer (some ⟨b, 0, none⟩))) := by
              rw [← hfv']
              exact Lib.hid (row_kept HOK7.out.at_.files (fun g hg => HK78.out.block g (row_block_lt HOK7.out.at_.files g hg).2 (by rw [HOK7.out.at_.tfiles g hg]; simp)))
            have hz8 := HK78.out.size
            have r48 : w8.cell? ⟨w.heap.size + 2, 4, none⟩ = some V'.fv := root_cell hB8 4 _ rfl
            rw [hfv'] at r48
            refine HK7.out _ _ ⟨fun _ => ⟨r48, root_cell hB8 5 _ rfl⟩, ?_⟩
            clear HK7 hown8 hgrow8 hS r4 r5
            refine wpAnyB_done (by kernel_rfl) ?_ _
            obtain ⟨i0, hii, hz0, hzz1, hzz2⟩ := info_parts infoFP
            have HB9 : ∀ w9, ((w8.alloc (.cells #[.slice va vn vc, .int .i64 (vn : Nat)] 73)).alloc (.cells #[.pointer (some ⟨w8.heap.size, 0, none⟩)] 71)).grownBy w9 (Value.slice fa fs.length fcap).ownBlock → w9.cell? ⟨w.heap.size + 2, 4, none⟩ = some (.slice fa fs.length fcap) ∧ w9.frozen? ⟨w.heap.size + 2, 4, none⟩ = false := fun w9 hgrow9 => by
              have hb9 : w9.heap[w.heap.size + 2]? = some (.cells (FsCells (Fs.midc st.room fs dd) V') 38 (0, 0)) := by
                rw [hgrow9.block _ (by simp; omega) (fun e => by
                  have h1 := HOK7.out.at_.tfiles _ (by rw [hfv']; exact e.symm)
                  rw [HOK7.out.at_.tB] at h1
                  cases h1), Lib.alloc_old _ _ _ (by simp; omega), Lib.alloc_old _ _ _ (by omega)]
                exact hB8
              exact ⟨by rw [← hfv']; exact root_cell hb9 4 _ rfl, root_frozen hb9 4⟩
            have HCN : Hid (∀ j u, [(.pointer (some ⟨w8.heap.size, 0, none⟩) : Value)][j]? = some u → ((w8.alloc (.cells #[.slice va vn vc, .int .i64 (vn : Nat)] 73)).alloc (.cells #[.pointer (some ⟨w8.heap.size, 0, none⟩)] 71)).cell? ((⟨w8.heap.size + 1, 0, none⟩ : Addr).add j) = some u) := by
              have h9 := cell_one_new (w8.alloc (.cells #[.slice va vn vc, .int .i64 (vn : Nat)] 73)) (.pointer (some ⟨w8.heap.size, 0, none⟩)) 71
              rw [show (w8.alloc (.cells #[.slice va vn vc, .int .i64 (vn : Nat)] 73)).heap.size = w8.heap.size + 1 by simp] at h9
              exact Lib.hid h9
            have HFV := Lib.hid hfv'
            clear hfv' hB8
            go_wp2_with (first | (at_builtin; refine wpList_append_own_at _ rfl _ _ 34 rfl w.heap.size 71 i0 (.pointer none) 1 8 Tryd.underlying34 hii hz0 hzz1 hzz2 rfl (by decide) (.slice fa fs.length fcap) fs.length (V'.fb.map fun b => .pointer (some ⟨b, 0, none⟩)) rfl (World.ownsRow.alloc (World.ownsRow.alloc HROW8.out _) _) ⟨w8.heap.size + 1, 0, none⟩ 1 1 [.pointer (some ⟨w8.heap.size, 0, none⟩)] rfl rfl HCN.out (fun u hu => by simp at hu; subst hu; rfl) (by unfold maxLen; omega) (by omega) (by simp; omega) ?_; intro fv' w9 hown9 hgrow9 hnil9 hloc9; clear hnil9; obtain ⟨x4', y4'⟩ := HB9 _ hgrow9; obtain ⟨ga, ca, rfl⟩ := row_form hown9 (by omega); have HLOC := Lib.hid hloc9; have HROW9 := Lib.hid hown9; have HGROW9 := Lib.hid hgrow9; clear hloc9 hown9 hgrow9) | fail)
            have hvn := HVN.out
            subst hvn
            obtain ⟨own2, hok2, ho2, hk2⟩ := FsOK.plant (l := f.1.take C) (n := s.data.toList) HOK7.out HK78.out HM8.out (HDO.out.mono (by show w.heap.size ≤ (w6).heap.size; omega)) (fun k hk => HOK.out.fresh k (Nat.le_trans hzW (HLT7.out k hk))) HROW9.out (by rw [HFV.out]; exact HGROW9.out) (by rw [HFV.out]; exact HLOC.out) (by omega)
            go_roundg (N - (i + 1))
            case measure => rw [HK2.out]; omega
            case rel =>
              refine ⟨i + 1, fs ++ [(f.1.take C, (f.1.take C).length)], Fs.mput dd s.data.toList fs.length, _, own2, by omega, rfl, by simp, hok2, fun b hb => ?_, ?_, by rw [List.length_append, HFL.out]; rfl, ?_, by rw [← HCF.out]; exact HDR.out⟩
              · rw [ho2 b (by omega) (fun e => by have := HLT7.out b e; omega)]
                exact HOWN.out b hb
              · refine ⟨hk2.os.trans (HBW7.out.os.trans HKEPT.out.os), hk2.tape.trans (HBW7.out.tape.trans HKEPT.out.tape), hk2.output.trans (HBW7.out.output.trans HKEPT.out.output), by have := hk2.size; omega, fun b hb ht => ?_⟩
                rw [hk2.block b (by omega) (by rw [HOWN.out b hb]; exact ht), HBW7.out.block b (by omega)]
                exact HKEPT.out.block b hb ht
              · rw [Fs.mput_len2]
                have := Fs.mdel_len dd s.data.toList
                omega
          · have hqt' : (tails.length : Int) ≤ (q : Int) := by omega
            obtain ⟨M, hM⟩ : ∃ M : Nat, M = 0 := ⟨0, rfl⟩
            have hMl : f.2 + M ≤ f.1.length := by omega
            have HCF : Hid (Fs.cut f tails[q]? = f.1.take (f.2 + M)) := by
              unfold Fs.cut; rw [List.getElem?_eq_none (by omega), hM]; exact Lib.hid rfl
            go_wp2_with (first | (at_lookup; refine wpList_lookup_own_int _ rfl _ _ 35 rfl 9 3 .i64 strKeyed Tryd.underlying35 Tryd.underlying3 (zeroInt _) w1.heap.size _ _ rfl HMW.out _ _ rfl hkey ?_; intro c hat hwc; obtain rfl : c = (q : Int) := (by have := hat.symm.trans HGET.out; simp only [DataW.lit.injEq, Lit.int.injEq, true_and] at this; rw [this, HQ.out]); clear hat hwc) | fail)
            have HBW : Hid (Below wr.heap.size wr wr) := Lib.hid (Below.refl _ _)
            have HBC : Hid (wr.cell? ⟨b, 0, none⟩ = some (.slice da f.1.length dc) ∧ wr.cell? ⟨b, 1, none⟩ = some (.int .i64 f.2)) := Lib.hid (And.intro b0 b1)
            have HOKW := Lib.hid (HOK.out.kept (kept_below HBW.out))
            have hzW := HBW.out.size
            obtain ⟨C, hCe⟩ : ∃ C : Nat, C = f.2 + M := ⟨_, rfl⟩
            have hwr : IntKind.i64.wrap ((f.2 : Int) + (M : Int)) = (C : Int) := by rw [IntKind.wrap_i64]; omega
            have hC0 : (0 : Int) ≤ (C : Int) := Int.natCast_nonneg _
            have hC1 : (C : Int) ≤ (dc : Int) := by omega
            have hCM : M = 0 → IntKind.i64.wrap (f.2 : Int) = (C : Int) := fun h => by rw [IntKind.wrap_i64]; omega
            have hwr2 := hCM hM
            rw [← hCe] at HCF hMl
            have HSO := Lib.hid hS
            clear hCe
            go_wp2_with fail
            refine wp_region_phase (fun w' => w'.cell? ⟨b, 0, none⟩ = some (.slice da f.1.length dc) ∧ w'.cell? ⟨b, 1, none⟩ = some (.int .i64 f.2)) 12 (by kernel_rfl) ?_
            have hS : (wr).drew.cell? ⟨b, 0, none⟩ = some (.slice da f.1.length dc) ∧ (wr).drew.cell? ⟨b, 1, none⟩ = some (.int .i64 f.2) := HBC.out
            refine wpAnyB_take (i := 0) (v := (.pointer (some ⟨b, 0, none⟩))) (by kernel_rfl) (by decide) rfl (by kernel_rfl) (by kernel_rfl) (by kernel_rfl) (fun _ _ _ h => h) (Or.inl ⟨by rfl, fun w hSw => by go_simp⟩) hS ?_; simp only [Act.put, Array.getInternal_eq_getElem, List.getElem_toArray, List.getElem_cons_zero, List.getElem_cons_succ, List.setIfInBounds_toArray, List.set_cons_zero, List.set_cons_succ]
            refine wpAnyB_take (i := 1) (v := (.pointer (some ⟨b, 0, none⟩))) (by kernel_rfl) (by decide) rfl (by kernel_rfl) (by kernel_rfl) (by kernel_rfl) (fun _ _ _ h => h) (Or.inl ⟨by rfl, fun w hSw => by go_simp⟩) hS ?_; simp only [Act.put, Array.getInternal_eq_getElem, List.getElem_toArray, List.getElem_cons_zero, List.getElem_cons_succ, List.setIfInBounds_toArray, List.set_cons_zero, List.set_cons_succ]
            refine wpAnyB_take (i := 2) (v := (.pointer (some ⟨b, 0, none⟩))) (by kernel_rfl) (by decide) rfl (by kernel_rfl) (by kernel_rfl) (by kernel_rfl) (fun _ _ _ h => h) (Or.inl ⟨by rfl, fun w hSw => by go_simp⟩) hS ?_; simp only [Act.put, Array.getInternal_eq_getElem, List.getElem_toArray, List.getElem_cons_zero, List.getElem_cons_succ, List.setIfInBounds_toArray, List.set_cons_zero, List.set_cons_succ]
            refine wpAnyB_take (i := 3) (v := (.slice da f.1.length dc)) (by kernel_rfl) (by decide) rfl (by kernel_rfl) (by kernel_rfl) (by kernel_rfl) (fun _ _ _ h => h) (Or.inl ⟨by rfl, fun w hSw => by go_simp⟩) hS ?_; simp only [Act.put, Array.getInternal_eq_getElem, List.getElem_toArray, List.getElem_cons_zero, List.getElem_cons_succ, List.setIfInBounds_toArray, List.set_cons_zero, List.set_cons_succ]
            refine wpAnyB_take (i := 4) (v := (.pointer (some ⟨b, 0, none⟩))) (by kernel_rfl) (by decide) rfl (by kernel_rfl) (by kernel_rfl) (by kernel_rfl) (fun _ _ _ h => h) (Or.inl ⟨by rfl, fun w hSw => by go_simp⟩) hS ?_; simp only [Act.put, Array.getInternal_eq_getElem, List.getElem_toArray, List.getElem_cons_zero, List.getElem_cons_succ, List.setIfInBounds_toArray, List.set_cons_zero, List.set_cons_succ]
            refine wpAnyB_take (i := 5) (v := (.pointer (some ⟨b, 0, none⟩))) (by kernel_rfl) (by decide) rfl (by kernel_rfl) (by kernel_rfl) (by kernel_rfl) (fun _ _ _ h => h) (Or.inl ⟨by rfl, fun w hSw => by go_simp⟩) hS ?_; simp only [Act.put, Array.getInternal_eq_getElem, List.getElem_toArray, List.getElem_cons_zero, List.getElem_cons_succ, List.setIfInBounds_toArray, List.set_cons_zero, List.set_cons_succ]
            refine wpAnyB_take (i := 6) (v := (.pointer (some ⟨b, 1, none⟩))) (by kernel_rfl) (by decide) rfl (by kernel_rfl) (by kernel_rfl) (by kernel_rfl) (fun _ _ _ h => h) (Or.inl ⟨by rfl, fun w hSw => by go_simp⟩) hS ?_; simp only [Act.put, Array.getInternal_eq_getElem, List.getElem_toArray, List.getElem_cons_zero, List.getElem_cons_succ, List.setIfInBounds_toArray, List.set_cons_zero, List.set_cons_succ]
            refine wpAnyB_take (i := 7) (v := (.int .i64 f.2)) (by kernel_rfl) (by decide) rfl (by kernel_rfl) (by kernel_rfl) (by kernel_rfl) (fun _ _ _ h => h) (Or.inl ⟨by rfl, fun w hSw => by go_simp⟩) hS ?_; simp only [Act.put, Array.getInternal_eq_getElem, List.getElem_toArray, List.getElem_cons_zero, List.getElem_cons_succ, List.setIfInBounds_toArray, List.set_cons_zero, List.set_cons_succ]
            refine wpAnyB_take (i := 8) (v := (.int .i64 (M : Nat))) (by kernel_rfl) (by decide) rfl (by kernel_rfl) (by kernel_rfl) (by kernel_rfl) (fun _ _ _ h => h) (Or.inl ⟨by rfl, fun w hSw => by go_simp⟩) hS ?_; simp only [Act.put, Array.getInternal_eq_getElem, List.getElem_toArray, List.getElem_cons_zero, List.getElem_cons_succ, List.setIfInBounds_toArray, List.set_cons_zero, List.set_cons_succ]
            refine wpAnyB_take (i := 9) (v := (.int .i64 (C : Nat))) (by kernel_rfl) (by decide) rfl (by kernel_rfl) (by kernel_rfl) (by kernel_rfl) (fun _ _ _ h => h) (Or.inl ⟨by rfl, fun w hSw => by go_simp⟩) hS ?_; simp only [Act.put, Array.getInternal_eq_getElem, List.getElem_toArray, List.getElem_cons_zero, List.getElem_cons_succ, List.setIfInBounds_toArray, List.set_cons_zero, List.set_cons_succ]
            refine wpAnyB_take (i := 10) (v := (.slice da C dc)) (by kernel_rfl) (by decide) rfl (by kernel_rfl) (by kernel_rfl) (by kernel_rfl) (fun _ _ _ h => h) (Or.inl ⟨by rfl, fun w hSw => by go_simp⟩) hS ?_; simp only [Act.put, Array.getInternal_eq_getElem, List.getElem_toArray, List.getElem_cons_zero, List.getElem_cons_succ, List.setIfInBounds_toArray, List.set_cons_zero, List.set_cons_succ]
            refine wpAnyB_one (i := 11) (by kernel_rfl) ?_
            refine wpOp_intro (by decide) (fun K5 HK5 => ?_); simp only [List.drop_succ_cons, List.drop_zero, List.take_succ_cons, List.take_zero]
            go_wp2_with fail
            refine (cloneBpart base da _ dc C f.1 ((wr).drew) (row_kept (w' := (wr).drew) HFA.out.row (fun g hg => HBW.out.block g (row_block_lt HFA.out.row g hg).2)) rfl hMl (by omega)).mono ?_
            rintro e w7 ⟨dv, rfl, hdo, hb7⟩
            obtain ⟨va, vn, vc, hv, HVN⟩ := OwnB.form3 hdo
            subst hv
            have hS7 : w7.cell? ⟨b, 0, none⟩ = some (.slice da f.1.length dc) ∧ w7.cell? ⟨b, 1, none⟩ = some (.int .i64 f.2) := ⟨by rw [hb7.cell (cellLt hS.1)]; exact hS.1, by rw [hb7.cell (cellLt hS.1)]; exact hS.2⟩
            go_wp2_with fail
            refine HK5.out _ _ ⟨fun _ => hS7, ?_⟩
            clear HK5
            refine wpAnyB_one (i := 12) (by kernel_rfl) ?_
            refine wpOp_intro (by decide) (fun K6 HK6 => ?_); simp only [List.drop_succ_cons, List.drop_zero, List.take_succ_cons, List.take_zero]
            go_wp2_with fail
            refine HK6.out _ _ ⟨fun h => absurd h (by decide), ?_⟩
            clear HK6
            refine wpAnyB_done (by kernel_rfl) ?_ _
            have HDO := Lib.hid hdo
            have HBW7 : Hid (Below wr.heap.size wr w7) := Lib.hid (HBW.out.trans ((Below.drew (Below.refl _ _)).trans (hb7.mono (by show wr.heap.size ≤ (wr).heap.size; exact hzW))))
            have HOK7 := Lib.hid (HOK.out.kept (kept_below HBW7.out))
            obtain ⟨fa, fcap, hfv'⟩ : ∃ a c, V'.fv = .slice a fs.length c := row_any HOK7.out.at_.files
            have hz7 := HBW7.out.size
            have r4 : w7.cell? ⟨w.heap.size + 2, 4, none⟩ = some V'.fv := root_cell HOK7.out.at_.root 4 _ rfl
            have r5 : w7.cell? ⟨w.heap.size + 2, 5, none⟩ = some (.map (some V'.md)) := root_cell HOK7.out.at_.root 5 _ rfl
            rw [hfv'] at r4
            have HLT7 : Hid (∀ k, (Value.slice va vn vc).ownBlock = some k → (wr).heap.size ≤ k) := Lib.hid fun k hk => (row_block_lt hdo k hk).1
            clear hS7 hS hdo hb7 b0 b1
            go_wp2_with fail
            refine wp_region_phase (fun w' => w'.cell? ⟨w.heap.size + 2, 4, none⟩ = some (.slice fa fs.length fcap) ∧ w'.cell? ⟨w.heap.size + 2, 5, none⟩ = some (.map (some V'.md))) 11 (by kernel_rfl) ?_
            have hS : w7.drew.cell? ⟨w.heap.size + 2, 4, none⟩ = some (.slice fa fs.length fcap) ∧ w7.drew.cell? ⟨w.heap.size + 2, 5, none⟩ = some (.map (some V'.md)) := ⟨r4, r5⟩
            refine wpAnyB_take (i := 0) (v := (.pointer (some ⟨w.heap.size + 2, 0, none⟩))) (by kernel_rfl) (by decide) rfl (by kernel_rfl) (by kernel_rfl) (by kernel_rfl) (fun _ _ _ h => h) (Or.inl ⟨by rfl, fun w hSw => by go_simp⟩) hS ?_; simp only [Act.put, Array.getInternal_eq_getElem, List.getElem_toArray, List.getElem_cons_zero, List.getElem_cons_succ, List.setIfInBounds_toArray, List.set_cons_zero, List.set_cons_succ]
            refine wpAnyB_take (i := 1) (v := (.pointer (some ⟨w.heap.size + 2, 0, none⟩))) (by kernel_rfl) (by decide) rfl (by kernel_rfl) (by kernel_rfl) (by kernel_rfl) (fun _ _ _ h => h) (Or.inl ⟨by rfl, fun w hSw => by go_simp⟩) hS ?_; simp only [Act.put, Array.getInternal_eq_getElem, List.getElem_toArray, List.getElem_cons_zero, List.getElem_cons_succ, List.setIfInBounds_toArray, List.set_cons_zero, List.set_cons_succ]
            refine wpAnyB_take (i := 2) (v := (.pointer (some ⟨w.heap.size + 2, 5, none⟩))) (by kernel_rfl) (by decide) rfl (by kernel_rfl) (by kernel_rfl) (by kernel_rfl) (fun _ _ _ h => h) (Or.inl ⟨by rfl, fun w hSw => by go_simp⟩) hS ?_; simp only [Act.put, Array.getInternal_eq_getElem, List.getElem_toArray, List.getElem_cons_zero, List.getElem_cons_succ, List.setIfInBounds_toArray, List.set_cons_zero, List.set_cons_succ]
            refine wpAnyB_take (i := 3) (v := (.map (some V'.md))) (by kernel_rfl) (by decide) rfl (by kernel_rfl) (by kernel_rfl) (by kernel_rfl) (fun _ _ _ h => h) (Or.inl ⟨by rfl, fun w hSw => by go_simp⟩) hS ?_; simp only [Act.put, Array.getInternal_eq_getElem, List.getElem_toArray, List.getElem_cons_zero, List.getElem_cons_succ, List.setIfInBounds_toArray, List.set_cons_zero, List.set_cons_succ]
            refine wpAnyB_take (i := 4) (v := (.string s)) (by kernel_rfl) (by decide) rfl (by kernel_rfl) (by kernel_rfl) (by kernel_rfl) (fun _ _ _ h => h) (Or.inl ⟨by rfl, fun w hSw => by go_simp⟩) hS ?_; simp only [Act.put, Array.getInternal_eq_getElem, List.getElem_toArray, List.getElem_cons_zero, List.getElem_cons_succ, List.setIfInBounds_toArray, List.set_cons_zero, List.set_cons_succ]
            refine wpAnyB_take (i := 5) (v := (.pointer (some ⟨w.heap.size + 2, 0, none⟩))) (by kernel_rfl) (by decide) rfl (by kernel_rfl) (by kernel_rfl) (by kernel_rfl) (fun _ _ _ h => h) (Or.inl ⟨by rfl, fun w hSw => by go_simp⟩) hS ?_; simp only [Act.put, Array.getInternal_eq_getElem, List.getElem_toArray, List.getElem_cons_zero, List.getElem_cons_succ, List.setIfInBounds_toArray, List.set_cons_zero, List.set_cons_succ]
            refine wpAnyB_take (i := 6) (v := (.pointer (some ⟨w.heap.size + 2, 0, none⟩))) (by kernel_rfl) (by decide) rfl (by kernel_rfl) (by kernel_rfl) (by kernel_rfl) (fun _ _ _ h => h) (Or.inl ⟨by rfl, fun w hSw => by go_simp⟩) hS ?_; simp only [Act.put, Array.getInternal_eq_getElem, List.getElem_toArray, List.getElem_cons_zero, List.getElem_cons_succ, List.setIfInBounds_toArray, List.set_cons_zero, List.set_cons_succ]
            refine wpAnyB_take (i := 7) (v := (.pointer (some ⟨w.heap.size + 2, 4, none⟩))) (by kernel_rfl) (by decide) rfl (by kernel_rfl) (by kernel_rfl) (by kernel_rfl) (fun _ _ _ h => h) (Or.inl ⟨by rfl, fun w hSw => by go_simp⟩) hS ?_; simp only [Act.put, Array.getInternal_eq_getElem, List.getElem_toArray, List.getElem_cons_zero, List.getElem_cons_succ, List.setIfInBounds_toArray, List.set_cons_zero, List.set_cons_succ]
            refine wpAnyB_take (i := 8) (v := (.slice fa fs.length fcap)) (by kernel_rfl) (by decide) rfl (by kernel_rfl) (by kernel_rfl) (by kernel_rfl) (fun _ _ _ h => h) (Or.inl ⟨by rfl, fun w hSw => by go_simp⟩) hS ?_; simp only [Act.put, Array.getInternal_eq_getElem, List.getElem_toArray, List.getElem_cons_zero, List.getElem_cons_succ, List.setIfInBounds_toArray, List.set_cons_zero, List.set_cons_succ]
            refine wpAnyB_take (i := 9) (v := (.int .i64 (fs.length : Nat))) (by kernel_rfl) (by decide) rfl (by kernel_rfl) (by kernel_rfl) (by kernel_rfl) (fun _ _ _ h => h) (Or.inl ⟨by rfl, fun w hSw => by go_simp⟩) hS ?_; simp only [Act.put, Array.getInternal_eq_getElem, List.getElem_toArray, List.getElem_cons_zero, List.getElem_cons_succ, List.setIfInBounds_toArray, List.set_cons_zero, List.set_cons_succ]
            have HW : Hid ((Lit.int .i64 (fs.length : Nat)).wf = true) := by
              refine Lib.hid ?_
              have e1 : IntKind.i64.min = -9223372036854775808 := by decide
              have e2 : IntKind.i64.max = 9223372036854775807 := by decide
              simp [Lit.wf, e1, e2]
              omega
            have HMM : Hid (MapOf w7.drew V'.md dd) := Lib.hid (HOK7.out.at_.dir)
            refine wpAnyB_one (i := 10) (by kernel_rfl) ?_
            refine wpOp_intro (by decide) (fun K7 HK7 => ?_); simp only [List.drop_succ_cons, List.drop_zero, List.take_succ_cons, List.take_zero]
            go_wp2_with (first | (at_mapUpdate; refine wpList_mapUpdate_own _ rfl _ _ _ 35 rfl 9 3 strKeyed Tryd.underlying35 _ V'.md _ _ rfl HMM.out (by unfold maxLen; omega) _ _ _ rfl rfl hkey _ [] (plainElem_int Tryd.underlying3 HW.out) ?_; intro w8 hown8 hgrow8) | fail)
            have hBlt := heap_lt HOK7.out.at_.root
            have hBne : w.heap.size + 2 ≠ V'.md := fun e => by have h1 := HOK7.out.at_.tdir; rw [← e, HOK7.out.at_.tB] at h1; cases h1
            have hB8 : w8.heap[w.heap.size + 2]? = some (.cells (FsCells (Fs.midc st.room fs dd) V') 38 (0, 0)) := by
              rw [hgrow8.block _ hBlt (fun e => hBne (Option.some.inj e))]; exact HOK7.out.at_.root
            have HM8 : Hid (MapOf w8 V'.md (Fs.mput dd s.data.toList fs.length)) := by
              rw [Fs.datum_put] at hown8
              exact Lib.hid (MapOf.of hown8)
            have HK78 : Hid (Kept own' (· = .dir) w7 w8) := Lib.hid (((Kept.refl _ _ _).drewN 1).grown hgrow8 (fun k e => .inl (by rw [← Option.some.inj e]; exact HOK7.out.at_.tdir)))
            have HROW8 : Hid (w8.ownsRow w.heap.size 71 1 (.slice fa fs.length fcap) fs.length (V'.fb.map fun b => .pointer (some ⟨b, 0, none⟩))) := by
              rw [← hfv']
              exact Lib.hid (row_kept HOK7.out.at_.files (fun g hg => HK78.out.block g (row_block_lt HOK7.out.at_.files g hg).2 (by rw [HOK7.out.at_.tfiles g hg]; simp)))
            have hz8 := HK78.out.size
            have r48 : w8.cell? ⟨w.heap.size + 2, 4, none⟩ = some V'.fv := root_cell hB8 4 _ rfl
            rw [hfv'] at r48
            refine HK7.out _ _ ⟨fun _ => ⟨r48, root_cell hB8 5 _ rfl⟩, ?_⟩
            clear HK7 hown8 hgrow8 hS r4 r5
            refine wpAnyB_done (by kernel_rfl) ?_ _
            obtain ⟨i0, hii, hz0, hzz1, hzz2⟩ := info_parts infoFP
            have HB9 : ∀ w9, ((w8.alloc (.cells #[.slice va vn vc, .int .i64 (vn : Nat)] 73)).alloc (.cells #[.pointer (some ⟨w8.heap.size, 0, none⟩)] 71)).grownBy w9 (Value.slice fa fs.length fcap).ownBlock → w9.cell? ⟨w.heap.size + 2, 4, none⟩ = some (.slice fa fs.length fcap) ∧ w9.frozen? ⟨w.heap.size + 2, 4, none⟩ = false := fun w9 hgrow9 => by
              have hb9 : w9.heap[w.heap.size + 2]? = some (.cells (FsCells (Fs.midc st.room fs dd) V') 38 (0, 0)) := by
                rw [hgrow9.block _ (by simp; omega) (fun e => by
                  have h1 := HOK7.out.at_.tfiles _ (by rw [hfv']; exact e.symm)
                  rw [HOK7.out.at_.tB] at h1
                  cases h1), Lib.alloc_old _ _ _ (by simp; omega), Lib.alloc_old _ _ _ (by omega)]
                exact hB8
              exact ⟨by rw [← hfv']; exact root_cell hb9 4 _ rfl, root_frozen hb9 4⟩
            have HCN : Hid (∀ j u, [(.pointer (some ⟨w8.heap.size, 0, none⟩) : Value)][j]? = some u → ((w8.alloc (.cells #[.slice va vn vc, .int .i64 (vn : Nat)] 73)).alloc (.cells #[.pointer (some ⟨w8.heap.size, 0, none⟩)] 71)).cell? ((⟨w8.heap.size + 1, 0, none⟩ : Addr).add j) = some u) := by
              have h9 := cell_one_new (w8.alloc (.cells #[.slice va vn vc, .int .i64 (vn : Nat)] 73)) (.pointer (some ⟨w8.heap.size, 0, none⟩)) 71
              rw [show (w8.alloc (.cells #[.slice va vn vc, .int .i64 (vn : Nat)] 73)).heap.size = w8.heap.size + 1 by simp] at h9
              exact Lib.hid h9
            have HFV := Lib.hid hfv'
            clear hfv' hB8
            go_wp2_with (first | (at_builtin; refine wpList_append_own_at _ rfl _ _ 34 rfl w.heap.size 71 i0 (.pointer none) 1 8 Tryd.underlying34 hii hz0 hzz1 hzz2 rfl (by decide) (.slice fa fs.length fcap) fs.length (V'.fb.map fun b => .pointer (some ⟨b, 0, none⟩)) rfl (World.ownsRow.alloc (World.ownsRow.alloc HROW8.out _) _) ⟨w8.heap.size + 1, 0, none⟩ 1 1 [.pointer (some ⟨w8.heap.size, 0, none⟩)] rfl rfl HCN.out (fun u hu => by simp at hu; subst hu; rfl) (by unfold maxLen; omega) (by omega) (by simp; omega) ?_; intro fv' w9 hown9 hgrow9 hnil9 hloc9; clear hnil9; obtain ⟨x4', y4'⟩ := HB9 _ hgrow9; obtain ⟨ga, ca, rfl⟩ := row_form hown9 (by omega); have HLOC := Lib.hid hloc9; have HROW9 := Lib.hid hown9; have HGROW9 := Lib.hid hgrow9; clear hloc9 hown9 hgrow9) | fail)
            have hvn := HVN.out
            subst hvn
            obtain ⟨own2, hok2, ho2, hk2⟩ := FsOK.plant (l := f.1.take C) (n := s.data.toList) HOK7.out HK78.out HM8.out (HDO.out.mono (by show w.heap.size ≤ (wr).heap.size; omega)) (fun k hk => HOK.out.fresh k (Nat.le_trans hzW (HLT7.out k hk))) HROW9.out (by rw [HFV.out]; exact HGROW9.out) (by rw [HFV.out]; exact HLOC.out) (by omega)
            go_roundg (N - (i + 1))
            case measure => rw [HK2.out]; omega
            case rel =>
              refine ⟨i + 1, fs ++ [(f.1.take C, (f.1.take C).length)], Fs.mput dd s.data.toList fs.length, _, own2, by omega, rfl, by simp, hok2, fun b hb => ?_, ?_, by rw [List.length_append, HFL.out]; rfl, ?_, by rw [← HCF.out]; exact HDR.out⟩
              · rw [ho2 b (by omega) (fun e => by have := HLT7.out b e; omega)]
                exact HOWN.out b hb
              · refine ⟨hk2.os.trans (HBW7.out.os.trans HKEPT.out.os), hk2.tape.trans (HBW7.out.tape.trans HKEPT.out.tape), hk2.output.trans (HBW7.out.output.trans HKEPT.out.output), by have := hk2.size; omega, fun b hb ht => ?_⟩
                rw [hk2.block b (by omega) (by rw [HOWN.out b hb]; exact ht), HBW7.out.block b (by omega)]
                exact HKEPT.out.block b hb ht
              · rw [Fs.mput_len2]
                have := Fs.mdel_len dd s.data.toList
                omega
        · have hin1 : (N : Int) ≤ (i : Int) := by omega
          have hend : Fs.crashGo (Fs.cutOf st D tails) (Fs.keys D) [] [] = (fs, dd) := by
            rw [← HGO.out, List.drop_of_length_le (by rw [← HKL.out]; omega), Fs.crashGo]
          have HE : Hid (Fs.crash st dirs tails = { Fs.midc st.room fs dd with sure := dd }) := by
            rw [HCR.out, hend]; exact Lib.hid rfl
          have r5 : wr.cell? ⟨w.heap.size + 2, 5, none⟩ = some (.map (some V'.md)) := root_cell HOK.out.at_.root 5 _ rfl
          clear hend
          go_wp2_with fail
          refine (cloneM V'.md dd wr HOK.out.at_.dir).mono ?_
          rintro e w8 ⟨rfl, hm8, hb8⟩
          have HM8 := Lib.hid hm8
          have HB8 := Lib.hid hb8
          have hr8 := (hb8.block _ (heap_lt HOK.out.at_.root)).trans HOK.out.at_.root
          have x6 := root_cell hr8 6 _ rfl
          have y6 := root_frozen hr8 6
          clear hm8 hb8 hr8
          go_wp2_with fail
          go_ret
          rw [HE.out]
          have hat := HOK.out.at_.synced1 HB8.out HM8.out (by omega)
          have hlt8 := HM8.out.lt
          have hB := heap_lt HOK.out.at_.root
          refine ⟨_, _, _, rfl, ⟨hat, fun b hb => ?_, fun b hb => ?_⟩, ?_⟩
          · have h1 : w8.heap.size ≤ b := by simpa [World.setCell] using hb
            unfold tag1
            rw [if_neg (by omega)]
            exact HOK.out.fresh b (by omega)
          · rw [tag1_old (by omega)]; exact HOK.out.old b hb
          · refine ((HBO.out.trans (HB8.out.mono (by omega)))).setCell (p := ⟨w.heap.size + 2, 6, none⟩) (by show w.heap.size ≤ w.heap.size + 2; omega) _
end Go.Proofs.YtcinagglbkbmkaaDoor
