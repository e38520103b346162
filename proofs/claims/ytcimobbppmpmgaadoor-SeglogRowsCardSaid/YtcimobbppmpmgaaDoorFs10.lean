/-
  The file system: Create, walked.
-/
import Derived.Test.YtcimobbppmpmgaaDoorFs9
namespace Go.Proofs.YtcimobbppmpmgaaDoor
set_option linter.unusedSimpArgs false
set_option linter.unusedVariables false
open Go Go.RowKit
open Go.Maps Go.WideMaps

theorem doAll_new (d : Fs.Names) (n : List UInt8) (k : Nat) : Fs.doAll d [(n, (k : Int))] = Fs.mput d n k := by
  unfold Fs.doAll Fs.doOne
  simp only [List.foldl_cons, List.foldl_nil]
  rw [if_neg (by omega)]
theorem bytes_eta (s : ByteArray) : (⟨s.data.toList.toArray⟩ : ByteArray) = s := by cases s; simp

set_option maxHeartbeats 2000000 in
set_option maxRecDepth 100000 in
theorem create_any (base B : Nat) (st : Fs.St) (V : FsV) (own : Nat → Tag) (s : ByteArray) (w : World) (h : FsOK base B st V own w) (hs : s.size ≤ 1000000) (hfl : st.files.length ≤ 900000) (hcl : st.changes.length ≤ 900000) (hdl : st.dir.length ≤ 900000) :
    Calls Tryd.prog 23 #[.pointer (some ⟨B, 0, none⟩), .string s] w fun e w' => e = .returned (.int .i64 (Fs.create st s.data.toList).2) ∧ OpPost base B (Fs.create st s.data.toList).1 own w w' := by
  obtain ⟨i0, hi, hz0, hz1, hz2⟩ := info_parts infoFP
  have x5 : w.cell? ⟨B, 5, none⟩ = some (.map (some V.md)) := root_cell h.at_.root 5 _ rfl
  have hb1 : Below w.heap.size w (w.alloc (.cells #[.string s] 9)) := (Below.refl _ _).alloc (Nat.le_refl _) _
  have hkey := keyOf_string_mk Tryd.underlying9 (s := s) (show s.size ≤ maxLen by unfold maxLen; omega)
  have HN := Lib.hid (named_any _ [s] (w.alloc (.cells #[.string s] 9)) (strs_one (by simp) (cell_new w _ _ 0 _ rfl)) (by simp) (by intro x hx; simp at hx; subst hx; omega))
  have hga : goodAll [s] = Fs.good s.data.toList := by simp [goodAll]
  rw [hga] at HN
  have HM := Lib.hid h.at_.dir
  have HM1 := Lib.hid (h.at_.dir.heap (hb1.block _ h.at_.dir.lt))
  have x5' : (w.alloc (.cells #[.string s] 9)).cell? ⟨B, 5, none⟩ = some (.map (some V.md)) := by rw [hb1.cell (cellLt x5)]; exact x5
  have HOK1 := Lib.hid (h.kept (kept_below hb1))
  have HSZ := Lib.hid (Fs.datum_size st.dir)
  have HHAS := Lib.hid (Fs.datum_has st.dir s.data.toList)
  have H := Lib.hid h
  clear h
  go_enter Tryd.func23, Tryd.ntmps23
  cases hgd : Fs.good s.data.toList
  · have HE : Hid (Fs.create st s.data.toList = (st, 7)) := by unfold Fs.create; rw [if_pos hgd]; exact Lib.hid rfl
    rw [hgd] at HN
    clear hgd
    go_wp2_with (first | (at_lookup; refine wpList_lookup_own_ok_int _ rfl _ _ 54 rfl 9 3 .i64 strKeyed Tryd.underlying54 Tryd.underlying3 (zeroInt _) V.md _ _ rfl HM.out _ _ rfl hkey ?_; intro c hat hwc; clear hat hwc; rw [HHAS.out]) | fail)
    refine HN.out.mono ?_
    rintro e w2 ⟨rfl, hw2⟩
    obtain rfl := hw2.symm
    go_wp2
    go_ret
    rw [HE.out]
    exact ⟨rfl, V, own, HOK1.out, fun _ _ => rfl, kept_below hb1⟩
  · rw [hgd] at HN
    cases hhas : Fs.mhas st.dir s.data.toList
    · have HHF : Hid (Maps.has (Fs.datum st.dir) (.string s.data.toList) = false) := by rw [HHAS.out]; exact Lib.hid hhas
      by_cases h64 : 64 ≤ st.dir.length
      · have HE : Hid (Fs.create st s.data.toList = (st, 8)) := by unfold Fs.create; rw [if_neg (by rw [hgd]; simp), if_neg (by rw [hhas]; simp), if_pos h64]; exact Lib.hid rfl
        have h641 : (64 : Int) ≤ (st.dir.length : Int) := by omega
        clear hgd hhas
        go_wp2_with (first | (at_lookup; refine wpList_lookup_own_ok_int _ rfl _ _ 54 rfl 9 3 .i64 strKeyed Tryd.underlying54 Tryd.underlying3 (zeroInt _) V.md _ _ rfl HM.out _ _ rfl hkey ?_; intro c hat hwc; clear hat hwc; rw [HHF.out]) | fail)
        refine HN.out.mono ?_
        rintro e w2 ⟨rfl, hw2⟩
        obtain rfl := hw2.symm
        go_wp2_with (first | (at_len; refine wpList_len_own _ rfl _ 54 rfl 9 3 Tryd.underlying54 _ V.md _ _ rfl HM1.out ?_; rw [HSZ.out]) | fail)
        go_ret
        rw [HE.out]
        exact ⟨rfl, V, own, HOK1.out, fun _ _ => rfl, kept_below hb1⟩
      · have h641 : (st.dir.length : Int) < 64 := by omega
        by_cases hc : (Fs.step st).2.2 = 0
        · have HE : Hid (Fs.create st s.data.toList = ({ (Fs.step st).1 with files := st.files ++ [([], 0)], dir := Fs.mput st.dir s.data.toList st.files.length, changes := st.changes ++ [[(s.data.toList, (st.files.length : Int))]] }, 0)) := by
            unfold Fs.create; rw [if_neg (by rw [hgd]; simp), if_neg (by rw [hhas]; simp), if_neg h64, if_neg (by simp [hc])]; exact Lib.hid rfl
          have hc2 : ((Fs.step st).2.2 != 0) = false := by rw [hc]; rfl
          clear hgd hhas hc h64
          go_wp2_with (first | (at_lookup; refine wpList_lookup_own_ok_int _ rfl _ _ 54 rfl 9 3 .i64 strKeyed Tryd.underlying54 Tryd.underlying3 (zeroInt _) V.md _ _ rfl HM.out _ _ rfl hkey ?_; intro c hat hwc; clear hat hwc; rw [HHF.out]) | fail)
          refine HN.out.mono ?_
          rintro e w2 ⟨rfl, hw2⟩
          obtain rfl := hw2.symm
          go_wp2_with (first | (at_len; refine wpList_len_own _ rfl _ 54 rfl 9 3 Tryd.underlying54 _ V.md _ _ rfl HM1.out ?_; rw [HSZ.out]) | fail)
          refine (step_any base B st V own _ HOK1.out.at_).mono ?_
          rintro e w2 ⟨pv, rfl, h2, hk2⟩
          have h2ok : FsOK base B (Fs.step st).1 { V with pv := pv } own w2 := ⟨h2, fun k hk => HOK1.out.fresh k (Nat.le_trans hk2.size hk), H.out.old⟩
          have hk02 : Kept own (· ≠ .other) w w2 := (kept_below hb1).trans (hk2.mono (fun t ht => by rw [ht]; simp))
          have x4 : w2.cell? ⟨B, 4, none⟩ = some V.fv := root_cell h2.root 4 _ rfl
          have hrow := h2.files
          have hB2 := heap_lt h2.root
          have hlo := h2.lo
          have hbase2 : base ≤ w2.heap.size := by omega
          rw [Fs.step_files] at hrow
          have HROW := Lib.hid hrow
          have H2 := Lib.hid h2ok
          have HB5 : ∀ w5, ((w2.alloc (.cells #[.slice none 0 0, .int .i64 0] 82)).alloc (.cells #[.pointer (some ⟨w2.heap.size, 0, none⟩)] 78)).grownBy w5 V.fv.ownBlock → w5.cell? ⟨B, 4, none⟩ = some V.fv ∧ w5.frozen? ⟨B, 4, none⟩ = false := fun w5 hgrow5 => by
            have hB5 : w5.heap[B]? = some (.cells (FsCells (Fs.step st).1 { V with pv := pv }) 57 (0, 0)) := by
              rw [hgrow5.block B (by simp; omega) (fun e => by
                have h1 := H2.out.at_.tfiles B e.symm
                rw [H.out.at_.tB] at h1
                cases h1), Lib.alloc_old _ _ _ (by simp; omega), Lib.alloc_old _ _ _ (by omega)]
              exact H2.out.at_.root
            exact ⟨root_cell hB5 4 _ rfl, root_frozen hB5 4⟩
          have hcn : ∀ j u, [(.pointer (some ⟨w2.heap.size, 0, none⟩) : Value)][j]? = some u → ((w2.alloc (.cells #[.slice none 0 0, .int .i64 0] 82)).alloc (.cells #[.pointer (some ⟨w2.heap.size, 0, none⟩)] 78)).cell? ((⟨w2.heap.size + 1, 0, none⟩ : Addr).add j) = some u := by
            have h9 := cell_one_new (w2.alloc (.cells #[.slice none 0 0, .int .i64 0] 82)) (.pointer (some ⟨w2.heap.size, 0, none⟩)) 78
            rw [show (w2.alloc (.cells #[.slice none 0 0, .int .i64 0] 82)).heap.size = w2.heap.size + 1 by simp] at h9
            exact h9
          have HCN := Lib.hid hcn
          clear h2 h2ok hrow hcn
          go_wp2_with (first | (at_builtin; refine wpList_append_own_at _ rfl _ _ 53 rfl base 78 i0 (.pointer none) 1 8 Tryd.underlying53 hi hz0 hz1 hz2 rfl (by decide) V.fv st.files.length (V.fb.map fun b => .pointer (some ⟨b, 0, none⟩)) rfl (World.ownsRow.alloc (World.ownsRow.alloc HROW.out _) _) ⟨w2.heap.size + 1, 0, none⟩ 1 1 [.pointer (some ⟨w2.heap.size, 0, none⟩)] rfl rfl HCN.out (fun u hu => by simp at hu; subst hu; rfl) (by unfold maxLen; omega) (by omega) (by simp; omega) ?_; intro fv' w5 hown5 hgrow5 hnil5 hloc5; clear hnil5; obtain ⟨x4', y4'⟩ := HB5 _ hgrow5; obtain ⟨ga, ca, rfl⟩ := row_form hown5 (by omega); have HLOC := Lib.hid hloc5; clear hloc5) | fail)
          have hmore := FsOK.more (V := { V with pv := pv }) H2.out (by rw [Fs.step_files]; exact hown5) hgrow5 HLOC.out hbase2
          rw [Fs.step_files] at hmore
          obtain ⟨own1, hok1, ho1, hk1⟩ := hmore
          have hsz6 : (w5.setCell ⟨B, 4, none⟩ (.slice (some ⟨ga, 0, none⟩) (st.files.length + 1) ca)).heap.size = w5.heap.size := by simp [World.setCell]
          have hnew := heap_new (w5.setCell ⟨B, 4, none⟩ (.slice (some ⟨ga, 0, none⟩) (st.files.length + 1) ca)) (.cells #[.string s, .int .i64 (st.files.length : Int)] 100)
          have hkA : Kept own1 (· = .other) (w5.setCell ⟨B, 4, none⟩ (.slice (some ⟨ga, 0, none⟩) (st.files.length + 1) ca)) ((w5.setCell ⟨B, 4, none⟩ (.slice (some ⟨ga, 0, none⟩) (st.files.length + 1) ca)).alloc (.cells #[.string s, .int .i64 (st.files.length : Int)] 100)) := (Kept.refl _ _ _).alloc _
          have hok2 := hok1.kept hkA
          have hfr1 := hok1.fresh w5.heap.size (by omega)
          have hsz2 := hk1.size
          rw [hsz6] at hnew hsz2
          have hk16 : Kept own (· ≠ .other) w2 ((w5.setCell ⟨B, 4, none⟩ (.slice (some ⟨ga, 0, none⟩) (st.files.length + 1) ca)).alloc (.cells #[.string s, .int .i64 (st.files.length : Int)] 100)) := hk1.alloc _
          have hsz7 : ((w5.setCell ⟨B, 4, none⟩ (.slice (some ⟨ga, 0, none⟩) (st.files.length + 1) ca)).alloc (.cells #[.string s, .int .i64 (st.files.length : Int)] 100)).heap.size = w5.heap.size + 1 := by simp [World.setCell]
          have HLAST := Lib.hid (turn_any base B _ _ own1 w5.heap.size 1 _ [(s.data.toList, (st.files.length : Int))] _ hok2 hnew (by simp [nameCells]) hfr1 (by omega) (by omega)
            (by
              intro p hp
              simp at hp
              subst hp
              simp only [List.length_append, List.length_singleton]
              refine ⟨hs, by omega, by omega⟩)
            (by simp; omega) (by simp [Fs.step_dir]; omega) (by simp [Fs.step_changes]; omega))
          clear hok1 hok2 hnew hkA hown5 hgrow5 hk1 HLOC
          refine HLAST.out.mono ?_
          rintro e w8 ⟨rfl, V', own', hok', ho', hk'⟩
          go_wp2
          go_ret
          rw [HE.out]
          simp only [Fs.step_dir, Fs.step_changes, doAll_new] at hok'
          refine ⟨rfl, V', own', hok', fun k hk => ?_, ?_⟩
          · have h02 := hk02.size
            rw [ho' k (by omega) (by omega), ho1 k (by omega)]
          · refine hk02.trans ?_
            refine ⟨hk'.os.trans hk16.os, hk'.tape.trans hk16.tape, hk'.output.trans hk16.output, Nat.le_trans hk16.size hk'.size, fun k hk ht => ?_⟩
            rw [hk'.block k (by omega) (by rw [ho1 k hk]; exact ht)]
            exact hk16.block k hk ht
        · have HE : Hid (Fs.create st s.data.toList = ((Fs.step st).1, (Fs.step st).2.2)) := by
            unfold Fs.create; rw [if_neg (by rw [hgd]; simp), if_neg (by rw [hhas]; simp), if_neg h64, if_pos hc]; exact Lib.hid rfl
          have hc2 : ((Fs.step st).2.2 != 0) = true := by rw [bne_iff_ne]; exact hc
          clear hgd hhas hc h64
          go_wp2_with (first | (at_lookup; refine wpList_lookup_own_ok_int _ rfl _ _ 54 rfl 9 3 .i64 strKeyed Tryd.underlying54 Tryd.underlying3 (zeroInt _) V.md _ _ rfl HM.out _ _ rfl hkey ?_; intro c hat hwc; clear hat hwc; rw [HHF.out]) | fail)
          refine HN.out.mono ?_
          rintro e w2 ⟨rfl, hw2⟩
          obtain rfl := hw2.symm
          go_wp2_with (first | (at_len; refine wpList_len_own _ rfl _ 54 rfl 9 3 Tryd.underlying54 _ V.md _ _ rfl HM1.out ?_; rw [HSZ.out]) | fail)
          refine (step_any base B st V own _ HOK1.out.at_).mono ?_
          rintro e w2 ⟨pv, rfl, h2, hk2⟩
          have hk02 : Kept own (· ≠ .other) w w2 := (kept_below hb1).trans (hk2.mono (fun t ht => by rw [ht]; simp))
          go_wp2
          go_ret
          rw [HE.out]
          exact ⟨rfl, _, own, ⟨h2, fun k hk => HOK1.out.fresh k (Nat.le_trans hk2.size hk), H.out.old⟩, fun _ _ => rfl, hk02⟩
    · have HHT : Hid (Maps.has (Fs.datum st.dir) (.string s.data.toList) = true) := by rw [HHAS.out]; exact Lib.hid hhas
      have HE : Hid (Fs.create st s.data.toList = (st, 4)) := by unfold Fs.create; rw [if_neg (by rw [hgd]; simp), if_pos hhas]; exact Lib.hid rfl
      clear hgd hhas
      go_wp2_with (first | (at_lookup; refine wpList_lookup_own_ok_int _ rfl _ _ 54 rfl 9 3 .i64 strKeyed Tryd.underlying54 Tryd.underlying3 (zeroInt _) V.md _ _ rfl HM.out _ _ rfl hkey ?_; intro c hat hwc; clear hat hwc; rw [HHT.out]) | fail)
      refine HN.out.mono ?_
      rintro e w2 ⟨rfl, hw2⟩
      obtain rfl := hw2.symm
      go_wp2
      go_ret
      rw [HE.out]
      exact ⟨rfl, V, own, HOK1.out, fun _ _ => rfl, kept_below hb1⟩
end Go.Proofs.YtcimobbppmpmgaaDoor
