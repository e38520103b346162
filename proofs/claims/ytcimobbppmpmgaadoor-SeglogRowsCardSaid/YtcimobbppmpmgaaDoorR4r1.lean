/-
  SeglogRows, walked.
-/
import Derived.Test.YtcimobbppmpmgaaDoorR4r0
namespace Go.Proofs.YtcimobbppmpmgaaDoor
set_option linter.unusedSimpArgs false
set_option linter.unusedVariables false
open Go Go.RowKit
open Go.Maps Go.WideMaps

set_option maxHeartbeats 2000000 in
set_option maxRecDepth 100000 in
theorem rows_any (v0 v1 : Value) (cs tl : List UInt8) (w : World) (B : Nat) (hE : SgEnv B w) (hB : B ≤ w.heap.size) (h0 : Byts w v0 cs) (h1 : Byts w v1 tl) (hcl : cs.length ≤ 9223372036854775807) (htl : tl.length ≤ 9223372036854775807) :
    Calls Tryd.prog 4 #[v0, v1] w fun e w' => e = .returned (.bool true) ∧ Below w.heap.size w w' := by
  obtain ⟨i0, hi0', hz0, hz1, hz2⟩ := info_parts infoI
  obtain ⟨i1, hi1', hy0, hy1, hy2⟩ := info_parts infoB
  obtain ⟨ca, cc, rfl, _⟩ := h0.form
  obtain ⟨ta, tc, rfl, _⟩ := h1.form
  have HE := Lib.hid hE
  have H0 := Lib.hid h0
  have H1 := Lib.hid h1
  have htn : (0 : Int) ≤ (tl.length : Int) := Int.natCast_nonneg _
  clear hE h0 h1
  go_enter Tryd.func4, Tryd.ntmps4
  go_wp2_with fail
  refine (awake_any w B HE.out hB).mono ?_
  rintro e w1 ⟨rfl, hb1⟩
  have HB1 := Lib.hid hb1
  have HE1 := Lib.hid (HE.out.below (hb1.mono hB))
  have hB1 := Nat.le_trans hB hb1.size
  clear hb1
  by_cases hlong : 300 < tl.length
  · have h1 : (300 : Int) < (tl.length : Int) := by omega
    go_wp2_with fail
    refine (awake_any w1 B HE1.out hB1).mono ?_
    rintro e w2 ⟨rfl, hb2⟩
    have HB2 := Lib.hid (HB1.out.trans (hb2.mono HB1.out.size))
    clear hb2
    go_wp2_with fail
    go_ret
    exact ⟨rfl, HB2.out⟩
  · have h1 : (tl.length : Int) ≤ 300 := by omega
    go_wp2_with fail
    refine (new_any 30000 w1).mono ?_
    rintro e w3 ⟨hb3, hres⟩
    have HB3 := Lib.hid (HB1.out.trans (hb3.mono HB1.out.size))
    have hs23 := hb3.size
    clear hb3
    rcases hres with ⟨h, rfl⟩ | ⟨_, rfl, V, hok⟩
    · omega
    · obtain ⟨base, hbase⟩ : ∃ b, b = w1.heap.size := ⟨_, rfl⟩
      obtain ⟨BB, hBB⟩ : ∃ b, b = w1.heap.size + 2 := ⟨_, rfl⟩
      rw [← hBB, ← hbase] at hok
      rw [← hBB]
      have hw2 : w.heap.size ≤ base := by rw [hbase]; exact HB1.out.size
      have hbb : base ≤ w3.heap.size := by rw [hbase]; exact hs23
      have HE3 := Lib.hid ((HE.out.below (HB3.out.mono hB)).mono (Nat.le_trans hB hw2))
      have HRW0 : Hid (RW base BB (Fs.new 30000) V (tags0 base) [] [] [] (.slice none 0 0) (.slice none 0 0) w3) :=
        Lib.hid ⟨hok, ⟨Fs.Rep.new 30000, fun s h => by simp at h, fun s h => by simp at h⟩, rfl, rfl, World.ownsRow_nil _ _ _ _, World.ownsRow_nil _ _ _ _, fun g h => by simp [Value.ownBlock] at h, fun g h => by simp [Value.ownBlock] at h, fun g h => by simp [Value.ownBlock] at h, hbb⟩
      obtain ⟨n, hn⟩ : ∃ n, n = min cs.length 8 := ⟨_, rfl⟩
      have hn8 : n ≤ 8 := by omega
      have HN := Lib.hid hn
      clear hok hbase hBB hs23 hn
      go_wp2_with fail
      go_loopg [7, 8, 9] n (fun k s7 s8 s9 wr => ∃ (i : Nat) (st : Fs.St) (V : FsV) (own : Nat → Tag), i ≤ n ∧ k = n - i ∧ s9 = .int .i64 (i : Nat) ∧ RW base BB st V own (Sr.L cs i) ((Sr.L cs i).map (·.1)) ((Sr.ents (Sr.L cs i)).map (·.1)) s7 s8 wr ∧ Below w.heap.size w wr)
      case atStart => exact ⟨0, _, _, _, Nat.zero_le _, rfl, rfl, HRW0.out, HB3.out⟩
      case round =>
        obtain ⟨i, st, V1, own1, hi, hk, rfl, hRW, hbr⟩ := hrel
        obtain ⟨a7, n7, c7, rfl, HN7⟩ := hRW.r7.form
        obtain ⟨a8, n8, c8, rfl, HN8⟩ := hRW.r8.form
        have HK := Lib.hid hk
        have HRW := Lib.hid hRW
        have HBR := Lib.hid hbr
        clear hk hRW hbr
        have hi0 : (0 : Int) ≤ (i : Int) := Int.natCast_nonneg _
        have hi8 : (i : Int) ≤ 8 := by omega
        by_cases hin : i < n
        · have hi1 : (i : Int) < (cs.length : Int) := by have := HN.out; omega
          have hi2 : (i : Int) < 8 := by omega
          have hil : i < cs.length := by have := HN.out; omega
          obtain ⟨x, hx⟩ : ∃ x, cs[i]? = some x := ⟨_, List.getElem?_eq_getElem hil⟩
          have HCV : Hid (Sr.c cs i = x.toNat % 5) := by
            refine Lib.hid ?_
            unfold Sr.c
            rw [List.getD_eq_getElem?_getD, hx]
            rfl
          obtain ⟨cb, co, rfl, hcb, hc0⟩ := H0.out.at2 hx
          have HCX := Lib.hid hc0
          clear hx hc0
          have HES := Lib.hid ((HE.out.below (HBR.out.mono hB)).mono (Nat.le_trans hB hw2))
          have HSM := Lib.hid (HRW.out.rep.rep.small (by unfold Sg.segs; rw [List.length_map, Sr.L_len]; omega) (by rw [HRW.out.chg]; simp) (fun s h => by
            unfold Sg.segs Sr.L at h
            obtain ⟨t, ht, rfl⟩ := List.mem_map.1 h
            obtain ⟨j, hj, rfl⟩ := List.mem_map.1 ht
            show (Fr.flat (Sr.frs j (Sr.c cs j))).length ≤ _
            rw [Sr.flat_frs]
            have := Sr.c_le cs j
            omega) (by rw [HRW.out.room]; omega))
          have HCR := Lib.hid (HRW.out.rep.create (id := 3 * (i : Int) + 1) (Sr.nameE_id i (by omega)) (Sr.ids_L cs i) (by rw [Sr.L_len]; omega))
          go_wp2_with fail
          refine (segCreate_any base BB st V1 own1 (3 * (i : Int) + 1) wr HRW.out.ok HES.out HRW.out.base HSM.out).mono ?_
          rintro e w4 ⟨rfl, hp4⟩
          rw [HCR.out.1]
          have hlow := HRW.out.low hp4
          obtain ⟨V4, own4, hRW4⟩ := HRW.out.op hp4 HCR.out.2.1 (by rw [HCR.out.2.2.1]; exact HRW.out.room) HCR.out.2.2.2
          obtain ⟨st4, hst4⟩ : ∃ s, s = (Sg.create st (3 * (i : Int) + 1)).1 := ⟨_, rfl⟩
          rw [← hst4] at hRW4
          have HRW4 := Lib.hid hRW4
          have HBR4 := Lib.hid (HBR.out.trans (hlow.mono hw2))
          clear hp4 hlow hRW4 hst4 HCR
          have hB4 : Below wr.heap.size wr (wr.alloc (.cells #[.int .i64 (3 * (i : Int) + 1)] 3)) := (Below.refl _ _).alloc (Nat.le_refl _) _
          have hb4a : Below w4.heap.size w4 (w4.alloc (.cells #[.int .i64 (3 * (i : Int) + 1)] 3)) := (Below.refl _ _).alloc (Nat.le_refl _) _
          have HRA := Lib.hid (HRW4.out.below hb4a)
          have HBRA := Lib.hid (HBR4.out.trans (hb4a.mono HBR4.out.size))
          have hbw4 := HRA.out.base
          have HCN : Hid (∀ j u, ([.int .i64 (3 * (i : Int) + 1)] : List Value)[j]? = some u → (w4.alloc (.cells #[.int .i64 (3 * (i : Int) + 1)] 3)).cell? ((⟨w4.heap.size, 0, none⟩ : Addr).add j) = some u) := Lib.hid (cell_one_new _ _ _)
          have hidl : ((Sr.L cs i).map Prod.fst).length ≤ 8 := by rw [List.length_map, Sr.L_len]; omega
          clear hB4 hb4a
          have HSTO : Hid (RW base BB st4 V4 own4 (Sr.LS cs i 0) ((Sr.L cs i).map Prod.fst) ((Sr.ents (Sr.LS cs i 0)).map Prod.fst) (.slice a7 n7 c7) (.slice a8 n8 c8) (w4.alloc (.cells #[.int .i64 (3 * (i : Int) + 1)] 3))) := by
            have e1 := Sr.LS_wants0 cs i
            exact Lib.hid (by rw [show (Sr.ents (Sr.LS cs i 0)).map Prod.fst = _ from e1, Sr.LS_zero]; exact HRA.out)
          go_wp2_with (first | (at_builtin; refine wpList_append_own_at _ rfl _ _ 36 rfl base 3 i0 (.int .i64 0) 1 8 Tryd.underlying36 hi0' hz0 hz1 hz2 rfl (by decide) (.slice a7 n7 c7) ((Sr.L cs i).map Prod.fst).length (intCells ((Sr.L cs i).map Prod.fst)) rfl HRA.out.r7 ⟨w4.heap.size, 0, none⟩ 1 1 [.int .i64 (3 * (i : Int) + 1)] rfl rfl HCN.out (fun u hu => by simp at hu; subst hu; rfl) (by unfold maxLen; omega) (by omega) hbw4 ?_; intro v7' w5 hown5 hgrow5 hnil5 hloc5; clear hnil5; have HG5 := Lib.hid hgrow5; have HN5 := Lib.hid (HSTO.out.more7 hown5 hgrow5 hloc5); have HB5 := Lib.hid (below_grown3 HBRA.out hw2 hbw4 HRA.out.r7 hgrow5); clear hown5 hgrow5 hloc5; obtain ⟨a9, n9, c9, rfl, HN9⟩ := HN5.out.r7.form) | fail)
          have HIDS : Hid ((Sr.L cs i).map Prod.fst ++ [3 * (i : Int) + 1] = (Sr.L cs (i + 1)).map Prod.fst) := by
            have := Sr.LS_ids cs i (Sr.c cs i)
            rw [Sr.LS_full] at this
            exact Lib.hid this.symm
          have HN6 : Hid (RW base BB st4 V4 own4 (Sr.LS cs i 0) ((Sr.L cs (i + 1)).map Prod.fst) ((Sr.ents (Sr.LS cs i 0)).map Prod.fst) (.slice a9 n9 c9) (.slice a8 n8 c8) w5) := by
            have := HN5.out
            rw [HIDS.out] at this
            exact Lib.hid this
          have hc4 := Sr.c_le cs i
          obtain ⟨cm, hcm⟩ : ∃ cm, cm = Sr.c cs i := ⟨_, rfl⟩
          have HCM := Lib.hid hcm
          rw [← hcm] at hc4
          clear HN5 HSTO HRA HRW4 HBR4 hbw4 HCN HBRA hcm
          go_loopg [8, 11] cm (fun k s8 s11 wq => ∃ (m : Nat) (st : Fs.St) (V : FsV) (own : Nat → Tag), m ≤ cm ∧ k = cm - m ∧ s11 = .int .i64 (m : Nat) ∧ RW base BB st V own (Sr.LS cs i m) ((Sr.L cs (i + 1)).map Prod.fst) ((Sr.ents (Sr.LS cs i m)).map Prod.fst) (.slice a9 n9 c9) s8 wq ∧ Below w.heap.size w wq)
          case atStart => exact ⟨0, _, _, _, Nat.zero_le _, rfl, rfl, HN6.out, HB5.out⟩
          case round =>
            obtain ⟨m, stm, Vm, ownm, hm, hkm, rfl, hRWm, hbm⟩ := hrel
            obtain ⟨a8', n8', c8', rfl, HN8'⟩ := hRWm.r8.form
            have HKM := Lib.hid hkm
            have HRWM := Lib.hid hRWm
            have HBM := Lib.hid hbm
            clear hkm hRWm hbm
            have hcell : wr.cell? ⟨cb, co + i, none⟩ = some (.int .u8 x.toNat) := by rw [HBM.out.cell (p := ⟨cb, co + i, none⟩) hcb]; exact HCX.out
            have hm0 : (0 : Int) ≤ (m : Int) := Int.natCast_nonneg _
            have hm4 : (m : Int) ≤ 4 := by omega
            have hx0 : (0 : Int) ≤ (x.toNat : Int) := Int.natCast_nonneg _
            by_cases hlt : m < cm
            · have hlt1 : (m : Int) < (x.toNat : Int) % 5 := by have := HCM.out; rw [HCV.out] at this; omega
              have HBT : Hid (#[Value.int .u8 (i : Int), .int .u8 (m : Int)] = (u8Cells [UInt8.ofNat i, UInt8.ofNat m]).toArray) := by
                have h1 : (UInt8.ofNat i).toNat = i := UInt8.toNat_ofNat_of_lt' (by show _ < 256; omega)
                have h2 : (UInt8.ofNat m).toNat = m := UInt8.toNat_ofNat_of_lt' (by show _ < 256; omega)
                refine Lib.hid ?_
                simp [u8Cells, h1, h2]
              have hpa := prts_lit1 32 (byts_lit (w := wr) [UInt8.ofNat i, UInt8.ofNat m] #[.int .u8 (i : Int), .int .u8 (m : Int)] (0, 0) HBT.out)
              rw [show (wr.alloc (.cells #[.int .u8 (i : Int), .int .u8 (m : Int)] 5)).heap.size = wr.heap.size + 1 by simp] at hpa
              have HPA := Lib.hid hpa
              have hbA : Below wr.heap.size wr (wr.alloc (.cells #[.int .u8 (i : Int), .int .u8 (m : Int)] 5)) := (Below.refl _ _).alloc (Nat.le_refl _) _
              have hbA2 : Below wr.heap.size wr ((wr.alloc (.cells #[.int .u8 (i : Int), .int .u8 (m : Int)] 5)).alloc (.cells #[.slice (some ⟨wr.heap.size, 0, none⟩) 2 2] 32)) := hbA.alloc (by simp) _
              have HBA := Lib.hid hbA2
              have HRA := Lib.hid (HRWM.out.below hbA2)
              have HES7 := Lib.hid ((HE.out.below ((HBM.out.trans (hbA2.mono HBM.out.size)).mono hB)).mono (Nat.le_trans hB hw2))
              have HSM7 := Lib.hid (HRWM.out.rep.rep.small (by unfold Sg.segs; rw [List.length_map, Sr.LS_len]; omega) (by rw [HRWM.out.chg]; simp) (Sr.LS_flat cs i m (by omega)) (by rw [HRWM.out.room]; omega))
              have hfr : ((1 + (m : Int), [UInt8.ofNat i, UInt8.ofNat m]) : Fr.F) = Sr.fr i m := by unfold Sr.fr; rw [Int.add_comm]
              have HAPP := Lib.hid (HRWM.out.rep.append (i := i) (s := (3 * (i : Int) + 1, Sr.frs i m)) (Sr.LS_get cs i m) (k := 1 + (m : Int)) (p := [UInt8.ofNat i, UInt8.ofNat m]) (by rw [Int.add_comm]; exact Sr.enc_fr i m (by omega))
                (by rw [Sr.flat_frs]; simp only [List.length_cons, List.length_nil]; omega) (by rw [HRWM.out.room]; have := Sr.LS_size cs i m; simp only [List.length_cons, List.length_nil]; omega))
              have HST7 : Hid (Sg.RepS (Sg.append stm (3 * (i : Int) + 1) (1 + (m : Int)) [UInt8.ofNat i, UInt8.ofNat m]).1 (Sr.LS cs i (m + 1))) := by
                have := HAPP.out.2.1
                rw [show ([((1 + (m : Int)), [UInt8.ofNat i, UInt8.ofNat m])] : List Fr.F) = [Sr.fr i m] by rw [← hfr], Sr.LS_set] at this
                exact Lib.hid this
              clear hpa hbA hbA2 hfr
              go_wp2_with fail
              refine (segAppend_any base BB stm Vm ownm (3 * (i : Int) + 1) (1 + (m : Int)) _ [[UInt8.ofNat i, UInt8.ofNat m]] _ HRA.out.ok HES7.out HRA.out.base HSM7.out HPA.out (by simp) (by simp) HRWM.out.rep.rep.how).mono ?_
              rintro e w7 ⟨rfl, hp7⟩
              rw [show ([[UInt8.ofNat i, UInt8.ofNat m]] : List (List UInt8)).flatten = [UInt8.ofNat i, UInt8.ofNat m] from rfl] at hp7 ⊢
              rw [HAPP.out.1]
              have hlow := HRA.out.low hp7
              obtain ⟨V7, own7, hRW7⟩ := HRA.out.op hp7 HST7.out (by rw [HAPP.out.2.2.1]; exact HRWM.out.room) (by rw [HAPP.out.2.2.2]; exact HRWM.out.chg)
              obtain ⟨st7, hst7⟩ : ∃ s, s = (Sg.append stm (3 * (i : Int) + 1) (1 + (m : Int)) [UInt8.ofNat i, UInt8.ofNat m]).1 := ⟨_, rfl⟩
              rw [← hst7] at hRW7
              have hb7a : Below w7.heap.size w7 (w7.alloc (.cells #[.int .i64 (3 * (i : Int) + 1)] 3)) := (Below.refl _ _).alloc (Nat.le_refl _) _
              have HB7 := Lib.hid ((HBM.out.trans (HBA.out.mono HBM.out.size)).trans (hlow.mono hw2))
              have HR7 := Lib.hid (hRW7.below hb7a)
              have HBR7 := Lib.hid (HB7.out.trans (hb7a.mono HB7.out.size))
              have hbw7 := HR7.out.base
              have HCN : Hid (∀ j u, ([.int .i64 (3 * (i : Int) + 1)] : List Value)[j]? = some u → (w7.alloc (.cells #[.int .i64 (3 * (i : Int) + 1)] 3)).cell? ((⟨w7.heap.size, 0, none⟩ : Addr).add j) = some u) := Lib.hid (cell_one_new _ _ _)
              have hwl : ((Sr.ents (Sr.LS cs i m)).map Prod.fst).length ≤ 100 := by rw [List.length_map]; have := Sr.ents_LS_len cs i m; omega
              have HWS := Lib.hid (Sr.LS_wants cs i m)
              clear hp7 hlow hRW7 hst7 hb7a HAPP HST7 HSM7 HES7 HPA HBT HRA
              go_wp2_with (first | (at_builtin; refine wpList_append_own_at _ rfl _ _ 36 rfl base 3 i0 (.int .i64 0) 1 8 Tryd.underlying36 hi0' hz0 hz1 hz2 rfl (by decide) (.slice a8' n8' c8') ((Sr.ents (Sr.LS cs i m)).map Prod.fst).length (intCells ((Sr.ents (Sr.LS cs i m)).map Prod.fst)) rfl HR7.out.r8 ⟨w7.heap.size, 0, none⟩ 1 1 [.int .i64 (3 * (i : Int) + 1)] rfl rfl HCN.out (fun u hu => by simp at hu; subst hu; rfl) (by unfold maxLen; omega) (by omega) hbw7 ?_; intro v8' w8 hown8 hgrow8 hnil8 hloc8; clear hnil8; have HN8 := Lib.hid (HR7.out.more8 hown8 hgrow8 hloc8); have HB8 := Lib.hid (below_grown3 HBR7.out hw2 hbw7 HR7.out.r8 hgrow8); clear hown8 hgrow8 hloc8) | fail)
              go_roundg (cm - (m + 1))
              case measure => rw [HKM.out]; omega
              case rel =>
                have h8 := HN8.out
                rw [show ((Sr.ents (Sr.LS cs i m)).map Prod.fst ++ [3 * (i : Int) + 1]) = _ from HWS.out.symm] at h8
                exact ⟨m + 1, st7, V7, own7, by omega, rfl, by simp, h8, HB8.out⟩
            · have hlt1 : (x.toNat : Int) % 5 ≤ (m : Int) := by have := HCM.out; rw [HCV.out] at this; omega
              have HFULL : Hid (Sr.LS cs i m = Sr.L cs (i + 1)) := by
                have hmc : m = Sr.c cs i := by have := HCM.out; omega
                rw [hmc]
                exact Lib.hid (Sr.LS_full cs i)
              go_wp2_with fail
              go_roundg (n - (i + 1))
              case measure => rw [HK.out]; omega
              case rel =>
                have h9 := HRWM.out
                rw [HFULL.out] at h9
                exact ⟨i + 1, stm, Vm, ownm, by omega, rfl, by simp, h9, HBM.out⟩
        · have HES := Lib.hid ((HE.out.below (HBR.out.mono hB)).mono (Nat.le_trans hB hw2))
          have HSM := Lib.hid (HRW.out.rep.rep.small (by unfold Sg.segs; rw [List.length_map, Sr.L_len]; omega) (by rw [HRW.out.chg]; simp) (Sr.L_flat cs i) (by rw [HRW.out.room]; omega))
          by_cases hil : i < cs.length
          · have hi1 : (i : Int) < (cs.length : Int) := by omega
            have hi2 : (8 : Int) ≤ (i : Int) := by have := HN.out; omega
            go_wp2_with fail
            refine (segRead_any base BB st V1 own1 (.slice a7 n7 c7) ((Sr.L cs i).map Prod.fst) wr HRW.out.ok HES.out HRW.out.base HSM.out HRW.out.r7.ints (by rw [List.length_map, Sr.L_len]; omega)).mono ?_
            rintro e w6 ⟨hb6, lv, ps, rfl, hEN, hps⟩
            rw [show Sg.read st ((Sr.L cs i).map Prod.fst) = (Sr.ents (Sr.L cs i), true, 0) from HRW.out.rep.read] at hps ⊢
            obtain rfl : n8 = ps.length := by rw [HN8.out, List.length_map, ← (show ps.map (·.1) = Sr.ents (Sr.L cs i) from hps), List.length_map]
            obtain ⟨la, lc, rfl⟩ := row_any hEN.row
            have HPS := Lib.hid hps
            have HEN := Lib.hid hEN
            have HR6 := Lib.hid (HRW.out.below hb6)
            have HB6 := Lib.hid (HBR.out.trans (hb6.mono HBR.out.size))
            have hpl : ps.length ≤ 1000 := by
              have h1 := Sr.ents_len cs i
              have h2 : ps.length = (Sr.ents (Sr.L cs i)).length := by rw [← (show ps.map (·.1) = Sr.ents (Sr.L cs i) from hps), List.length_map]
              omega
            clear hps hEN hb6 HSM
            go_wp2_with fail
            go_loopg [105] ps.length (fun k s105 wq => ∃ j : Nat, j ≤ ps.length ∧ k = ps.length - j ∧ s105 = .int .i64 (j : Nat) ∧ RW base BB st V1 own1 (Sr.L cs i) ((Sr.L cs i).map Prod.fst) ((Sr.ents (Sr.L cs i)).map Prod.fst) (.slice a7 n7 c7) (.slice a8 ps.length c8) wq ∧ EnAt wq wr.heap.size (.slice la ps.length lc) ps ∧ Below w.heap.size w wq)
            case atStart => exact ⟨0, Nat.zero_le _, rfl, rfl, HR6.out, HEN.out, HB6.out⟩
            case round =>
              obtain ⟨j, hj, hkj, rfl, hRj, hEj, hbj⟩ := hrel
              have HKJ := Lib.hid hkj
              have HRJ := Lib.hid hRj
              have HEJ := Lib.hid hEj
              have HBJ := Lib.hid hbj
              clear hkj hRj hEj hbj
              have hj0 : (0 : Int) ≤ (j : Int) := Int.natCast_nonneg _
              by_cases hjl : j < ps.length
              · obtain ⟨p, hp⟩ : ∃ p, ps[j]? = some p := ⟨_, List.getElem?_eq_getElem hjl⟩
                obtain ⟨g6, c6, hv6⟩ := row_form HEJ.out.row (by omega)
                simp only [Value.slice.injEq] at hv6
                obtain ⟨rfl, -, rfl⟩ := hv6
                obtain ⟨⟨sg, kd, pl⟩, pv⟩ := p
                have hent : (Sr.ents (Sr.L cs i))[j]? = some (sg, kd, pl) := by rw [← HPS.out, List.getElem?_map, hp]; rfl
                obtain ⟨hp2, x1, hx1, hkd⟩ := Sr.ents_prop cs i _ (List.mem_of_getElem? hent)
                simp only at hp2 hx1 hkd
                obtain ⟨k0, k1, k2⟩ := HEJ.out.at (i := j) hp
                simp only at k0 k1 k2
                obtain ⟨pa, pn, pc, hpv, HPN⟩ := OwnB.form3 (HEJ.out.pay _ (List.mem_of_getElem? hp))
                simp only at hpv HPN
                subst hpv
                obtain rfl : pn = 2 := by rw [HPN.out]; exact hp2
                obtain ⟨pb, po, rfl, -, kb⟩ := Byts.at2 (OwnB.byts (HEJ.out.pay _ (List.mem_of_getElem? hp))) (i := 1) (x := x1) hx1
                obtain ⟨wa, wc, hwv, hws⟩ := HRJ.out.r8.ints
                obtain ⟨wb, wo, hwe, -, kw⟩ := hws j sg (by rw [List.getElem?_map, hent]; rfl)
                simp only [Value.slice.injEq] at hwv
                obtain ⟨rfl, -, rfl⟩ := hwv
                subst hwe
                have hx0 : (0 : Int) ≤ (x1.toNat : Int) := Int.natCast_nonneg _
                have hx2 : (x1.toNat : Int) ≤ 255 := by have := UInt8.toNat_lt x1; omega
                subst hkd
                have hjl1 : (j : Int) < (ps.length : Int) := by omega
                have e1 : (sg != sg) = false := by simp
                have e2 : (((x1.toNat : Int) + 1) != ((x1.toNat : Int) + 1)) = false := by simp
                clear hent hx1 hws hp hp2 HPN
                go_wp2_with fail
                refine wp_region_cuts [] (by kernel_rfl) (by kernel_rfl) ?_; simp only [wpMix, List.take_succ_cons, List.take_zero, List.drop_succ_cons, List.drop_zero, Nat.sub_zero, Nat.reduceSub, Nat.reduceAdd]
                repeat (go_big_quiet_step (fail))
                refine wpQuiet_nil ?_; rintro _ ⟨nq, rfl⟩
                go_wp2_with fail
                go_roundg (ps.length - (j + 1))
                case measure => rw [HKJ.out]; omega
                case rel =>
                  have hbn : Below wr.heap.size wr (wr.drewN nq) := Below.drewN (Below.refl _ _) _
                  exact ⟨j + 1, by omega, rfl, by simp, HRJ.out.below hbn, HEJ.out.keep hbn, Below.drewN HBJ.out _⟩
              · have hjl1 : (ps.length : Int) ≤ (j : Int) := by omega
                obtain rfl : n7 = i := by rw [HN7.out, List.length_map, Sr.L_len]
                by_cases hz : n7 = 0
                · subst hz
                  go_wp2_with fail
                  go_ret
                  exact ⟨rfl, HBJ.out⟩
                · obtain ⟨q, rfl⟩ : ∃ q, n7 = q + 1 := ⟨n7 - 1, by omega⟩
                  have hq0 : (0 : Int) ≤ (q : Int) := Int.natCast_nonneg _
                  have hq7 : (q : Int) ≤ 7 := by omega
                  have hqz : ((q : Int) + 1 == 0) = false := by rw [beq_eq_false_iff_ne]; omega
                  obtain ⟨ia, ic, hiv, his⟩ := HRJ.out.r7.ints
                  obtain ⟨ib, io, hie, -, ki⟩ := his q (3 * (q : Int) + 1) (by rw [Sr.L_succ, List.map_append, List.getElem?_append_right (by rw [List.length_map, Sr.L_len]; omega), List.length_map, Sr.L_len, Nat.sub_self]; rfl)
                  simp only [Value.slice.injEq] at hiv
                  obtain ⟨rfl, -, rfl⟩ := hiv
                  subst hie
                  clear his hz
                  have HSJ := Lib.hid (HRJ.out.rep.rep.small (by unfold Sg.segs; rw [List.length_map, Sr.L_len]; omega) (by rw [HRJ.out.chg]; simp) (Sr.L_flat cs (q + 1)) (by rw [HRJ.out.room]; omega))
                  go_wp2_with fail
                  refine (name_any (3 * (q : Int) + 1) wr B (HE.out.below (HBJ.out.mono hB))).mono ?_
                  rintro e w7 ⟨rfl, hb7⟩
                  rw [Sr.nameE_id q (by omega)]
                  obtain ⟨sn, hsn⟩ : ∃ t : ByteArray, t = ⟨(Sg.nameB (3 * (q : Int) + 1)).toArray⟩ := ⟨_, rfl⟩
                  have hsz : sn.size ≤ 25 := by rw [hsn]; exact nameSz _
                  have HSN : Hid (sn.data.toList = Sg.nameB (3 * (q : Int) + 1)) := by rw [hsn]; exact Lib.hid rfl
                  rw [← hsn]
                  have hbl : Below w7.heap.size w7 (w7.alloc (.cells #[.int .u8 255, .int .u8 255, .int .u8 255, .int .u8 255] 5)) := (Below.refl _ _).alloc (Nat.le_refl _) _
                  have HBL := Lib.hid (hb7.trans (hbl.mono hb7.size))
                  have HRL := Lib.hid ((HRJ.out.below hb7).below hbl)
                  have HB7 := Lib.hid ((HBJ.out.trans (hb7.mono HBJ.out.size)).trans (hbl.mono (Nat.le_trans HBJ.out.size hb7.size)))
                  have hbw7 := HRL.out.base
                  have HR7 := Lib.hid (HRJ.out.below hb7)
                  have HBL7 := Lib.hid hbl
                  have HBW7 := Lib.hid (HBJ.out.trans (hb7.mono HBJ.out.size))
                  have hlw7 : w7.heap.size ≤ (w7.alloc (.cells #[.int .u8 255, .int .u8 255, .int .u8 255, .int .u8 255] 5)).heap.size := hbl.size
                  have HLIT : Hid ((w7.alloc (.cells #[.int .u8 255, .int .u8 255, .int .u8 255, .int .u8 255] 5)).ownsRow w7.heap.size 5 1 (.slice (some ⟨w7.heap.size, 0, none⟩) 4 4) 4 (u8Cells [255, 255, 255, 255])) :=
                    Lib.hid (World.ownsRow_lit w7 #[.int .u8 255, .int .u8 255, .int .u8 255, .int .u8 255] 4 (Nat.le_refl _) (by unfold maxLen; omega) rfl)
                  have HT1 := Lib.hid (H1.out.below (HB7.out.mono (Nat.le_refl _)))
                  have HF7 := Lib.hid (fun g (hg : w7.heap.size ≤ g) => HRJ.out.ok.fresh g (Nat.le_trans hb7.size hg))
                  clear hsn hb7 hbl
                  cases ta with
                  | none =>
                    obtain rfl : tl = [] := by
                      cases tl with
                      | nil => rfl
                      | cons x r =>
                        obtain ⟨_, _, e, _⟩ := H1.out.at2 (i := 0) (x := x) rfl
                        cases e
                    obtain rfl : tc = 0 := by
                      obtain ⟨_, _, e, _, h0⟩ := H1.out.form2
                      simp only [Value.slice.injEq] at e
                      rw [e.2.2]
                      exact h0 e.1.symm
                    have HBI : Hid (BytesIn (w7.alloc (.cells #[.int .u8 255, .int .u8 255, .int .u8 255, .int .u8 255] 5)) own1 (.slice (some ⟨w7.heap.size, 0, none⟩) 4 4) [255, 255, 255, 255]) :=
                      Lib.hid ⟨w7.heap.size, 0, 4, rfl, by simp, HF7.out _ (Nat.le_refl _), fun j x hj => by
                        obtain ⟨_, _, e, _, hx⟩ := OwnB.byts (l := [255, 255, 255, 255]) HLIT.out |>.at2 hj
                        cases e
                        exact hx⟩
                    have HR8 := HRL
                    have HB8 := HB7
                    go_wp2_with fail
                    have HTL : Hid ((Fs.append st (Sg.nameB (3 * (q : Int) + 1)) ([255, 255, 255, 255] ++ [])).2 = 0 ∧ Sg.read (Fs.append st (Sg.nameB (3 * (q : Int) + 1)) ([255, 255, 255, 255] ++ [])).1 ((Sr.L cs (q + 1)).map (·.1)) = (Sr.ents (Sr.L cs (q + 1)), false, 0) ∧
                        Fs.Small (Fs.append st (Sg.nameB (3 * (q : Int) + 1)) ([255, 255, 255, 255] ++ [])).1) := by
                      have h0 : Sg.RepS st (Sr.L cs q ++ [Sr.sgm cs q]) := by rw [← Sr.L_succ]; exact HRJ.out.rep
                      have hc4 := Sr.c_le cs q
                      have hfl : (Fr.flat (Sr.sgm cs q).2).length ≤ 44 := by
                        show (Fr.flat (Sr.frs q (Sr.c cs q))).length ≤ 44
                        rw [Sr.flat_frs]
                        omega
                      have hsz2 : Sg.size (Sr.L cs q ++ [Sr.sgm cs q]) ≤ 44 * (q + 1) := by rw [← Sr.L_succ]; exact Sr.size_L cs (q + 1)
                      have htl : ([255, 255, 255, 255] ++ [] : List UInt8).length ≤ 304 := by simp; try omega
                      obtain ⟨g1, g2, g3, g4, g5⟩ := h0.tail (b := [255, 255, 255, 255] ++ []) (Fr.stop_ones []) (by simp) (by omega) (by rw [HRJ.out.room]; omega)
                      refine Lib.hid ⟨g1, by rw [Sr.L_succ]; exact g2, ?_⟩
                      refine g5.small (by rw [List.length_set]; unfold Sg.segs; rw [List.length_map, List.length_append, Sr.L_len]; simp; omega) (by rw [g4, HRJ.out.chg]; simp) (fun x hx => ?_) (by rw [g3, HRJ.out.room]; omega)
                      rcases List.mem_or_eq_of_mem_set hx with hx | rfl
                      · rw [← Sr.L_succ] at hx
                        exact Sr.L_flat cs (q + 1) x hx
                      · show (Fr.flat (Sr.sgm cs q).2 ++ ([255, 255, 255, 255] ++ [])).length ≤ _
                        rw [List.length_append]
                        omega
                    refine (append_any base BB st V1 own1 sn (.slice (some ⟨w7.heap.size, 0, none⟩) 4 4) ([255, 255, 255, 255] ++ []) (w7.alloc (.cells #[.int .u8 255, .int .u8 255, .int .u8 255, .int .u8 255] 5)) HR8.out.ok HBI.out (by omega) HSJ.out.file (by simp; try omega) (by have := HSJ.out.dir; omega) (by have := HSJ.out.files; omega) HSJ.out.room HRJ.out.rep.rep.how HR8.out.base).mono ?_
                    rintro e w9 ⟨rfl, hp9⟩
                    rw [HSN.out] at hp9 ⊢
                    rw [HTL.out.1]
                    have hb9 := hp9.below0 HR8.out.ok HR8.out.base
                    obtain ⟨V9, own9, h9, ho9, hk9⟩ := hp9
                    obtain ⟨st9, hst9⟩ : ∃ s, s = (Fs.append st (Sg.nameB (3 * (q : Int) + 1)) ([255, 255, 255, 255] ++ [])).1 := ⟨_, rfl⟩
                    have HRD9 := Lib.hid HTL.out.2.1
                    have HSM9 := Lib.hid HTL.out.2.2
                    rw [← hst9] at h9 HRD9 HSM9
                    have hr9 : OwnI w9 base (.slice (some ⟨ib, io, none⟩) (q + 1) c7) ((Sr.L cs (q + 1)).map Prod.fst) := row_kept HR8.out.r7 (fun g hg => hk9.block g (HR8.out.r7.lt g hg).2 (by rw [HR8.out.t7 g hg]; simp))
                    have H9 := Lib.hid h9
                    have HI9 := Lib.hid hr9.ints
                    have HB9 := Lib.hid (HB8.out.trans (hb9.mono hw2))
                    have HE9 := Lib.hid ((HE.out.below (HB9.out.mono hB)).mono (Nat.le_trans hB hw2))
                    have hbw9 := Nat.le_trans HR8.out.base hb9.size
                    clear hb9 h9 ho9 hk9 hst9 hr9 HTL
                    go_wp2_with fail
                    refine (segRead_any base BB st9 V9 own9 (.slice (some ⟨ib, io, none⟩) (q + 1) c7) ((Sr.L cs (q + 1)).map Prod.fst) w9 H9.out HE9.out hbw9 HSM9.out HI9.out (by rw [List.length_map, Sr.L_len]; omega)).mono ?_
                    rintro e w10 ⟨hb10, lv2, ps2, rfl, hEN2, hps2⟩
                    rw [show Sg.read st9 ((Sr.L cs (q + 1)).map Prod.fst) = (Sr.ents (Sr.L cs (q + 1)), false, 0) from HRD9.out] at hps2 ⊢
                    obtain ⟨la2, lc2, rfl⟩ := row_any hEN2.row
                    obtain ⟨n2, hn2⟩ : ∃ n, n = ps2.length := ⟨_, rfl⟩
                    rw [← hn2]
                    obtain rfl : n2 = ps.length := by
                      have q1 := congrArg List.length hps2
                      have q2 := congrArg List.length HPS.out
                      rw [List.length_map] at q1 q2
                      rw [hn2, q1, q2]
                    have HB10 := Lib.hid (HB9.out.trans (hb10.mono HB9.out.size))
                    clear hn2 hb10 hEN2 hps2
                    go_wp2_with fail
                    go_ret
                    exact ⟨rfl, HB10.out⟩
                  | some ad =>
                    have HBY : Hid (∀ j u, (u8Cells tl)[j]? = some u → (w7.alloc (.cells #[.int .u8 255, .int .u8 255, .int .u8 255, .int .u8 255] 5)).cell? (ad.add j) = some u) := Lib.hid fun j u hj => by
                      unfold u8Cells at hj
                      rw [List.getElem?_map] at hj
                      obtain ⟨x, hx, rfl⟩ := Option.map_eq_some_iff.1 hj
                      obtain ⟨b, off, e, _, hc⟩ := HT1.out.at2 hx
                      cases e
                      rw [Addr.add]
                      by_cases h0 : j = 0
                      · subst h0; simpa using hc
                      · simpa [h0] using hc
                    go_wp2_with (first | (at_builtin; refine wpList_append_own_at _ rfl _ _ 32 rfl w7.heap.size 5 i1 (.int .u8 0) 1 1 Tryd.underlying32 hi1' hy0 hy1 hy2 rfl (by decide) (.slice (some ⟨w7.heap.size, 0, none⟩) 4 4) 4 (u8Cells [255, 255, 255, 255]) rfl HLIT.out ad tl.length tc (u8Cells tl) rfl (by rw [u8Cells_len]; omega) HBY.out (u8Cells_one tl) (by unfold maxLen; omega) (by omega) hlw7 ?_; intro d' w8 hown8 hgrow8 hnil8 hloc8; clear hnil8; have HROW := Lib.hid hown8; have HG8 := Lib.hid hgrow8; have HL8 := Lib.hid hloc8; obtain ⟨db, dc, rfl⟩ := row_form hown8 (by omega); clear hown8 hgrow8 hloc8) | fail)
                    have HBE := Lib.hid (below_grown HBL7.out hlw7 HLIT.out HG8.out)
                    have HR8 := Lib.hid (HR7.out.below HBE.out)
                    have HB8 := Lib.hid (HBW7.out.trans (HBE.out.mono HBW7.out.size))
                    have HBI : Hid (BytesIn w8 own1 (.slice (some ⟨db, 0, none⟩) (4 + tl.length) dc) ([255, 255, 255, 255] ++ tl)) :=
                      Lib.hid ⟨db, 0, dc, by rw [List.length_append]; rfl, (HROW.out.lt db rfl).2, HF7.out _ (HROW.out.lt db rfl).1, fun j x hj => by
                        have hown : OwnB w8 w7.heap.size (.slice (some ⟨db, 0, none⟩) (4 + tl.length) dc) ([255, 255, 255, 255] ++ tl) := by
                          unfold OwnB
                          have h1 : u8Cells ([255, 255, 255, 255] ++ tl) = u8Cells [255, 255, 255, 255] ++ u8Cells tl := by unfold u8Cells; rw [List.map_append]
                          rw [h1, List.length_append]
                          exact HROW.out
                        obtain ⟨_, _, e, _, hx⟩ := (OwnB.byts hown).at2 hj
                        cases e
                        exact hx⟩
                    have HTL : Hid ((Fs.append st (Sg.nameB (3 * (q : Int) + 1)) ([255, 255, 255, 255] ++ tl)).2 = 0 ∧ Sg.read (Fs.append st (Sg.nameB (3 * (q : Int) + 1)) ([255, 255, 255, 255] ++ tl)).1 ((Sr.L cs (q + 1)).map (·.1)) = (Sr.ents (Sr.L cs (q + 1)), false, 0) ∧
                        Fs.Small (Fs.append st (Sg.nameB (3 * (q : Int) + 1)) ([255, 255, 255, 255] ++ tl)).1) := by
                      have h0 : Sg.RepS st (Sr.L cs q ++ [Sr.sgm cs q]) := by rw [← Sr.L_succ]; exact HRJ.out.rep
                      have hc4 := Sr.c_le cs q
                      have hfl : (Fr.flat (Sr.sgm cs q).2).length ≤ 44 := by
                        show (Fr.flat (Sr.frs q (Sr.c cs q))).length ≤ 44
                        rw [Sr.flat_frs]
                        omega
                      have hsz2 : Sg.size (Sr.L cs q ++ [Sr.sgm cs q]) ≤ 44 * (q + 1) := by rw [← Sr.L_succ]; exact Sr.size_L cs (q + 1)
                      have htl : ([255, 255, 255, 255] ++ tl : List UInt8).length ≤ 304 := by simp; try omega
                      obtain ⟨g1, g2, g3, g4, g5⟩ := h0.tail (b := [255, 255, 255, 255] ++ tl) (Fr.stop_ones tl) (by simp) (by omega) (by rw [HRJ.out.room]; omega)
                      refine Lib.hid ⟨g1, by rw [Sr.L_succ]; exact g2, ?_⟩
                      refine g5.small (by rw [List.length_set]; unfold Sg.segs; rw [List.length_map, List.length_append, Sr.L_len]; simp; omega) (by rw [g4, HRJ.out.chg]; simp) (fun x hx => ?_) (by rw [g3, HRJ.out.room]; omega)
                      rcases List.mem_or_eq_of_mem_set hx with hx | rfl
                      · rw [← Sr.L_succ] at hx
                        exact Sr.L_flat cs (q + 1) x hx
                      · show (Fr.flat (Sr.sgm cs q).2 ++ ([255, 255, 255, 255] ++ tl)).length ≤ _
                        rw [List.length_append]
                        omega
                    refine (append_any base BB st V1 own1 sn (.slice (some ⟨db, 0, none⟩) (4 + tl.length) dc) ([255, 255, 255, 255] ++ tl) w8 HR8.out.ok HBI.out (by omega) HSJ.out.file (by simp; try omega) (by have := HSJ.out.dir; omega) (by have := HSJ.out.files; omega) HSJ.out.room HRJ.out.rep.rep.how HR8.out.base).mono ?_
                    rintro e w9 ⟨rfl, hp9⟩
                    rw [HSN.out] at hp9 ⊢
                    rw [HTL.out.1]
                    have hb9 := hp9.below0 HR8.out.ok HR8.out.base
                    obtain ⟨V9, own9, h9, ho9, hk9⟩ := hp9
                    obtain ⟨st9, hst9⟩ : ∃ s, s = (Fs.append st (Sg.nameB (3 * (q : Int) + 1)) ([255, 255, 255, 255] ++ tl)).1 := ⟨_, rfl⟩
                    have HRD9 := Lib.hid HTL.out.2.1
                    have HSM9 := Lib.hid HTL.out.2.2
                    rw [← hst9] at h9 HRD9 HSM9
                    have hr9 : OwnI w9 base (.slice (some ⟨ib, io, none⟩) (q + 1) c7) ((Sr.L cs (q + 1)).map Prod.fst) := row_kept HR8.out.r7 (fun g hg => hk9.block g (HR8.out.r7.lt g hg).2 (by rw [HR8.out.t7 g hg]; simp))
                    have H9 := Lib.hid h9
                    have HI9 := Lib.hid hr9.ints
                    have HB9 := Lib.hid (HB8.out.trans (hb9.mono hw2))
                    have HE9 := Lib.hid ((HE.out.below (HB9.out.mono hB)).mono (Nat.le_trans hB hw2))
                    have hbw9 := Nat.le_trans HR8.out.base hb9.size
                    clear hb9 h9 ho9 hk9 hst9 hr9 HTL
                    go_wp2_with fail
                    refine (segRead_any base BB st9 V9 own9 (.slice (some ⟨ib, io, none⟩) (q + 1) c7) ((Sr.L cs (q + 1)).map Prod.fst) w9 H9.out HE9.out hbw9 HSM9.out HI9.out (by rw [List.length_map, Sr.L_len]; omega)).mono ?_
                    rintro e w10 ⟨hb10, lv2, ps2, rfl, hEN2, hps2⟩
                    rw [show Sg.read st9 ((Sr.L cs (q + 1)).map Prod.fst) = (Sr.ents (Sr.L cs (q + 1)), false, 0) from HRD9.out] at hps2 ⊢
                    obtain ⟨la2, lc2, rfl⟩ := row_any hEN2.row
                    obtain ⟨n2, hn2⟩ : ∃ n, n = ps2.length := ⟨_, rfl⟩
                    rw [← hn2]
                    obtain rfl : n2 = ps.length := by
                      have q1 := congrArg List.length hps2
                      have q2 := congrArg List.length HPS.out
                      rw [List.length_map] at q1 q2
                      rw [hn2, q1, q2]
                    have HB10 := Lib.hid (HB9.out.trans (hb10.mono HB9.out.size))
                    clear hn2 hb10 hEN2 hps2
                    go_wp2_with fail
                    go_ret
                    exact ⟨rfl, HB10.out⟩
          · have hi1 : (cs.length : Int) ≤ (i : Int) := by omega
            go_wp2_with fail
            refine (segRead_any base BB st V1 own1 (.slice a7 n7 c7) ((Sr.L cs i).map Prod.fst) wr HRW.out.ok HES.out HRW.out.base HSM.out HRW.out.r7.ints (by rw [List.length_map, Sr.L_len]; omega)).mono ?_
            rintro e w6 ⟨hb6, lv, ps, rfl, hEN, hps⟩
            rw [show Sg.read st ((Sr.L cs i).map Prod.fst) = (Sr.ents (Sr.L cs i), true, 0) from HRW.out.rep.read] at hps ⊢
            obtain rfl : n8 = ps.length := by rw [HN8.out, List.length_map, ← (show ps.map (·.1) = Sr.ents (Sr.L cs i) from hps), List.length_map]
            obtain ⟨la, lc, rfl⟩ := row_any hEN.row
            have HPS := Lib.hid hps
            have HEN := Lib.hid hEN
            have HR6 := Lib.hid (HRW.out.below hb6)
            have HB6 := Lib.hid (HBR.out.trans (hb6.mono HBR.out.size))
            have hpl : ps.length ≤ 1000 := by
              have h1 := Sr.ents_len cs i
              have h2 : ps.length = (Sr.ents (Sr.L cs i)).length := by rw [← (show ps.map (·.1) = Sr.ents (Sr.L cs i) from hps), List.length_map]
              omega
            clear hps hEN hb6 HSM
            go_wp2_with fail
            go_loopg [105] ps.length (fun k s105 wq => ∃ j : Nat, j ≤ ps.length ∧ k = ps.length - j ∧ s105 = .int .i64 (j : Nat) ∧ RW base BB st V1 own1 (Sr.L cs i) ((Sr.L cs i).map Prod.fst) ((Sr.ents (Sr.L cs i)).map Prod.fst) (.slice a7 n7 c7) (.slice a8 ps.length c8) wq ∧ EnAt wq wr.heap.size (.slice la ps.length lc) ps ∧ Below w.heap.size w wq)
            case atStart => exact ⟨0, Nat.zero_le _, rfl, rfl, HR6.out, HEN.out, HB6.out⟩
            case round =>
              obtain ⟨j, hj, hkj, rfl, hRj, hEj, hbj⟩ := hrel
              have HKJ := Lib.hid hkj
              have HRJ := Lib.hid hRj
              have HEJ := Lib.hid hEj
              have HBJ := Lib.hid hbj
              clear hkj hRj hEj hbj
              have hj0 : (0 : Int) ≤ (j : Int) := Int.natCast_nonneg _
              by_cases hjl : j < ps.length
              · obtain ⟨p, hp⟩ : ∃ p, ps[j]? = some p := ⟨_, List.getElem?_eq_getElem hjl⟩
                obtain ⟨g6, c6, hv6⟩ := row_form HEJ.out.row (by omega)
                simp only [Value.slice.injEq] at hv6
                obtain ⟨rfl, -, rfl⟩ := hv6
                obtain ⟨⟨sg, kd, pl⟩, pv⟩ := p
                have hent : (Sr.ents (Sr.L cs i))[j]? = some (sg, kd, pl) := by rw [← HPS.out, List.getElem?_map, hp]; rfl
                obtain ⟨hp2, x1, hx1, hkd⟩ := Sr.ents_prop cs i _ (List.mem_of_getElem? hent)
                simp only at hp2 hx1 hkd
                obtain ⟨k0, k1, k2⟩ := HEJ.out.at (i := j) hp
                simp only at k0 k1 k2
                obtain ⟨pa, pn, pc, hpv, HPN⟩ := OwnB.form3 (HEJ.out.pay _ (List.mem_of_getElem? hp))
                simp only at hpv HPN
                subst hpv
                obtain rfl : pn = 2 := by rw [HPN.out]; exact hp2
                obtain ⟨pb, po, rfl, -, kb⟩ := Byts.at2 (OwnB.byts (HEJ.out.pay _ (List.mem_of_getElem? hp))) (i := 1) (x := x1) hx1
                obtain ⟨wa, wc, hwv, hws⟩ := HRJ.out.r8.ints
                obtain ⟨wb, wo, hwe, -, kw⟩ := hws j sg (by rw [List.getElem?_map, hent]; rfl)
                simp only [Value.slice.injEq] at hwv
                obtain ⟨rfl, -, rfl⟩ := hwv
                subst hwe
                have hx0 : (0 : Int) ≤ (x1.toNat : Int) := Int.natCast_nonneg _
                have hx2 : (x1.toNat : Int) ≤ 255 := by have := UInt8.toNat_lt x1; omega
                subst hkd
                have hjl1 : (j : Int) < (ps.length : Int) := by omega
                have e1 : (sg != sg) = false := by simp
                have e2 : (((x1.toNat : Int) + 1) != ((x1.toNat : Int) + 1)) = false := by simp
                clear hent hx1 hws hp hp2 HPN
                go_wp2_with fail
                refine wp_region_cuts [] (by kernel_rfl) (by kernel_rfl) ?_; simp only [wpMix, List.take_succ_cons, List.take_zero, List.drop_succ_cons, List.drop_zero, Nat.sub_zero, Nat.reduceSub, Nat.reduceAdd]
                repeat (go_big_quiet_step (fail))
                refine wpQuiet_nil ?_; rintro _ ⟨nq, rfl⟩
                go_wp2_with fail
                go_roundg (ps.length - (j + 1))
                case measure => rw [HKJ.out]; omega
                case rel =>
                  have hbn : Below wr.heap.size wr (wr.drewN nq) := Below.drewN (Below.refl _ _) _
                  exact ⟨j + 1, by omega, rfl, by simp, HRJ.out.below hbn, HEJ.out.keep hbn, Below.drewN HBJ.out _⟩
              · have hjl1 : (ps.length : Int) ≤ (j : Int) := by omega
                obtain rfl : n7 = i := by rw [HN7.out, List.length_map, Sr.L_len]
                by_cases hz : n7 = 0
                · subst hz
                  go_wp2_with fail
                  go_ret
                  exact ⟨rfl, HBJ.out⟩
                · obtain ⟨q, rfl⟩ : ∃ q, n7 = q + 1 := ⟨n7 - 1, by omega⟩
                  have hq0 : (0 : Int) ≤ (q : Int) := Int.natCast_nonneg _
                  have hq7 : (q : Int) ≤ 7 := by omega
                  have hqz : ((q : Int) + 1 == 0) = false := by rw [beq_eq_false_iff_ne]; omega
                  obtain ⟨ia, ic, hiv, his⟩ := HRJ.out.r7.ints
                  obtain ⟨ib, io, hie, -, ki⟩ := his q (3 * (q : Int) + 1) (by rw [Sr.L_succ, List.map_append, List.getElem?_append_right (by rw [List.length_map, Sr.L_len]; omega), List.length_map, Sr.L_len, Nat.sub_self]; rfl)
                  simp only [Value.slice.injEq] at hiv
                  obtain ⟨rfl, -, rfl⟩ := hiv
                  subst hie
                  clear his hz
                  have HSJ := Lib.hid (HRJ.out.rep.rep.small (by unfold Sg.segs; rw [List.length_map, Sr.L_len]; omega) (by rw [HRJ.out.chg]; simp) (Sr.L_flat cs (q + 1)) (by rw [HRJ.out.room]; omega))
                  go_wp2_with fail
                  refine (name_any (3 * (q : Int) + 1) wr B (HE.out.below (HBJ.out.mono hB))).mono ?_
                  rintro e w7 ⟨rfl, hb7⟩
                  rw [Sr.nameE_id q (by omega)]
                  obtain ⟨sn, hsn⟩ : ∃ t : ByteArray, t = ⟨(Sg.nameB (3 * (q : Int) + 1)).toArray⟩ := ⟨_, rfl⟩
                  have hsz : sn.size ≤ 25 := by rw [hsn]; exact nameSz _
                  have HSN : Hid (sn.data.toList = Sg.nameB (3 * (q : Int) + 1)) := by rw [hsn]; exact Lib.hid rfl
                  rw [← hsn]
                  have hbl : Below w7.heap.size w7 (w7.alloc (.cells #[.int .u8 255, .int .u8 255, .int .u8 255, .int .u8 255] 5)) := (Below.refl _ _).alloc (Nat.le_refl _) _
                  have HBL := Lib.hid (hb7.trans (hbl.mono hb7.size))
                  have HRL := Lib.hid ((HRJ.out.below hb7).below hbl)
                  have HB7 := Lib.hid ((HBJ.out.trans (hb7.mono HBJ.out.size)).trans (hbl.mono (Nat.le_trans HBJ.out.size hb7.size)))
                  have hbw7 := HRL.out.base
                  have HR7 := Lib.hid (HRJ.out.below hb7)
                  have HBL7 := Lib.hid hbl
                  have HBW7 := Lib.hid (HBJ.out.trans (hb7.mono HBJ.out.size))
                  have hlw7 : w7.heap.size ≤ (w7.alloc (.cells #[.int .u8 255, .int .u8 255, .int .u8 255, .int .u8 255] 5)).heap.size := hbl.size
                  have HLIT : Hid ((w7.alloc (.cells #[.int .u8 255, .int .u8 255, .int .u8 255, .int .u8 255] 5)).ownsRow w7.heap.size 5 1 (.slice (some ⟨w7.heap.size, 0, none⟩) 4 4) 4 (u8Cells [255, 255, 255, 255])) :=
                    Lib.hid (World.ownsRow_lit w7 #[.int .u8 255, .int .u8 255, .int .u8 255, .int .u8 255] 4 (Nat.le_refl _) (by unfold maxLen; omega) rfl)
                  have HT1 := Lib.hid (H1.out.below (HB7.out.mono (Nat.le_refl _)))
                  have HF7 := Lib.hid (fun g (hg : w7.heap.size ≤ g) => HRJ.out.ok.fresh g (Nat.le_trans hb7.size hg))
                  clear hsn hb7 hbl
                  cases ta with
                  | none =>
                    obtain rfl : tl = [] := by
                      cases tl with
                      | nil => rfl
                      | cons x r =>
                        obtain ⟨_, _, e, _⟩ := H1.out.at2 (i := 0) (x := x) rfl
                        cases e
                    obtain rfl : tc = 0 := by
                      obtain ⟨_, _, e, _, h0⟩ := H1.out.form2
                      simp only [Value.slice.injEq] at e
                      rw [e.2.2]
                      exact h0 e.1.symm
                    have HBI : Hid (BytesIn (w7.alloc (.cells #[.int .u8 255, .int .u8 255, .int .u8 255, .int .u8 255] 5)) own1 (.slice (some ⟨w7.heap.size, 0, none⟩) 4 4) [255, 255, 255, 255]) :=
                      Lib.hid ⟨w7.heap.size, 0, 4, rfl, by simp, HF7.out _ (Nat.le_refl _), fun j x hj => by
                        obtain ⟨_, _, e, _, hx⟩ := OwnB.byts (l := [255, 255, 255, 255]) HLIT.out |>.at2 hj
                        cases e
                        exact hx⟩
                    have HR8 := HRL
                    have HB8 := HB7
                    go_wp2_with fail
                    have HTL : Hid ((Fs.append st (Sg.nameB (3 * (q : Int) + 1)) ([255, 255, 255, 255] ++ [])).2 = 0 ∧ Sg.read (Fs.append st (Sg.nameB (3 * (q : Int) + 1)) ([255, 255, 255, 255] ++ [])).1 ((Sr.L cs (q + 1)).map (·.1)) = (Sr.ents (Sr.L cs (q + 1)), false, 0) ∧
                        Fs.Small (Fs.append st (Sg.nameB (3 * (q : Int) + 1)) ([255, 255, 255, 255] ++ [])).1) := by
                      have h0 : Sg.RepS st (Sr.L cs q ++ [Sr.sgm cs q]) := by rw [← Sr.L_succ]; exact HRJ.out.rep
                      have hc4 := Sr.c_le cs q
                      have hfl : (Fr.flat (Sr.sgm cs q).2).length ≤ 44 := by
                        show (Fr.flat (Sr.frs q (Sr.c cs q))).length ≤ 44
                        rw [Sr.flat_frs]
                        omega
                      have hsz2 : Sg.size (Sr.L cs q ++ [Sr.sgm cs q]) ≤ 44 * (q + 1) := by rw [← Sr.L_succ]; exact Sr.size_L cs (q + 1)
                      have htl : ([255, 255, 255, 255] ++ [] : List UInt8).length ≤ 304 := by simp; try omega
                      obtain ⟨g1, g2, g3, g4, g5⟩ := h0.tail (b := [255, 255, 255, 255] ++ []) (Fr.stop_ones []) (by simp) (by omega) (by rw [HRJ.out.room]; omega)
                      refine Lib.hid ⟨g1, by rw [Sr.L_succ]; exact g2, ?_⟩
                      refine g5.small (by rw [List.length_set]; unfold Sg.segs; rw [List.length_map, List.length_append, Sr.L_len]; simp; omega) (by rw [g4, HRJ.out.chg]; simp) (fun x hx => ?_) (by rw [g3, HRJ.out.room]; omega)
                      rcases List.mem_or_eq_of_mem_set hx with hx | rfl
                      · rw [← Sr.L_succ] at hx
                        exact Sr.L_flat cs (q + 1) x hx
                      · show (Fr.flat (Sr.sgm cs q).2 ++ ([255, 255, 255, 255] ++ [])).length ≤ _
                        rw [List.length_append]
                        omega
                    refine (append_any base BB st V1 own1 sn (.slice (some ⟨w7.heap.size, 0, none⟩) 4 4) ([255, 255, 255, 255] ++ []) (w7.alloc (.cells #[.int .u8 255, .int .u8 255, .int .u8 255, .int .u8 255] 5)) HR8.out.ok HBI.out (by omega) HSJ.out.file (by simp; try omega) (by have := HSJ.out.dir; omega) (by have := HSJ.out.files; omega) HSJ.out.room HRJ.out.rep.rep.how HR8.out.base).mono ?_
                    rintro e w9 ⟨rfl, hp9⟩
                    rw [HSN.out] at hp9 ⊢
                    rw [HTL.out.1]
                    have hb9 := hp9.below0 HR8.out.ok HR8.out.base
                    obtain ⟨V9, own9, h9, ho9, hk9⟩ := hp9
                    obtain ⟨st9, hst9⟩ : ∃ s, s = (Fs.append st (Sg.nameB (3 * (q : Int) + 1)) ([255, 255, 255, 255] ++ [])).1 := ⟨_, rfl⟩
                    have HRD9 := Lib.hid HTL.out.2.1
                    have HSM9 := Lib.hid HTL.out.2.2
                    rw [← hst9] at h9 HRD9 HSM9
                    have hr9 : OwnI w9 base (.slice (some ⟨ib, io, none⟩) (q + 1) c7) ((Sr.L cs (q + 1)).map Prod.fst) := row_kept HR8.out.r7 (fun g hg => hk9.block g (HR8.out.r7.lt g hg).2 (by rw [HR8.out.t7 g hg]; simp))
                    have H9 := Lib.hid h9
                    have HI9 := Lib.hid hr9.ints
                    have HB9 := Lib.hid (HB8.out.trans (hb9.mono hw2))
                    have HE9 := Lib.hid ((HE.out.below (HB9.out.mono hB)).mono (Nat.le_trans hB hw2))
                    have hbw9 := Nat.le_trans HR8.out.base hb9.size
                    clear hb9 h9 ho9 hk9 hst9 hr9 HTL
                    go_wp2_with fail
                    refine (segRead_any base BB st9 V9 own9 (.slice (some ⟨ib, io, none⟩) (q + 1) c7) ((Sr.L cs (q + 1)).map Prod.fst) w9 H9.out HE9.out hbw9 HSM9.out HI9.out (by rw [List.length_map, Sr.L_len]; omega)).mono ?_
                    rintro e w10 ⟨hb10, lv2, ps2, rfl, hEN2, hps2⟩
                    rw [show Sg.read st9 ((Sr.L cs (q + 1)).map Prod.fst) = (Sr.ents (Sr.L cs (q + 1)), false, 0) from HRD9.out] at hps2 ⊢
                    obtain ⟨la2, lc2, rfl⟩ := row_any hEN2.row
                    obtain ⟨n2, hn2⟩ : ∃ n, n = ps2.length := ⟨_, rfl⟩
                    rw [← hn2]
                    obtain rfl : n2 = ps.length := by
                      have q1 := congrArg List.length hps2
                      have q2 := congrArg List.length HPS.out
                      rw [List.length_map] at q1 q2
                      rw [hn2, q1, q2]
                    have HB10 := Lib.hid (HB9.out.trans (hb10.mono HB9.out.size))
                    clear hn2 hb10 hEN2 hps2
                    go_wp2_with fail
                    go_ret
                    exact ⟨rfl, HB10.out⟩
                  | some ad =>
                    have HBY : Hid (∀ j u, (u8Cells tl)[j]? = some u → (w7.alloc (.cells #[.int .u8 255, .int .u8 255, .int .u8 255, .int .u8 255] 5)).cell? (ad.add j) = some u) := Lib.hid fun j u hj => by
                      unfold u8Cells at hj
                      rw [List.getElem?_map] at hj
                      obtain ⟨x, hx, rfl⟩ := Option.map_eq_some_iff.1 hj
                      obtain ⟨b, off, e, _, hc⟩ := HT1.out.at2 hx
                      cases e
                      rw [Addr.add]
                      by_cases h0 : j = 0
                      · subst h0; simpa using hc
                      · simpa [h0] using hc
                    go_wp2_with (first | (at_builtin; refine wpList_append_own_at _ rfl _ _ 32 rfl w7.heap.size 5 i1 (.int .u8 0) 1 1 Tryd.underlying32 hi1' hy0 hy1 hy2 rfl (by decide) (.slice (some ⟨w7.heap.size, 0, none⟩) 4 4) 4 (u8Cells [255, 255, 255, 255]) rfl HLIT.out ad tl.length tc (u8Cells tl) rfl (by rw [u8Cells_len]; omega) HBY.out (u8Cells_one tl) (by unfold maxLen; omega) (by omega) hlw7 ?_; intro d' w8 hown8 hgrow8 hnil8 hloc8; clear hnil8; have HROW := Lib.hid hown8; have HG8 := Lib.hid hgrow8; have HL8 := Lib.hid hloc8; obtain ⟨db, dc, rfl⟩ := row_form hown8 (by omega); clear hown8 hgrow8 hloc8) | fail)
                    have HBE := Lib.hid (below_grown HBL7.out hlw7 HLIT.out HG8.out)
                    have HR8 := Lib.hid (HR7.out.below HBE.out)
                    have HB8 := Lib.hid (HBW7.out.trans (HBE.out.mono HBW7.out.size))
                    have HBI : Hid (BytesIn w8 own1 (.slice (some ⟨db, 0, none⟩) (4 + tl.length) dc) ([255, 255, 255, 255] ++ tl)) :=
                      Lib.hid ⟨db, 0, dc, by rw [List.length_append]; rfl, (HROW.out.lt db rfl).2, HF7.out _ (HROW.out.lt db rfl).1, fun j x hj => by
                        have hown : OwnB w8 w7.heap.size (.slice (some ⟨db, 0, none⟩) (4 + tl.length) dc) ([255, 255, 255, 255] ++ tl) := by
                          unfold OwnB
                          have h1 : u8Cells ([255, 255, 255, 255] ++ tl) = u8Cells [255, 255, 255, 255] ++ u8Cells tl := by unfold u8Cells; rw [List.map_append]
                          rw [h1, List.length_append]
                          exact HROW.out
                        obtain ⟨_, _, e, _, hx⟩ := (OwnB.byts hown).at2 hj
                        cases e
                        exact hx⟩
                    have HTL : Hid ((Fs.append st (Sg.nameB (3 * (q : Int) + 1)) ([255, 255, 255, 255] ++ tl)).2 = 0 ∧ Sg.read (Fs.append st (Sg.nameB (3 * (q : Int) + 1)) ([255, 255, 255, 255] ++ tl)).1 ((Sr.L cs (q + 1)).map (·.1)) = (Sr.ents (Sr.L cs (q + 1)), false, 0) ∧
                        Fs.Small (Fs.append st (Sg.nameB (3 * (q : Int) + 1)) ([255, 255, 255, 255] ++ tl)).1) := by
                      have h0 : Sg.RepS st (Sr.L cs q ++ [Sr.sgm cs q]) := by rw [← Sr.L_succ]; exact HRJ.out.rep
                      have hc4 := Sr.c_le cs q
                      have hfl : (Fr.flat (Sr.sgm cs q).2).length ≤ 44 := by
                        show (Fr.flat (Sr.frs q (Sr.c cs q))).length ≤ 44
                        rw [Sr.flat_frs]
                        omega
                      have hsz2 : Sg.size (Sr.L cs q ++ [Sr.sgm cs q]) ≤ 44 * (q + 1) := by rw [← Sr.L_succ]; exact Sr.size_L cs (q + 1)
                      have htl : ([255, 255, 255, 255] ++ tl : List UInt8).length ≤ 304 := by simp; try omega
                      obtain ⟨g1, g2, g3, g4, g5⟩ := h0.tail (b := [255, 255, 255, 255] ++ tl) (Fr.stop_ones tl) (by simp) (by omega) (by rw [HRJ.out.room]; omega)
                      refine Lib.hid ⟨g1, by rw [Sr.L_succ]; exact g2, ?_⟩
                      refine g5.small (by rw [List.length_set]; unfold Sg.segs; rw [List.length_map, List.length_append, Sr.L_len]; simp; omega) (by rw [g4, HRJ.out.chg]; simp) (fun x hx => ?_) (by rw [g3, HRJ.out.room]; omega)
                      rcases List.mem_or_eq_of_mem_set hx with hx | rfl
                      · rw [← Sr.L_succ] at hx
                        exact Sr.L_flat cs (q + 1) x hx
                      · show (Fr.flat (Sr.sgm cs q).2 ++ ([255, 255, 255, 255] ++ tl)).length ≤ _
                        rw [List.length_append]
                        omega
                    refine (append_any base BB st V1 own1 sn (.slice (some ⟨db, 0, none⟩) (4 + tl.length) dc) ([255, 255, 255, 255] ++ tl) w8 HR8.out.ok HBI.out (by omega) HSJ.out.file (by simp; try omega) (by have := HSJ.out.dir; omega) (by have := HSJ.out.files; omega) HSJ.out.room HRJ.out.rep.rep.how HR8.out.base).mono ?_
                    rintro e w9 ⟨rfl, hp9⟩
                    rw [HSN.out] at hp9 ⊢
                    rw [HTL.out.1]
                    have hb9 := hp9.below0 HR8.out.ok HR8.out.base
                    obtain ⟨V9, own9, h9, ho9, hk9⟩ := hp9
                    obtain ⟨st9, hst9⟩ : ∃ s, s = (Fs.append st (Sg.nameB (3 * (q : Int) + 1)) ([255, 255, 255, 255] ++ tl)).1 := ⟨_, rfl⟩
                    have HRD9 := Lib.hid HTL.out.2.1
                    have HSM9 := Lib.hid HTL.out.2.2
                    rw [← hst9] at h9 HRD9 HSM9
                    have hr9 : OwnI w9 base (.slice (some ⟨ib, io, none⟩) (q + 1) c7) ((Sr.L cs (q + 1)).map Prod.fst) := row_kept HR8.out.r7 (fun g hg => hk9.block g (HR8.out.r7.lt g hg).2 (by rw [HR8.out.t7 g hg]; simp))
                    have H9 := Lib.hid h9
                    have HI9 := Lib.hid hr9.ints
                    have HB9 := Lib.hid (HB8.out.trans (hb9.mono hw2))
                    have HE9 := Lib.hid ((HE.out.below (HB9.out.mono hB)).mono (Nat.le_trans hB hw2))
                    have hbw9 := Nat.le_trans HR8.out.base hb9.size
                    clear hb9 h9 ho9 hk9 hst9 hr9 HTL
                    go_wp2_with fail
                    refine (segRead_any base BB st9 V9 own9 (.slice (some ⟨ib, io, none⟩) (q + 1) c7) ((Sr.L cs (q + 1)).map Prod.fst) w9 H9.out HE9.out hbw9 HSM9.out HI9.out (by rw [List.length_map, Sr.L_len]; omega)).mono ?_
                    rintro e w10 ⟨hb10, lv2, ps2, rfl, hEN2, hps2⟩
                    rw [show Sg.read st9 ((Sr.L cs (q + 1)).map Prod.fst) = (Sr.ents (Sr.L cs (q + 1)), false, 0) from HRD9.out] at hps2 ⊢
                    obtain ⟨la2, lc2, rfl⟩ := row_any hEN2.row
                    obtain ⟨n2, hn2⟩ : ∃ n, n = ps2.length := ⟨_, rfl⟩
                    rw [← hn2]
                    obtain rfl : n2 = ps.length := by
                      have q1 := congrArg List.length hps2
                      have q2 := congrArg List.length HPS.out
                      rw [List.length_map] at q1 q2
                      rw [hn2, q1, q2]
                    have HB10 := Lib.hid (HB9.out.trans (hb10.mono HB9.out.size))
                    clear hn2 hb10 hEN2 hps2
                    go_wp2_with fail
                    go_ret
                    exact ⟨rfl, HB10.out⟩
end Go.Proofs.YtcimobbppmpmgaaDoor
