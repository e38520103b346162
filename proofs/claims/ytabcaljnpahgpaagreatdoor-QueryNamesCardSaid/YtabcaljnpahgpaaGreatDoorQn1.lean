/-
  'QueryNames', walked.
-/
import Derived.Test.YtabcaljnpahgpaaGreatDoorQn
import Derived.Test.YtabcaljnpahgpaaGreatDoorFd
namespace Go.Proofs.YtabcaljnpahgpaaGreatDoor
set_option linter.unusedSimpArgs false
set_option linter.unusedVariables false
open Go Go.RowKit

theorem txts_below {B : Nat} {w w' : World} {v : Value} {ls : List (List UInt8)} (h : Txts w v ls) (hv : ∀ k, v.ownBlock = some k → k < B) (hb : Below B w w') : Txts w' v ls := by
  obtain ⟨a, c, rfl, hx⟩ := h
  refine ⟨a, c, rfl, fun i s hi => ?_⟩
  obtain ⟨b, o, ha, hl, hc⟩ := hx i s hi
  have hbB : b < B := hv b (by subst ha; simp [Value.ownBlock])
  exact ⟨b, o, ha, Nat.lt_of_lt_of_le hl hb.size, (hb.cell (p := ⟨b, o + i, none⟩) hbB).trans hc⟩
theorem own_lt {w : World} {base k n : Nat} {E : TypeId} {v : Value} {xs : List Value} (h : w.ownsRow base E k v n xs) : ∀ b, v.ownBlock = some b → base ≤ b ∧ b < w.heap.size := fun b hb => by
  have := h.lt b hb
  exact ⟨this.1, this.2⟩
/-- The row that was told, whatever is put into it. -/
def Open8 (w : World) (lo n : Nat) (p : Option Addr) : Prop := n = 0 ∨ ∃ g cur T, p = some ⟨g, 0, none⟩ ∧ lo ≤ g ∧ w.heap[g]? = some (.cells cur T (0, 0)) ∧ n ≤ cur.size
theorem open8_of {w : World} {base n : Nat} {E : TypeId} {p : Option Addr} {m c : Nat} {xs : List Value} (h : w.ownsRow base E 1 (.slice p m c) n xs) : Open8 w base n p := by
  rcases h.2 with ⟨h4, h5⟩ | ⟨g, cap, cur, hv, hg, hc, h6, -, h7, -⟩
  · exact .inl h5
  · simp only [Value.slice.injEq] at hv
    obtain ⟨rfl, -, -⟩ := hv
    exact .inr ⟨g, cur, E, rfl, hg, hc, by omega⟩
theorem texts_same {w : World} {va vb : Value} {l : List (List UInt8)} (ha : Txts w va l) (hb : Txts w vb l) (hl : l.length ≤ 1000000) :
    Calls Tryz.prog 21 #[va, vb] w fun r w' => r = .returned (.bool true) ∧ ∃ n, w' = w.drewN n :=
  (texts_any w va vb l l ha hb hl).mono (by
    rintro e w' ⟨rfl, h⟩
    exact ⟨by simp, h⟩)
set_option maxHeartbeats 8000000 in
set_option maxRecDepth 100000 in
theorem qnames_law (x : Dq.Doc) (hfit : x.fits) (a1 a2 : Option Addr) (c1 c2 : Nat) (w : World) (hE : Env w) (h3 : 3 ≤ w.heap.size) (hR : Reads w (fun _ => True) x.d [.slice a1 x.ops.length c1, .slice a2 x.frags.length c2]) :
    Calls Tryz.prog 5 #[.agg #[.slice a1 x.ops.length c1, .slice a2 x.frags.length c2]] w (fun e w' => e = .returned (.bool true) ∧ Below w.heap.size w w') := by
  obtain ⟨i0, hi, hz0, hz1, hz2⟩ := info_parts infoStr
  obtain ⟨wb, hwb⟩ : ∃ q, q = w.alloc (.cells #[.slice a1 x.ops.length c1, .slice a2 x.frags.length c2] 43) := ⟨_, rfl⟩
  have hbb : Below w.heap.size w wb := by rw [hwb]; exact (Below.refl _ _).alloc (Nat.le_refl _) _
  have hxb : wb.heap[w.heap.size]? = some (.cells #[.slice a1 x.ops.length c1, .slice a2 x.frags.length c2] 43 (0, 0)) := by rw [hwb]; exact heap_at_new _ _
  have hsb : wb.heap.size = w.heap.size + 1 := by rw [hwb]; simp
  have HBB := Lib.hid hbb
  have HRB := Lib.hid (hR.to (Stands.below hbb))
  have HXB := Lib.hid hxb
  have hC0 := qrAwake_any wb (hE.below hbb) (by omega)
  rw [hwb] at hC0
  have HC0 := Lib.hid hC0
  have HWB := Lib.hid hwb
  have HFIT := Lib.hid hfit
  clear hC0 hwb hbb hxb hE hR hfit
  go_enter Tryz.func5, Tryz.ntmps5
  go_wp2_with fail
  refine HC0.out.mono ?_
  rw [← HWB.out]
  rintro e w1 ⟨rfl, hb1, hE1⟩
  have HB1 := Lib.hid (HBB.out.trans (hb1.mono HBB.out.size))
  have HE1 := Lib.hid hE1
  have HR1 := Lib.hid (HRB.out.to (Stands.below hb1))
  have HX1 : Hid (w1.heap[w.heap.size]? = _) := Lib.hid ((hb1.block w.heap.size (by omega)).trans HXB.out)
  have hs1 := hb1.size
  have HFEW := Lib.hid (dqFew_any x HFIT.out a1 a2 c1 c2 w1 HR1.out)
  have k0 := blk_cell HX1.out 0 (.slice a1 x.ops.length c1) rfl
  have k1 := blk_cell HX1.out 1 (.slice a2 x.frags.length c2) rfl
  clear hb1 hE1 HC0
  go_wp2_with fail
  refine HFEW.out.mono ?_
  rintro e w2 ⟨b, rfl, hb2, hf⟩
  have HB2 := Lib.hid (HB1.out.trans (hb2.mono HB1.out.size))
  have HE2 := Lib.hid (HE1.out.below hb2)
  have HR2 := Lib.hid (HR1.out.to (Stands.below hb2))
  have HX2 : Hid (w2.heap[w.heap.size]? = _) := Lib.hid ((hb2.block w.heap.size (by omega)).trans HX1.out)
  have hs2 := hb2.size
  have HF := Lib.hid hf
  clear hb2 hf k0 k1 HFEW
  cases b
  · go_wp2_with fail
    refine (qrAwake_any w2 HE2.out (by omega)).mono ?_
    rintro e w3 ⟨rfl, hb3, hE3⟩
    have HB3 := Lib.hid (HB2.out.trans (hb3.mono HB2.out.size))
    clear hb3 hE3
    go_wp2_with fail
    go_ret
    exact ⟨rfl, HB3.out⟩
  have hlo : x.ops.length ≤ 100 := (HF.out (by trivial)).1.1
  obtain ⟨y1, y2, y3, y4, ey, hro, -⟩ := Dq.Doc.opened HR2.out
  obtain ⟨rfl, rfl, rfl, rfl⟩ : a1 = y1 ∧ c1 = y3 ∧ a2 = y2 ∧ c2 = y4 := by simpa [and_assoc] using ey
  have HRO := Lib.hid hro
  have z0 := blk_cell HX2.out 0 (.slice a1 x.ops.length c1) rfl
  clear ey hro HF
  go_wp2_with fail
  clear z0
  go_loopg [3, 19] (x.ops.length + 1) (fun k s i wr => ∃ (j m : Nat) (va : Option Addr) (vc : Nat), k = x.ops.length + 1 - j ∧ j ≤ x.ops.length ∧ i = .int .i64 j ∧ s = .slice va m vc ∧ m = (Dq.names (x.ops.take j)).length ∧ wr.ownsRow w2.heap.size 9 1 (.slice va m vc) m (strCells (Dq.names (x.ops.take j))) ∧ Below w2.heap.size w2 wr)
  case atStart => exact ⟨0, 0, none, 0, rfl, Nat.zero_le _, rfl, rfl, rfl, World.ownsRow_nil _ _ _ _, Below.refl _ _⟩
  case round =>
    obtain ⟨j, m, va, vc, hk, hj, rfl, rfl, hm, hrow, hbel⟩ := hrel
    have HK := Lib.hid hk
    have HM := Lib.hid hm
    have HBE := Lib.hid hbel
    have hml : m ≤ j := by rw [hm]; exact Nat.le_trans (Dq.names_len _) (by simp; omega)
    have HROW0 := Lib.hid hrow
    clear hk hm hrow hbel
    by_cases hjl : j < x.ops.length
    · have e4 : decide (j < x.ops.length) = true := decide_eq_true hjl
      obtain ⟨y, hx⟩ : ∃ z, x.ops[j]? = some z := ⟨x.ops[j], List.getElem?_eq_getElem hjl⟩
      have HTK : Hid (x.ops.take (j + 1) = x.ops.take j ++ [y]) := by
        rw [List.take_add_one, hx]; exact Lib.hid rfl
      obtain ⟨g, o, cs, ha, -, hgl, hlen, hcell, hd⟩ := HRO.out.el j y.d (by rw [List.getElem?_map, hx]; rfl)
      obtain ⟨s1, s2, s3, u1, u2, u3, rfl, -⟩ := Dq.Op.opened hd
      subst ha
      have k0 : wr.cell? ⟨g, o + j * 6, none⟩ = _ := (HBE.out.cell (p := ⟨g, o + j * 6, none⟩) hgl).trans (hcell 0 _ rfl)
      have k1 : wr.cell? ⟨g, o + j * 6 + 1, none⟩ = _ := (HBE.out.cell (p := ⟨g, o + j * 6 + 1, none⟩) hgl).trans (hcell 1 _ rfl)
      have k2 : wr.cell? ⟨g, o + j * 6 + 2, none⟩ = _ := (HBE.out.cell (p := ⟨g, o + j * 6 + 2, none⟩) hgl).trans (hcell 2 _ rfl)
      have k3 : wr.cell? ⟨g, o + j * 6 + 3, none⟩ = _ := (HBE.out.cell (p := ⟨g, o + j * 6 + 3, none⟩) hgl).trans (hcell 3 _ rfl)
      have k4 : wr.cell? ⟨g, o + j * 6 + 4, none⟩ = _ := (HBE.out.cell (p := ⟨g, o + j * 6 + 4, none⟩) hgl).trans (hcell 4 _ rfl)
      have k5 : wr.cell? ⟨g, o + j * 6 + 5, none⟩ = _ := (HBE.out.cell (p := ⟨g, o + j * 6 + 5, none⟩) hgl).trans (hcell 5 _ rfl)
      clear hx hlen hcell hd
      obtain ⟨nm, hnm⟩ : ∃ z, z = y.name := ⟨_, rfl⟩
      rw [← hnm] at k1
      have HNM := Lib.hid hnm
      clear hnm
      cases hem : nm with
      | nil =>
        subst hem
        go_wp2_with fail
        go_roundg (x.ops.length + 1 - (j + 1))
        case measure => rw [HK.out]; omega
        case rel =>
          have e : Dq.names (x.ops.take (j + 1)) = Dq.names (x.ops.take j) := by rw [HTK.out, Dq.names_snoc, ← HNM.out]; rfl
          exact ⟨j + 1, m, va, vc, rfl, hjl, by go_num, rfl, by rw [e]; exact HM.out, by rw [e]; exact HROW0.out.alloc _, HBE.out.alloc HBE.out.size _⟩
      | cons ch tl =>
        subst hem
        have hne : (ch :: tl : List UInt8) = [] ↔ False := by simp
        have HXX : Hid ((((wr.alloc (.cells #[.int .i64 y.kind, .string ⟨(ch :: tl).toArray⟩, .slice s1 y.vars.length u1, .slice s2 y.dirs.length u2, .slice s3 y.sels.length u3, .int .i64 y.at_] 49)).alloc (.cells #[.string ⟨(ch :: tl).toArray⟩] 9))).ownsRow w2.heap.size 9 1 (.slice va m vc) m (strCells (Dq.names (x.ops.take j)))) := Lib.hid ((HROW0.out.alloc _).alloc _)
        have HBX : Hid (Below w2.heap.size w2 ((wr.alloc (.cells #[.int .i64 y.kind, .string ⟨(ch :: tl).toArray⟩, .slice s1 y.vars.length u1, .slice s2 y.dirs.length u2, .slice s3 y.sels.length u3, .int .i64 y.at_] 49)).alloc (.cells #[.string ⟨(ch :: tl).toArray⟩] 9))) := Lib.hid ((HBE.out.alloc HBE.out.size _).alloc (by have := HBE.out.size; simp; omega) _)
        have HLIT : Hid (∀ j u, ([.string ⟨(ch :: tl).toArray⟩] : List Value)[j]? = some u → (((wr.alloc (.cells #[.int .i64 y.kind, .string ⟨(ch :: tl).toArray⟩, .slice s1 y.vars.length u1, .slice s2 y.dirs.length u2, .slice s3 y.sels.length u3, .int .i64 y.at_] 49)).alloc (.cells #[.string ⟨(ch :: tl).toArray⟩] 9))).cell? ((⟨wr.heap.size + 1, 0, none⟩ : Addr).add j) = some u) := by
          have := lit_cells (w := ((wr.alloc (.cells #[.int .i64 y.kind, .string ⟨(ch :: tl).toArray⟩, .slice s1 y.vars.length u1, .slice s2 y.dirs.length u2, .slice s3 y.sels.length u3, .int .i64 y.at_] 49)).alloc (.cells #[.string ⟨(ch :: tl).toArray⟩] 9))) (L := wr.heap.size + 1) (zs := [.string ⟨(ch :: tl).toArray⟩]) (T := 9) (fz := (0, 0)) (by
            have h1 := heap_at_new (wr.alloc (.cells #[.int .i64 y.kind, .string ⟨(ch :: tl).toArray⟩, .slice s1 y.vars.length u1, .slice s2 y.dirs.length u2, .slice s3 y.sels.length u3, .int .i64 y.at_] 49)) (.cells #[.string ⟨(ch :: tl).toArray⟩] 9)
            rw [show (wr.alloc (.cells #[.int .i64 y.kind, .string ⟨(ch :: tl).toArray⟩, .slice s1 y.vars.length u1, .slice s2 y.dirs.length u2, .slice s3 y.sels.length u3, .int .i64 y.at_] 49)).heap.size = wr.heap.size + 1 by simp] at h1
            exact h1)
          exact Lib.hid this
        have hbase : w2.heap.size ≤ (((wr.alloc (.cells #[.int .i64 y.kind, .string ⟨(ch :: tl).toArray⟩, .slice s1 y.vars.length u1, .slice s2 y.dirs.length u2, .slice s3 y.sels.length u3, .int .i64 y.at_] 49)).alloc (.cells #[.string ⟨(ch :: tl).toArray⟩] 9))).heap.size := HBX.out.size
        go_wp2_with (first | (at_builtin; refine wpList_append_own_at _ rfl _ _ 34 rfl w2.heap.size 9 i0 _ 1 16 Tryz.underlying34 hi hz0 hz1 hz2 rfl (by decide) (.slice va m vc) m (strCells (Dq.names (x.ops.take j))) rfl HXX.out ⟨wr.heap.size + 1, 0, none⟩ 1 1 [.string ⟨(ch :: tl).toArray⟩] rfl rfl HLIT.out (fun u hu => by simp at hu; subst hu; rfl) (by unfold maxLen; omega) (by omega) hbase ?_; intro v' w8 hrow8 hg8 hnil8 hloc8; clear hnil8 hloc8; obtain ⟨g', c', rfl, hg1, hg2⟩ := rowForm hrow8 (by omega); have HROW := Lib.hid hrow8; have HG8 := Lib.hid hg8; clear hrow8 hg8) | fail)
        go_roundg (x.ops.length + 1 - (j + 1))
        case measure => rw [HK.out]; omega
        case rel =>
          have e : Dq.names (x.ops.take (j + 1)) = Dq.names (x.ops.take j) ++ [ch :: tl] := by rw [HTK.out, Dq.names_snoc, ← HNM.out]; rfl
          refine ⟨j + 1, m + 1, _, _, rfl, hjl, by go_num, rfl, by rw [e, List.length_append, ← HM.out]; rfl, ?_, below_grown HBX.out HXX.out HBX.out.size HG8.out⟩
          rw [e]
          unfold strCells
          rw [List.map_append]
          exact HROW.out
    · have hje : j = x.ops.length := by omega
      have e4 : decide (j < x.ops.length) = false := decide_eq_false hjl
      have HFT : Hid (x.ops.take j = x.ops) := Lib.hid (by rw [hje, List.take_length])
      clear hje
      obtain ⟨ns, hns⟩ : ∃ q, q = Dq.names x.ops := ⟨_, rfl⟩
      have hrow := HROW0.out
      have hm := HM.out
      rw [HFT.out, ← hns] at hrow hm
      have hmn : m = ns.length := hm
      have HROW := Lib.hid hrow
      have hnl : ns.length ≤ 100 := by have := Dq.names_len x.ops; rw [← hns] at this; omega
      have HT := Lib.hid (txts_row hrow hmn.symm)
      have hsr := HBE.out.size
      have HX3 : Hid (wr.heap[w.heap.size]? = _) := Lib.hid ((HBE.out.block w.heap.size (by omega)).trans HX2.out)
      have HRO3 := Lib.hid (HRO.out.to (Stands.below HBE.out))
      have HNM := Lib.hid (dnames_any x.ops a1 c1 (.slice a2 x.frags.length c2) ⟨_, _, _, rfl⟩ wr _ HRO3.out (by omega))
      have HNS := Lib.hid hns
      have HMN := Lib.hid hmn
      have k0 := blk_cell HX3.out 0 (.slice a1 x.ops.length c1) rfl
      have k1 := blk_cell HX3.out 1 (.slice a2 x.frags.length c2) rfl
      clear hrow hm hns hmn HROW0 HM HFT HK
      go_wp2_with fail
      refine HNM.out.mono ?_
      rintro e w5 ⟨v5, rfl, hb5, hrow5⟩
      rw [← HNS.out] at hrow5
      have HB5 := Lib.hid hb5
      have hs5 := hb5.size
      have HT5 := Lib.hid (txts_row hrow5 rfl)
      have HTW5 := Lib.hid (HT.out.below hb5)
      obtain ⟨p5, c5, rfl⟩ := HT5.out.form
      have HO5 := Lib.hid (open8_of hrow5)
      have HCT := Lib.hid (texts_same HT5.out HTW5.out (by omega))
      clear hb5 hrow5 k0 k1 HNM
      go_wp2_with fail
      refine HCT.out.mono ?_
      rintro e w6 ⟨rfl, n6, rfl⟩
      clear HCT
      go_wp2_with fail
      have HB6 : Hid (Below wr.heap.size wr (w5.drewN n6)) := Lib.hid (Below.drewN HB5.out n6)
      have HO6 : Hid (Open8 (w5.drewN n6) (wr.heap.size + 1) ns.length p5) := Lib.hid HO5.out
      obtain ⟨w7, hw7⟩ : ∃ q, q = w5.drewN n6 := ⟨_, rfl⟩
      rw [← hw7]
      rw [← hw7] at HB6 HO6
      clear hw7
      obtain ⟨wl, hwl⟩ : ∃ q, q = wr := ⟨_, rfl⟩
      rw [← hwl] at HB6 HO6 HT HX3 HRO3 HROW HBE hsr
      clear hwl
      go_loopg [40] (ns.length + 1) (fun k i wr => ∃ (j : Nat), k = ns.length + 1 - j ∧ j ≤ ns.length ∧ i = .int .i64 j ∧ Open8 wr (wl.heap.size + 1) ns.length p5 ∧ Below wl.heap.size wl wr)
      case atStart => exact ⟨0, rfl, Nat.zero_le _, rfl, HO6.out, HB6.out⟩
      case round =>
        obtain ⟨i, hk, hi2, rfl, ho, hb⟩ := hrel
        have HK := Lib.hid hk
        have HBW := Lib.hid hb
        clear hk hb
        by_cases hil : i < ns.length
        · have e7 : decide (i < ns.length) = true := decide_eq_true hil
          rcases ho with ho | ⟨g, cur, T, rfl, hg, hcur, hsz⟩
          · omega
          have hfz := fz_of hcur i
          obtain ⟨u, hu⟩ : ∃ u, cur[i]? = some u := ⟨cur[i], Array.getElem?_eq_getElem (by omega)⟩
          have hcl := blk_cell hcur i u hu
          have HCUR := Lib.hid hcur
          clear hcur hu
          go_wp2_with fail
          go_roundg (ns.length + 1 - (i + 1))
          case measure => rw [HK.out]; omega
          case rel => exact ⟨i + 1, rfl, hil, by go_num, .inr ⟨g, _, T, rfl, hg, heap_set1 HCUR.out, by rw [Array.size_setIfInBounds]; exact hsz⟩, HBW.out.setCell (by show wl.heap.size ≤ g; omega) _⟩
        · have e7 : decide (i < ns.length) = false := decide_eq_false hil
          have hsw := HBW.out.size
          have HX8 : Hid (wr.heap[w.heap.size]? = _) := Lib.hid ((HBW.out.block w.heap.size (by omega)).trans HX3.out)
          have HRO8 := Lib.hid (HRO3.out.to (Stands.below HBW.out))
          have HT8 := Lib.hid (HT.out.below HBW.out)
          have HNM := Lib.hid (dnames_any x.ops a1 c1 (.slice a2 x.frags.length c2) ⟨_, _, _, rfl⟩ wr _ HRO8.out (by omega))
          have k0 := blk_cell HX8.out 0 (.slice a1 x.ops.length c1) rfl
          have k1 := blk_cell HX8.out 1 (.slice a2 x.frags.length c2) rfl
          clear ho
          go_wp2_with fail
          refine HNM.out.mono ?_
          rintro e w9 ⟨v9, rfl, hb9, hrow9⟩
          rw [← HNS.out] at hrow9
          have HT9 := Lib.hid (txts_row hrow9 rfl)
          have HTW9 := Lib.hid (HT8.out.below hb9)
          have HB9 := Lib.hid (HB2.out.trans ((HBE.out.trans ((HBW.out.trans (hb9.mono HBW.out.size)).mono HBE.out.size)).mono HB2.out.size))
          have HCT := Lib.hid (texts_same HT9.out HTW9.out (by omega))
          obtain ⟨p9, c9, rfl⟩ := HT9.out.form
          clear hb9 hrow9 k0 k1 HNM
          go_wp2_with fail
          refine HCT.out.mono ?_
          rintro e w10 ⟨rfl, n10, rfl⟩
          clear HCT
          go_wp2_with fail
          go_ret
          exact ⟨rfl, Below.drewN HB9.out n10⟩
end Go.Proofs.YtabcaljnpahgpaaGreatDoor
