/-
  QueryPlaces, walked.
-/
import Derived.Test.YtabcaljnpahgpaaDoorQrl2
namespace Go.Proofs.YtabcaljnpahgpaaDoor
set_option linter.unusedSimpArgs false
set_option linter.unusedVariables false
open Go Go.RowKit

theorem Vd_open {w : World} {P : Nat → Prop} {x : Qr.Vd} {cs : List Value} (h : Reads w P x.d cs) : ∃ (nm ty t : ByteArray) (hb : Bool) (k a : Int) (a1 a2 : Option Addr) (n1 c1 n2 c2 : Nat), cs = [.string nm, .string ty, .bool hb, .int .i64 k, .string t, .slice a1 n1 c1, .slice a2 n2 c2, .int .i64 a, .int .i64 x.at_] := by
  unfold Qr.Vd.d at h
  obtain ⟨x1, r1, rfl, e1, h1⟩ := h.obj_inv.cons_inv
  obtain ⟨x2, r2, rfl, e2, h2⟩ := h1.cons_inv
  obtain ⟨x3, r3, rfl, e3, h3⟩ := h2.cons_inv
  obtain ⟨x4, r4, rfl, e4, h4⟩ := h3.cons_inv
  obtain ⟨x5, r5, rfl, e5, h5⟩ := h4.cons_inv
  obtain rfl := e1.str_inv
  obtain rfl := e2.str_inv
  obtain rfl := e3.bool_inv
  obtain ⟨a1, a2, c1, c2, rfl, -, -⟩ := V_open e4
  obtain rfl := e5.int_inv
  obtain rfl := h5.nil_inv
  exact ⟨_, _, _, _, _, _, _, _, _, _, _, _, rfl⟩
namespace Qr
theorem rise_bt {s : ByteArray} {last : Int} {a : Nat} {r : List Rd.Pl} (h : Rd.Rise s last ((a, some Rd.dollar) :: r)) : last < a ∧ a < s.size ∧ bt s a = 36 ∧ Rd.Rise s a r := by
  unfold Rd.Rise at h
  obtain ⟨h1, h2, h3, h4⟩ := h
  obtain ⟨h5, h6⟩ := h3 _ rfl
  refine ⟨h1, h2, ?_, h4⟩
  unfold bt
  have h7 : ((sfx s a).take 1)[0]? = some 36 := by
    have : Rd.dollar.length = 1 := rfl
    rw [this] at h6
    rw [← h6]; rfl
  unfold sfx at h7
  rw [List.getElem?_take, if_pos (by omega), List.getElem?_drop, Nat.add_zero] at h7
  rw [List.getD_eq_getElem?_getD, h7]
  rfl
theorem pls_len {α : Type} (f : α → List Rd.Pl) (hf : ∀ x, f x ≠ []) : ∀ xs : List α, xs.length ≤ (xs.flatMap f).length
  | [] => Nat.le_refl _
  | x :: xs => by
    have := pls_len f hf xs
    have := List.length_pos_iff.2 (hf x)
    rw [List.flatMap_cons, List.length_append, List.length_cons]
    omega
theorem pl_len {s : ByteArray} : ∀ {ps : List Rd.Pl} {last : Int}, Rd.Rise s last ps → -1 ≤ last → ps = [] ∨ (ps.length : Int) + last + 1 ≤ s.size
  | [], _, _, _ => .inl rfl
  | (a, x) :: r, last, h, h0 => by
    unfold Rd.Rise at h
    obtain ⟨h1, h2, h3, h4⟩ := h
    right
    rcases pl_len h4 (by omega) with rfl | h5
    · simp; omega
    · simp only [List.length_cons]; omega
theorem pl_bound {α : Type} {s : ByteArray} {last : Int} (f : α → List Rd.Pl) (hf : ∀ x, f x ≠ []) {xs : List α} (h : Rd.Rise s last (xs.flatMap f)) (h0 : -1 ≤ last) (hs : s.size ≤ 4096) : xs.length ≤ 5000 := by
  have h1 := pls_len f hf xs
  rcases pl_len h h0 with h2 | h2
  · rw [h2] at h1; simp at h1; rw [h1]; exact Nat.zero_le _
  · omega
theorem vd_ne (x : Vd) : x.pl ≠ [] := by unfold Vd.pl; simp
theorem op_ne (x : Op) : x.pl ≠ [] := by unfold Op.pl; simp
theorem fr_ne (x : Fr) : x.pl ≠ [] := by unfold Fr.pl; simp
end Qr

set_option maxHeartbeats 8000000 in
set_option maxRecDepth 100000 in
theorem qplaces_any (s : ByteArray) (w : World) (hs : s.size ≤ 9223372036854775807) (hE : Env w) (h3 : 3 ≤ w.heap.size) :
    Calls Tryd.prog 4 #[.string s] w (fun e w' => e = .returned (.bool true) ∧ Below w.heap.size w w') := by
  have HE := Lib.hid hE
  clear hE
  go_enter Tryd.func4, Tryd.ntmps4
  go_wp2_with fail
  refine (qrAwake_any w HE.out h3).mono ?_
  rintro e w1 ⟨rfl, hb1, hE1⟩
  have HB1 := Lib.hid hb1
  have HE1 := Lib.hid hE1
  have h31 : 3 ≤ w1.heap.size := by have := hb1.size; omega
  clear hb1 hE1
  by_cases hsz : s.size ≤ 4096
  rotate_left
  · have e1 : decide ((4096 : Int) < (s.size : Int)) = true := decide_eq_true (by omega)
    go_wp2_with fail
    refine (qrAwake_any w1 HE1.out h31).mono ?_
    rintro e w2 ⟨rfl, hb2, hE2⟩
    have HB2 := Lib.hid (HB1.out.trans (hb2.mono HB1.out.size))
    clear hb2 hE2
    go_wp2_with fail
    go_ret
    exact ⟨rfl, HB2.out⟩
  have e1 : decide ((4096 : Int) < (s.size : Int)) = false := decide_eq_false (by omega)
  go_wp2_with fail
  refine (qparse_any s w1 hs HE1.out h31).mono ?_
  rintro e w2 ⟨hb2, hstd, hres⟩
  have HB2 := Lib.hid (HB1.out.trans (hb2.mono HB1.out.size))
  clear hb2
  rcases hres with ⟨a1, a2, c1, c2, herr, rfl, hro, hrf⟩ | ⟨herr, rfl⟩
  rotate_left
  · obtain ⟨E, hE⟩ : ∃ E : Int, E = ((Qr.parse s.data.toList).1.err : Int) := ⟨_, rfl⟩
    rw [← hE]
    have e2 : (E != 0) = true := by rw [bne_iff_ne]; omega
    clear hE herr hstd
    go_wp2_with fail
    go_ret
    exact ⟨rfl, HB2.out.alloc HB2.out.size _⟩
  obtain ⟨hne, hrso, hrsf, hoko, hokf⟩ := Qr.parse_ok (s := s) hstd herr
  obtain ⟨os, hos⟩ : ∃ z, z = (Qr.parse s.data.toList).2.1 := ⟨_, rfl⟩
  obtain ⟨fs, hfs⟩ : ∃ z, z = (Qr.parse s.data.toList).2.2 := ⟨_, rfl⟩
  rw [← hos] at hne hrso hoko hro ⊢
  rw [← hfs] at hne hrsf hokf hrf ⊢
  have hlo := Qr.pl_bound Qr.Op.pl Qr.op_ne hrso (by omega) hsz
  have hlf := Qr.pl_bound Qr.Fr.pl Qr.fr_ne hrsf (by omega) hsz
  obtain ⟨wD, hwD⟩ : ∃ z, z = w2.alloc (.cells #[.slice a1 os.length c1, .slice a2 fs.length c2] 46) := ⟨_, rfl⟩
  have hbD : Below w2.heap.size w2 wD := by rw [hwD]; exact (Below.refl _ _).alloc (Nat.le_refl _) _
  have HBD := Lib.hid (HB2.out.trans (hbD.mono HB2.out.size))
  have HD : Hid (wD.heap[w2.heap.size]? = some (.cells #[.slice a1 os.length c1, .slice a2 fs.length c2] 46 (0, 0))) := Lib.hid (by rw [hwD]; exact heap_at_new _ _)
  have HRO := Lib.hid (hro.to (Stands.below hbD))
  have HRF := Lib.hid (hrf.to (Stands.below hbD))
  have HSO := Lib.hid hrso
  have HSF := Lib.hid hrsf
  have HOO := Lib.hid hoko
  have HOF := Lib.hid hokf
  have HNE := Lib.hid hne
  have HWD := Lib.hid hwD
  obtain ⟨B, hB⟩ : ∃ B, B = w2.heap.size := ⟨_, rfl⟩
  clear hne hrso hrsf hoko hokf hro hrf hstd herr hos hfs hbD hwD
  go_wp2_with fail
  rw [← HWD.out]
  rw [← hB] at HD ⊢
  clear hB HWD
  have z0 := blk_cell HD.out 0 (.slice a1 os.length c1) rfl
  go_loopg [6, 43] (os.length + 1) (fun k la i wr => ∃ (j : Nat) (l2 : Int), k = os.length + 1 - j ∧ j ≤ os.length ∧ i = .int .i64 j ∧ la = .int .i64 l2 ∧ -1 ≤ l2 ∧ l2 ≤ 5000 ∧ Rd.Rise s l2 ((os.drop j).flatMap Qr.Op.pl) ∧ Below wD.heap.size wD wr)
  case atStart => exact ⟨0, -1, rfl, Nat.zero_le _, rfl, rfl, by omega, by omega, HSO.out, Below.refl _ _⟩
  case round =>
    obtain ⟨j, l2, hk, hj, rfl, rfl, hl2, hl3, hrs, hbe⟩ := hrel
    have HK := Lib.hid hk
    have HRS := Lib.hid hrs
    have HBE := Lib.hid hbe
    clear hk hrs hbe z0
    by_cases hjl : j < os.length
    · have e2 : decide (j < os.length) = true := decide_eq_true hjl
      obtain ⟨x, hx⟩ : ∃ z, os[j]? = some z := ⟨os[j], List.getElem?_eq_getElem hjl⟩
      have hdr : os.drop j = x :: os.drop (j + 1) := by rw [List.drop_eq_getElem_cons hjl]; rw [List.getElem?_eq_getElem hjl] at hx; rw [Option.some.inj hx]
      have hR2 := HRS.out
      rw [hdr, List.flatMap_cons] at hR2
      obtain ⟨hin, hR3⟩ := Qr.op_in hR2
      have hok := HOO.out x (List.mem_of_getElem? hx)
      obtain ⟨g, o, cs, ha, -, hgl, hlen, hcell, hd⟩ := HRO.out.elem.2 j x.d (by rw [List.getElem?_map, hx]; rfl)
      obtain ⟨v1, v2, v3, d1, d2, d3, rfl, hrv, -, hrs⟩ := Op_open hd
      have hi1 := hin.lo
      have hi2 := hin.hi
      have hvl := Qr.pl_bound Qr.Vd.pl Qr.vd_ne hin.vars (by omega) hsz
      obtain ⟨xa, hxa⟩ : ∃ z : Int, z = (x.at_ : Int) := ⟨_, rfl⟩
      obtain ⟨kd, hkd⟩ : ∃ z : Int, z = (x.kind : Int) := ⟨_, rfl⟩
      obtain ⟨nm, hnm⟩ : ∃ z : ByteArray, z = ⟨x.name.toArray⟩ := ⟨_, rfl⟩
      obtain ⟨nv, hnv⟩ : ∃ z, z = x.vars.length := ⟨_, rfl⟩
      obtain ⟨nd, hnd⟩ : ∃ z, z = x.dirs.length := ⟨_, rfl⟩
      have hk1 := hok.k1
      have hk3 := hok.k3
      have hsn : 0 < x.sels.length := List.length_pos_iff.2 hok.ne
      have HVR := Lib.hid hin.vars
      have HSEL := Lib.hid hin.sels
      rw [← hxa] at HVR HSEL hcell hR3
      rw [← hkd, ← hnm, ← hnv, ← hnd] at hcell
      rw [← hnv] at hrv hvl
      have HR3 := Lib.hid hR3
      have k0 : wr.cell? ⟨g, o + j * 6, none⟩ = _ := (HBE.out.cell (p := ⟨g, o + j * 6, none⟩) hgl).trans (hcell 0 _ rfl)
      have k1 : wr.cell? ⟨g, o + j * 6 + 1, none⟩ = _ := (HBE.out.cell (p := ⟨g, o + j * 6 + 1, none⟩) hgl).trans (hcell 1 _ rfl)
      have k2 : wr.cell? ⟨g, o + j * 6 + 2, none⟩ = _ := (HBE.out.cell (p := ⟨g, o + j * 6 + 2, none⟩) hgl).trans (hcell 2 _ rfl)
      have k3 : wr.cell? ⟨g, o + j * 6 + 3, none⟩ = _ := (HBE.out.cell (p := ⟨g, o + j * 6 + 3, none⟩) hgl).trans (hcell 3 _ rfl)
      have k4 : wr.cell? ⟨g, o + j * 6 + 4, none⟩ = _ := (HBE.out.cell (p := ⟨g, o + j * 6 + 4, none⟩) hgl).trans (hcell 4 _ rfl)
      have k5 : wr.cell? ⟨g, o + j * 6 + 5, none⟩ = _ := (HBE.out.cell (p := ⟨g, o + j * 6 + 5, none⟩) hgl).trans (hcell 5 _ rfl)
      subst ha
      obtain ⟨wb, hwb⟩ : ∃ z, z = wr.alloc (.cells #[.int .i64 kd, .string nm, .slice v1 nv d1, .slice v2 nd d2, .slice v3 x.sels.length d3, .int .i64 xa] 53) := ⟨_, rfl⟩
      have hbb : Below wD.heap.size wD wb := by rw [hwb]; exact HBE.out.alloc HBE.out.size _
      have HBB := Lib.hid hbb
      have HBX : Hid (wb.heap[wr.heap.size]? = some (.cells #[.int .i64 kd, .string nm, .slice v1 nv d1, .slice v2 nd d2, .slice v3 x.sels.length d3, .int .i64 xa] 53 (0, 0))) := Lib.hid (by rw [hwb]; exact heap_at_new _ _)
      have HRV := Lib.hid (hrv.to (Stands.below hbb))
      have hx0 : 0 ≤ xa + 1 := by omega
      have hxs : xa < s.size := by omega
      have HCP := Lib.hid (places_any _ x.sels (Nat.le_refl _) v3 d3 (xa + 1) (s.size : Int) wb ((hrs.to (Stands.below hbb)).to (Stands.sub _ (fun _ _ _ => trivial))) hx0 (by omega) HSEL.out)
      have HWB := Lib.hid hwb
      have HNV := Lib.hid hnv
      rw [hwb] at HCP
      have e3 : decide (xa ≤ l2) = false := decide_eq_false (by omega)
      have e4 : decide ((s.size : Int) ≤ xa) = false := decide_eq_false (by omega)
      have e5 : decide (kd < 1) = false := decide_eq_false (by omega)
      have e6 : decide (3 < kd) = false := decide_eq_false (by omega)
      have e7 : ((x.sels.length : Int) == 0) = false := eqF (by omega)
      have hxb : xa ≤ 4096 := by omega
      have hxl : 0 ≤ xa := by omega
      clear hx hdr hR2 hin hR3 hok hlen hcell hd hrv hrs hxa hkd hnm hnv hnd hbb hwb HSEL hi1 hi2 hk1 hk3
      go_wp2_with fail
      refine HCP.out.mono ?_
      rintro r w5 ⟨rfl, hb5⟩
      rw [← HWB.out] at hb5
      have HB5 := Lib.hid hb5
      have HB6 := Lib.hid (HBB.out.trans (hb5.mono HBB.out.size))
      have HBX5 : Hid (w5.heap[wr.heap.size]? = some (.cells #[.int .i64 kd, .string nm, .slice v1 nv d1, .slice v2 nd d2, .slice v3 x.sels.length d3, .int .i64 xa] 53 (0, 0))) := Lib.hid (by rw [hb5.block _ (block_lt HBX.out)]; exact HBX.out)
      have HRV5 := Lib.hid (HRV.out.to (Stands.below hb5))
      obtain ⟨bx, hbx⟩ : ∃ z, z = wr.heap.size := ⟨_, rfl⟩
      rw [← hbx] at HBX5 ⊢
      have y5 := blk_cell HBX5.out 5 (.int .i64 xa) rfl
      have y2 := blk_cell HBX5.out 2 (.slice v1 nv d1) rfl
      clear hb5 HCP HWB HBB hbx k0 k1 k2 k3 k4 k5 HBX
      go_wp2_with fail
      go_loopg [9, 92] (nv + 1) (fun k la i wr => ∃ (q : Nat) (l4 : Int), k = nv + 1 - q ∧ q ≤ nv ∧ i = .int .i64 q ∧ la = .int .i64 l4 ∧ 0 ≤ l4 ∧ l4 ≤ 5000 ∧ Rd.Rise s l4 ((x.vars.drop q).flatMap Qr.Vd.pl) ∧ Below w5.heap.size w5 wr)
      case atStart => exact ⟨0, xa, rfl, Nat.zero_le _, rfl, rfl, by omega, by omega, HVR.out, Below.refl _ _⟩
      case round =>
        obtain ⟨q, l4, hk, hq, rfl, rfl, hl4, hl5, hrs, hb7⟩ := hrel
        have HK7 := Lib.hid hk
        have HRS7 := Lib.hid hrs
        have HB7 := Lib.hid hb7
        clear hk hrs hb7 y5 y2
        by_cases hql : q < nv
        · have e8 : decide (q < nv) = true := decide_eq_true hql
          obtain ⟨y, hy⟩ : ∃ z, x.vars[q]? = some z := ⟨x.vars[q]'(by have := HNV.out; omega), List.getElem?_eq_getElem _⟩
          have hdr : x.vars.drop q = y :: x.vars.drop (q + 1) := by
            have hlt := (List.getElem?_eq_some_iff.1 hy).1
            rw [List.drop_eq_getElem_cons hlt]
            rw [List.getElem?_eq_getElem hlt] at hy
            rw [Option.some.inj hy]
          have h1 := HRS7.out
          rw [hdr, List.flatMap_cons] at h1
          obtain ⟨m1, m2, m3, m4⟩ := Qr.rise_bt h1
          obtain ⟨g2, o2, cs2, ha2, -, hgl2, hlen2, hcell2, hd2⟩ := HRV5.out.elem.2 q (Qr.Vd.d y) (by rw [List.getElem?_map, hy]; rfl)
          obtain ⟨vn, vt, vx, vh, vk, vz, r1, r2, n1, t1, n2, t2, rfl⟩ := Vd_open hd2
          obtain ⟨ya, hya⟩ : ∃ z : Int, z = (y.at_ : Int) := ⟨_, rfl⟩
          have hbt : bt s ya.toNat = 36 := by rw [hya]; exact m3
          rw [← hya] at m1 m4 hcell2
          have m2' : ya < s.size := by omega
          have m0 : 0 ≤ ya := by omega
          have HR8 := Lib.hid m4
          subst ha2
          have b0 : wr.cell? ⟨g2, o2 + q * 9, none⟩ = _ := (HB7.out.cell (p := ⟨g2, o2 + q * 9, none⟩) hgl2).trans (hcell2 0 _ rfl)
          have b1 : wr.cell? ⟨g2, o2 + q * 9 + 1, none⟩ = _ := (HB7.out.cell (p := ⟨g2, o2 + q * 9 + 1, none⟩) hgl2).trans (hcell2 1 _ rfl)
          have b2 : wr.cell? ⟨g2, o2 + q * 9 + 2, none⟩ = _ := (HB7.out.cell (p := ⟨g2, o2 + q * 9 + 2, none⟩) hgl2).trans (hcell2 2 _ rfl)
          have b3 : wr.cell? ⟨g2, o2 + q * 9 + 3, none⟩ = _ := (HB7.out.cell (p := ⟨g2, o2 + q * 9 + 3, none⟩) hgl2).trans (hcell2 3 _ rfl)
          have b4 : wr.cell? ⟨g2, o2 + q * 9 + 4, none⟩ = _ := (HB7.out.cell (p := ⟨g2, o2 + q * 9 + 4, none⟩) hgl2).trans (hcell2 4 _ rfl)
          have b5 : wr.cell? ⟨g2, o2 + q * 9 + 5, none⟩ = _ := (HB7.out.cell (p := ⟨g2, o2 + q * 9 + 5, none⟩) hgl2).trans (hcell2 5 _ rfl)
          have b6 : wr.cell? ⟨g2, o2 + q * 9 + 6, none⟩ = _ := (HB7.out.cell (p := ⟨g2, o2 + q * 9 + 6, none⟩) hgl2).trans (hcell2 6 _ rfl)
          have b7 : wr.cell? ⟨g2, o2 + q * 9 + 7, none⟩ = _ := (HB7.out.cell (p := ⟨g2, o2 + q * 9 + 7, none⟩) hgl2).trans (hcell2 7 _ rfl)
          have b8 : wr.cell? ⟨g2, o2 + q * 9 + 8, none⟩ = _ := (HB7.out.cell (p := ⟨g2, o2 + q * 9 + 8, none⟩) hgl2).trans (hcell2 8 _ rfl)
          have e9 : decide (ya ≤ l4) = false := decide_eq_false (by omega)
          have e10 : decide ((s.size : Int) ≤ ya) = false := decide_eq_false (by omega)
          clear hy hdr h1 hlen2 hcell2 hd2 hya m4 m3
          go_wp2_with fail
          go_roundg (nv + 1 - (q + 1))
          case measure => rw [HK7.out]; omega
          case rel => exact ⟨q + 1, ya, rfl, hql, by go_num, rfl, by omega, by omega, HR8.out, HB7.out.alloc HB7.out.size _⟩
        · have e8 : decide (q < nv) = false := decide_eq_false hql
          go_wp2_with fail
          go_roundg (os.length + 1 - (j + 1))
          case measure => rw [HK.out]; omega
          case rel => exact ⟨j + 1, xa, rfl, hjl, by go_num, rfl, by omega, by omega, HR3.out, HB6.out.trans (HB7.out.mono HB6.out.size)⟩
    · have e2 : decide (j < os.length) = false := decide_eq_false hjl
      have HDr : Hid (wr.heap[B]? = some (.cells #[.slice a1 os.length c1, .slice a2 fs.length c2] 46 (0, 0))) := Lib.hid (by rw [HBE.out.block _ (block_lt HD.out)]; exact HD.out)
      have z1 := blk_cell HDr.out 1 (.slice a2 fs.length c2) rfl
      have HRF6 := Lib.hid (HRF.out.to (Stands.below HBE.out))
      have HBW := Lib.hid (HBD.out.trans (HBE.out.mono HBD.out.size))
      clear hjl hj HK HRS HBE HRF HRO HD
      obtain ⟨wF, hwF⟩ : ∃ z, z = wr := ⟨_, rfl⟩
      subst hwF
      go_wp2_with fail
      go_loopg [6, 121] (fs.length + 1) (fun k la i wr => ∃ (j : Nat) (l2 : Int), k = fs.length + 1 - j ∧ j ≤ fs.length ∧ i = .int .i64 j ∧ la = .int .i64 l2 ∧ -1 ≤ l2 ∧ l2 ≤ 5000 ∧ Rd.Rise s l2 ((fs.drop j).flatMap Qr.Fr.pl) ∧ Below wF.heap.size wF wr)
      case atStart => exact ⟨0, -1, rfl, Nat.zero_le _, rfl, rfl, by omega, by omega, HSF.out, Below.refl _ _⟩
      case round =>
        obtain ⟨j, l2, hk, hj, rfl, rfl, hl2, hl3, hrs, hbe⟩ := hrel
        have HK := Lib.hid hk
        have HRS := Lib.hid hrs
        have HBE := Lib.hid hbe
        clear hk hrs hbe z1
        by_cases hjl : j < fs.length
        · have e2 : decide (j < fs.length) = true := decide_eq_true hjl
          obtain ⟨x, hx⟩ : ∃ z, fs[j]? = some z := ⟨fs[j], List.getElem?_eq_getElem hjl⟩
          have hdr : fs.drop j = x :: fs.drop (j + 1) := by rw [List.drop_eq_getElem_cons hjl]; rw [List.getElem?_eq_getElem hjl] at hx; rw [Option.some.inj hx]
          have hR2 := HRS.out
          rw [hdr, List.flatMap_cons] at hR2
          obtain ⟨hin, hR3⟩ := Qr.fr_in hR2
          have hok := HOF.out x (List.mem_of_getElem? hx)
          obtain ⟨g, o, cs, ha, -, hgl, hlen, hcell, hd⟩ := HRF6.out.elem.2 j x.d (by rw [List.getElem?_map, hx]; rfl)
          obtain ⟨v2, v3, d2, d3, rfl, -, hrs⟩ := Fr_open hd
          have hi1 := hin.lo
          have hi2 := hin.hi
          obtain ⟨xa, hxa⟩ : ∃ z : Int, z = (x.at_ : Int) := ⟨_, rfl⟩
          obtain ⟨nd, hnd⟩ : ∃ z, z = x.dirs.length := ⟨_, rfl⟩
          have hsn : 0 < x.sels.length := List.length_pos_iff.2 hok.ne
          have HSEL := Lib.hid hin.sels
          have en : x.name.isEmpty = false := by have := hok.name; cases h : x.name with | nil => exact absurd h this | cons _ _ => rfl
          have eo : x.on.isEmpty = false := by have := hok.on; cases h : x.on with | nil => exact absurd h this | cons _ _ => rfl
          rw [← hxa] at HSEL hcell hR3
          rw [← hnd] at hcell
          have HR3 := Lib.hid hR3
          have k0 : wr.cell? ⟨g, o + j * 5, none⟩ = _ := (HBE.out.cell (p := ⟨g, o + j * 5, none⟩) hgl).trans (hcell 0 _ rfl)
          have k1 : wr.cell? ⟨g, o + j * 5 + 1, none⟩ = _ := (HBE.out.cell (p := ⟨g, o + j * 5 + 1, none⟩) hgl).trans (hcell 1 _ rfl)
          have k2 : wr.cell? ⟨g, o + j * 5 + 2, none⟩ = _ := (HBE.out.cell (p := ⟨g, o + j * 5 + 2, none⟩) hgl).trans (hcell 2 _ rfl)
          have k3 : wr.cell? ⟨g, o + j * 5 + 3, none⟩ = _ := (HBE.out.cell (p := ⟨g, o + j * 5 + 3, none⟩) hgl).trans (hcell 3 _ rfl)
          have k4 : wr.cell? ⟨g, o + j * 5 + 4, none⟩ = _ := (HBE.out.cell (p := ⟨g, o + j * 5 + 4, none⟩) hgl).trans (hcell 4 _ rfl)
          subst ha
          obtain ⟨wb, hwb⟩ : ∃ z, z = wr.alloc (.cells #[.string ⟨x.name.toArray⟩, .string ⟨x.on.toArray⟩, .slice v2 nd d2, .slice v3 x.sels.length d3, .int .i64 xa] 57) := ⟨_, rfl⟩
          have hbb : Below wF.heap.size wF wb := by rw [hwb]; exact HBE.out.alloc HBE.out.size _
          have HBB := Lib.hid hbb
          have HBX : Hid (wb.heap[wr.heap.size]? = some (.cells #[.string ⟨x.name.toArray⟩, .string ⟨x.on.toArray⟩, .slice v2 nd d2, .slice v3 x.sels.length d3, .int .i64 xa] 57 (0, 0))) := Lib.hid (by rw [hwb]; exact heap_at_new _ _)
          have hx0 : 0 ≤ xa + 1 := by omega
          have hxs : xa < s.size := by omega
          have HCP := Lib.hid (places_any _ x.sels (Nat.le_refl _) v3 d3 (xa + 1) (s.size : Int) wb ((hrs.to (Stands.below hbb)).to (Stands.sub _ (fun _ _ _ => trivial))) hx0 (by omega) HSEL.out)
          have HWB := Lib.hid hwb
          rw [hwb] at HCP
          have e3 : decide (xa ≤ l2) = false := decide_eq_false (by omega)
          have e4 : decide ((s.size : Int) ≤ xa) = false := decide_eq_false (by omega)
          have e7 : ((x.sels.length : Int) == 0) = false := eqF (by omega)
          have hxb : xa ≤ 4096 := by omega
          have hxl : 0 ≤ xa := by omega
          clear hx hdr hR2 hin hR3 hok hlen hcell hd hrs hxa hnd hbb hwb HSEL hi1 hi2
          go_wp2_with fail
          refine HCP.out.mono ?_
          rintro r w5 ⟨rfl, hb5⟩
          rw [← HWB.out] at hb5
          have HB6 := Lib.hid (HBB.out.trans (hb5.mono HBB.out.size))
          have HBX5 : Hid (w5.heap[wr.heap.size]? = some (.cells #[.string ⟨x.name.toArray⟩, .string ⟨x.on.toArray⟩, .slice v2 nd d2, .slice v3 x.sels.length d3, .int .i64 xa] 57 (0, 0))) := Lib.hid (by rw [hb5.block _ (block_lt HBX.out)]; exact HBX.out)
          obtain ⟨bx, hbx⟩ : ∃ z, z = wr.heap.size := ⟨_, rfl⟩
          rw [← hbx] at HBX5 ⊢
          have y4 := blk_cell HBX5.out 4 (.int .i64 xa) rfl
          clear hb5 HCP HWB HBB hbx k0 k1 k2 k3 k4 HBX
          go_wp2_with fail
          go_roundg (fs.length + 1 - (j + 1))
          case measure => rw [HK.out]; omega
          case rel => exact ⟨j + 1, xa, rfl, hjl, by go_num, rfl, by omega, by omega, HR3.out, HB6.out⟩
        · have e2 : decide (j < fs.length) = false := decide_eq_false hjl
          have HDz : Hid (wr.heap[B]? = some (.cells #[.slice a1 os.length c1, .slice a2 fs.length c2] 46 (0, 0))) := Lib.hid (by rw [HBE.out.block _ (block_lt HDr.out)]; exact HDr.out)
          have z0 := blk_cell HDz.out 0 (.slice a1 os.length c1) rfl
          have z1 := blk_cell HDz.out 1 (.slice a2 fs.length c2) rfl
          have hpos : 0 < os.length + fs.length := by
            rcases HNE.out with h | h
            · have := List.length_pos_iff.2 h; omega
            · have := List.length_pos_iff.2 h; omega
          have e9 : decide ((0 : Int) < (os.length : Int) + (fs.length : Int)) = true := decide_eq_true (by omega)
          go_wp2_with fail
          go_ret
          exact ⟨rfl, HBW.out.trans (HBE.out.mono HBW.out.size)⟩
end Go.Proofs.YtabcaljnpahgpaaDoor
