/-
  The places of selections, walked.
-/
import Derived.Test.YtabcaljnpahgpaaDoorK26
import Derived.Test.YtabcaljnpahgpaaDoorQrq2
namespace Go.Proofs.YtabcaljnpahgpaaDoor
set_option linter.unusedSimpArgs false
set_option linter.unusedVariables false
open Go Go.RowKit

theorem A_open {w : World} {P : Nat → Prop} {x : Rd.A} {cs : List Value} (h : Reads w P x.d cs) : ∃ (k : Int) (t : ByteArray) (a1 a2 : Option Addr) (n1 c1 n2 c2 : Nat), cs = [.string ⟨x.name.toArray⟩, .int .i64 k, .string t, .slice a1 n1 c1, .slice a2 n2 c2, .int .i64 x.v.at_, .int .i64 x.at_] := by
  cases x with
  | mk nm v a =>
    unfold Rd.A.d at h
    obtain ⟨x1, r1, rfl, e1, h1⟩ := h.obj_inv.cons_inv
    obtain ⟨x2, r2, rfl, e2, h2⟩ := h1.cons_inv
    obtain ⟨x3, r3, rfl, e3, h3⟩ := h2.cons_inv
    obtain rfl := e1.str_inv
    obtain ⟨a1, a2, c1, c2, rfl, -, -⟩ := V_open e2
    obtain rfl := e3.int_inv
    obtain rfl := h3.nil_inv
    exact ⟨_, _, _, _, _, _, _, _, rfl⟩
namespace Qr
theorem chainA_len {e : Int} : ∀ {l : List Rd.A} {last : Int}, chainA last e l → l = [] ∨ (l.length : Int) + last + 1 ≤ e
  | [], _, _ => .inl rfl
  | x :: r, last, h => by
    unfold chainA at h
    obtain ⟨h1, h2, h3, h4⟩ := h
    right
    rcases chainA_len h4 with rfl | h5
    · simp; omega
    · simp only [List.length_cons]; omega
theorem chainD_len {e : Int} : ∀ {l : List Dir} {last : Int}, chainD last e l → l = [] ∨ (l.length : Int) + last + 1 ≤ e
  | [], _, _ => .inl rfl
  | x :: r, last, h => by
    unfold chainD at h
    obtain ⟨h1, h2, h4⟩ := h
    right
    rcases chainD_len h4 with rfl | h5
    · simp; omega
    · simp only [List.length_cons]; omega
theorem okP_parts {x : Sel} {f e : Int} (h : x.okP f e) : f ≤ x.at_ ∧ (x.at_ : Int) < e ∧ Sel.okPs x.sels ((x.at_ : Int) + 1) e ∧ chainA ((x.at_ : Int) - 1) e x.args ∧ chainD (lastA ((x.at_ : Int) - 1) x.args) e x.dirs := by
  cases x
  unfold Sel.okP at h
  exact h
theorem okPs_cons {x : Sel} {r : List Sel} {f tt : Int} (h : Sel.okPs (x :: r) f tt) : x.okP f (nextOf tt r) ∧ Sel.okPs r ((x.at_ : Int) + 1) tt := by
  unfold Sel.okPs at h
  exact h
theorem okPs_len {tt : Int} : ∀ {l : List Sel} {f : Int}, Sel.okPs l f tt → l = [] ∨ (l.length : Int) + f ≤ tt
  | [], _, _ => .inl rfl
  | x :: r, f, h => by
    obtain ⟨h1, h2⟩ := okPs_cons h
    obtain ⟨k1, k2, -⟩ := okP_parts h1
    right
    rcases okPs_len h2 with rfl | h5
    · have k3 : (x.at_ : Int) < tt := k2
      simp; omega
    · simp only [List.length_cons]; omega
theorem next_le {tt : Int} : ∀ {r : List Sel} {f : Int}, Sel.okPs r f tt → nextOf tt r ≤ tt
  | [], _, _ => Int.le_refl _
  | y :: r, f, h => by
    obtain ⟨h1, h2⟩ := okPs_cons h
    obtain ⟨k1, k2, -⟩ := okP_parts h1
    have := next_le h2
    show (y.at_ : Int) ≤ tt
    omega
theorem sels_size (x : Sel) : SizeOf.sizeOf x.sels < SizeOf.sizeOf x := by
  cases x
  show SizeOf.sizeOf _ < _
  simp only [Sel.sels, Sel.mk.sizeOf_spec]
  omega
end Qr
set_option maxHeartbeats 4000000 in
set_option maxRecDepth 100000 in
theorem places_any : ∀ (N : Nat) (l : List Qr.Sel), SizeOf.sizeOf l ≤ N → ∀ (a : Option Addr) (c : Nat) (f tt : Int) (w : World), Reads w (fun _ => True) (.seq 7 (l.map Qr.Sel.d)) [.slice a l.length c] → 0 ≤ f → tt ≤ 5000 → Qr.Sel.okPs l f tt →
    Calls Tryd.prog 11 #[.slice a l.length c, .int .i64 f, .int .i64 tt] w (fun e w' => e = .returned (.bool true) ∧ Below w.heap.size w w') := by
  intro N
  induction N with
  | zero => intro l hl; exfalso; cases l <;> simp at hl
  | succ N IH =>
    intro l hN a c f tt w hR h0 hto hok
    have hll : l.length ≤ 5000 := by
      rcases Qr.okPs_len hok with rfl | h
      · exact Nat.zero_le _
      · omega
    have HIH := Lib.hid IH
    have HR := Lib.hid hR
    have HOK := Lib.hid hok
    have HN := Lib.hid hN
    clear IH hR hok hN
    go_enter Tryd.func11, Tryd.ntmps11
    go_wp2_with fail
    go_loopg [1, 17] (l.length + 1) (fun k fv i wr => ∃ (j : Nat) (f2 : Int), k = l.length + 1 - j ∧ j ≤ l.length ∧ i = .int .i64 j ∧ fv = .int .i64 f2 ∧ 0 ≤ f2 ∧ Qr.Sel.okPs (l.drop j) f2 tt ∧ Below w.heap.size w wr)
    case atStart => exact ⟨0, f, rfl, Nat.zero_le _, rfl, rfl, h0, HOK.out, Below.refl _ _⟩
    case round =>
      obtain ⟨j, f2, hk, hj, rfl, rfl, hf2, hok, hbe⟩ := hrel
      have HK := Lib.hid hk
      have HOK2 := Lib.hid hok
      have HBE := Lib.hid hbe
      clear hk hok hbe HOK h0
      by_cases hjl : j < l.length
      · have e1 : decide (j < l.length) = true := decide_eq_true hjl
        obtain ⟨x, hx⟩ : ∃ z, l[j]? = some z := ⟨l[j], List.getElem?_eq_getElem hjl⟩
        have hdr : l.drop j = x :: l.drop (j + 1) := by rw [List.drop_eq_getElem_cons hjl]; rw [List.getElem?_eq_getElem hjl] at hx; rw [Option.some.inj hx]
        have hp := HOK2.out
        rw [hdr] at hp
        obtain ⟨hp1, hp2⟩ := Qr.okPs_cons hp
        have hnl := Qr.next_le hp2
        obtain ⟨q1, q2, q3, q4, q5⟩ := Qr.okP_parts hp1
        have HSZ : Hid (SizeOf.sizeOf x.sels ≤ N) := Lib.hid (by
          have h1 := Qr.sels_size x
          have h2 := List.sizeOf_lt_of_mem (List.mem_of_getElem? hx)
          have h3 := HN.out
          omega)
        obtain ⟨g, o, cs, ha, -, hgl, hlen, hcell, hd⟩ := HR.out.elem.2 j x.d (by rw [List.getElem?_map, hx]; rfl)
        obtain ⟨a1, a2, a3, c1, c2, c3, rfl, hra, hrd, hrs⟩ := Sel_open hd
        have hN1 := Qr.chainA_len q4
        have hN2 := Qr.chainD_len q5
        obtain ⟨xa, hxa⟩ : ∃ z : Int, z = (x.at_ : Int) := ⟨_, rfl⟩
        obtain ⟨kd, hkd⟩ : ∃ z : Int, z = (x.kind : Int) := ⟨_, rfl⟩
        obtain ⟨al, hal⟩ : ∃ z : ByteArray, z = ⟨x.alias.toArray⟩ := ⟨_, rfl⟩
        obtain ⟨nm, hnm⟩ : ∃ z : ByteArray, z = ⟨x.name.toArray⟩ := ⟨_, rfl⟩
        obtain ⟨n1, hn1⟩ : ∃ z, z = x.args.length := ⟨_, rfl⟩
        obtain ⟨n2, hn2⟩ : ∃ z, z = x.dirs.length := ⟨_, rfl⟩
        rw [← hxa] at q1 q2 q3 q4 q5 hp2 hcell hN1 hN2
        rw [← hkd, ← hal, ← hnm, ← hn1, ← hn2] at hcell
        rw [← hn1] at hra hN1
        rw [← hn2] at hrd hN2
        have k0 : wr.cell? ⟨g, o + j * 7, none⟩ = _ := (HBE.out.cell (p := ⟨g, o + j * 7, none⟩) hgl).trans (hcell 0 _ rfl)
        have k1 : wr.cell? ⟨g, o + j * 7 + 1, none⟩ = _ := (HBE.out.cell (p := ⟨g, o + j * 7 + 1, none⟩) hgl).trans (hcell 1 _ rfl)
        have k2 : wr.cell? ⟨g, o + j * 7 + 2, none⟩ = _ := (HBE.out.cell (p := ⟨g, o + j * 7 + 2, none⟩) hgl).trans (hcell 2 _ rfl)
        have k3 : wr.cell? ⟨g, o + j * 7 + 3, none⟩ = _ := (HBE.out.cell (p := ⟨g, o + j * 7 + 3, none⟩) hgl).trans (hcell 3 _ rfl)
        have k4 : wr.cell? ⟨g, o + j * 7 + 4, none⟩ = _ := (HBE.out.cell (p := ⟨g, o + j * 7 + 4, none⟩) hgl).trans (hcell 4 _ rfl)
        have k5 : wr.cell? ⟨g, o + j * 7 + 5, none⟩ = _ := (HBE.out.cell (p := ⟨g, o + j * 7 + 5, none⟩) hgl).trans (hcell 5 _ rfl)
        have k6 : wr.cell? ⟨g, o + j * 7 + 6, none⟩ = _ := (HBE.out.cell (p := ⟨g, o + j * 7 + 6, none⟩) hgl).trans (hcell 6 _ rfl)
        have HBL : Hid (Below w.heap.size w (wr.alloc (.cells #[.int .i64 kd, .string al, .string nm, .slice a1 n1 c1, .slice a2 n2 c2, .slice a3 x.sels.length c3, .int .i64 xa] 74))) := Lib.hid (HBE.out.alloc HBE.out.size _)
        have HRA := Lib.hid hra
        have HRD := Lib.hid hrd
        have HRS := Lib.hid (hrs.to (Stands.below HBL.out))
        have HN1 := Lib.hid hn1
        have HN2 := Lib.hid hn2
        have HCA := Lib.hid q4
        have HNX := Lib.hid hp2
        have hn15 : n1 ≤ 6000 := by rcases hN1 with h | h; (rw [hn1, h]; exact Nat.zero_le _); omega
        have hn25 : n2 ≤ 6000 := by
          rcases hN2 with h | h
          · rw [hn2, h]; exact Nat.zero_le _
          · have hla : (-1 : Int) ≤ Qr.lastA (xa - 1) x.args := by
              have : ∀ (r : List Rd.A) (z : Int), -1 ≤ z → -1 ≤ Qr.lastA z r := by
                intro r
                induction r with
                | nil => exact fun z h => h
                | cons y r ih => exact fun z _ => ih _ (by omega)
              exact this _ _ (by omega)
            omega
        have hxa1 : 0 ≤ xa + 1 := by omega
        have hx0 : 0 ≤ xa := by omega
        have hxt : xa ≤ 5000 := by omega
        have HCD0 := Lib.hid q5
        have HOKS0 := Lib.hid q3
        have e2 : decide (xa < f2) = false := decide_eq_false (by omega)
        clear hx hp hp1 hlen hcell hd hra hrd hrs hN1 hN2 hxa hkd hal hnm hn1 hn2 q3 q4 q5 hp2 HOK2
        by_cases hj1 : j + 1 < l.length
        · obtain ⟨y, hy⟩ : ∃ z, l[j + 1]? = some z := ⟨l[j + 1], List.getElem?_eq_getElem hj1⟩
          have hdr2 : l.drop (j + 1) = y :: l.drop (j + 1 + 1) := by rw [List.drop_eq_getElem_cons hj1]; rw [List.getElem?_eq_getElem hj1] at hy; rw [Option.some.inj hy]
          obtain ⟨g', o', cs', ha', -, hgl', hlen', hcell', hd'⟩ := HR.out.elem.2 (j + 1) y.d (by rw [List.getElem?_map, hy]; rfl)
          obtain ⟨a1', a2', a3', c1', c2', c3', rfl, -⟩ := Sel_open hd'
          obtain ⟨E, hE⟩ : ∃ z : Int, z = (y.at_ : Int) := ⟨_, rfl⟩
          have hEn : Qr.nextOf tt (l.drop (j + 1)) = E := by rw [hdr2, hE]; rfl
          rw [hEn] at q2 HCA HCD0 HOKS0 hnl
          have HCD := HCD0
          have HOKS := HOKS0
          rw [← hE] at hcell'
          subst ha
          obtain ⟨rfl, rfl⟩ : g = g' ∧ o = o' := by simpa using ha'
          have k7 : (wr.alloc (.cells #[.int .i64 kd, .string al, .string nm, .slice a1 n1 c1, .slice a2 n2 c2, .slice a3 x.sels.length c3, .int .i64 xa] 74)).cell? ⟨g, o + (j + 1) * 7 + 6, none⟩ = _ := (HBL.out.cell (p := ⟨g, o + (j + 1) * 7 + 6, none⟩) hgl).trans (hcell' 6 _ rfl)
          have hE5 : E ≤ 5000 := by omega
          have e3 : decide (j + 1 < l.length) = true := decide_eq_true hj1
          have e4 : decide ((j : Int) + 1 < (l.length : Int)) = true := decide_eq_true (by omega)
          have e5 : decide (E ≤ xa) = false := decide_eq_false (by omega)
          clear hy hdr hdr2 hlen' hcell' hd' ha' hEn hE HCD0 HOKS0
          go_wp2_with fail
          refine (HIH.out x.sels HSZ.out a3 c3 (xa + 1) E _ HRS.out hxa1 hE5 HOKS.out).mono ?_
          rintro r w5 ⟨rfl, hb5⟩
          have HB5 := Lib.hid hb5
          obtain ⟨wb, hwb⟩ : ∃ z, z = wr.alloc (.cells #[.int .i64 kd, .string al, .string nm, .slice a1 n1 c1, .slice a2 n2 c2, .slice a3 x.sels.length c3, .int .i64 xa] 74) := ⟨_, rfl⟩
          have hbw : Below w.heap.size w wb := by rw [hwb]; exact HBE.out.alloc HBE.out.size _
          have hbx : wb.heap[wr.heap.size]? = some (.cells #[.int .i64 kd, .string al, .string nm, .slice a1 n1 c1, .slice a2 n2 c2, .slice a3 x.sels.length c3, .int .i64 xa] 74 (0, 0)) := by rw [hwb]; exact heap_at_new _ _
          rw [← hwb] at hb5
          have HBX : Hid (w5.heap[wr.heap.size]? = some (.cells #[.int .i64 kd, .string al, .string nm, .slice a1 n1 c1, .slice a2 n2 c2, .slice a3 x.sels.length c3, .int .i64 xa] 74 (0, 0))) := Lib.hid (by rw [hb5.block _ (block_lt hbx)]; exact hbx)
          have HBW := Lib.hid (hbw.trans (hb5.mono hbw.size))
          have HRA5 := Lib.hid (HRA.out.to (Stands.below HBW.out))
          have HRD5 := Lib.hid (HRD.out.to (Stands.below HBW.out))
          obtain ⟨bx, hbx2⟩ : ∃ z, z = wr.heap.size := ⟨_, rfl⟩
          rw [← hbx2] at HBX ⊢
          have z6 := blk_cell HBX.out 6 (.int .i64 xa) rfl
          have z3 := blk_cell HBX.out 3 (.slice a1 n1 c1) rfl
          clear hb5 hwb hbw hbx hbx2 HB5 HRS HSZ HOKS
          go_wp2_with fail
          go_loopg [10, 60] (n1 + 1) (fun k la i wr => ∃ (q : Nat) (l2 : Int), k = n1 + 1 - q ∧ q ≤ n1 ∧ i = .int .i64 q ∧ la = .int .i64 l2 ∧ -1 ≤ l2 ∧ l2 ≤ 5000 ∧ Qr.chainA l2 E (x.args.drop q) ∧ Qr.lastA l2 (x.args.drop q) = Qr.lastA (xa - 1) x.args ∧ Below w5.heap.size w5 wr)
          case atStart => exact ⟨0, _, rfl, Nat.zero_le _, rfl, rfl, by omega, by omega, HCA.out, rfl, Below.refl _ _⟩
          case round =>
            obtain ⟨q, l2, hk, hq, rfl, rfl, hl2, hl3, hca, hla, hb6⟩ := hrel
            have HK6 := Lib.hid hk
            have HC6 := Lib.hid hca
            have HL6 := Lib.hid hla
            have HB6 := Lib.hid hb6
            clear hk hca hla hb6 z6 z3
            by_cases hql : q < n1
            · have e6 : decide (q < n1) = true := decide_eq_true hql
              obtain ⟨y, hy⟩ : ∃ z, x.args[q]? = some z := ⟨x.args[q]'(by have := HN1.out; omega), List.getElem?_eq_getElem _⟩
              have hdr : x.args.drop q = y :: x.args.drop (q + 1) := by
                have hlt := (List.getElem?_eq_some_iff.1 hy).1
                rw [List.drop_eq_getElem_cons hlt]
                rw [List.getElem?_eq_getElem hlt] at hy
                rw [Option.some.inj hy]
              have h1 := HC6.out
              have h2 := HL6.out
              rw [hdr] at h1 h2
              obtain ⟨m1, m2, m3, m4⟩ := h1
              obtain ⟨g2, o2, cs2, ha2, -, hgl2, hlen2, hcell2, hd2⟩ := HRA5.out.elem.2 q (Rd.A.d y) (by rw [List.getElem?_map, hy]; rfl)
              obtain ⟨kv, tv, s1, s2, u1, v1, u2, v2, rfl⟩ := A_open hd2
              obtain ⟨ya, hya⟩ : ∃ z : Int, z = (y.at_ : Int) := ⟨_, rfl⟩
              obtain ⟨yv, hyv⟩ : ∃ z : Int, z = (y.v.at_ : Int) := ⟨_, rfl⟩
              have m3' : ya < yv := by rw [hya, hyv]; exact Int.ofNat_lt.2 m3
              rw [← hya] at m1 m2 m4
              rw [← hya, ← hyv] at hcell2
              have HC7 := Lib.hid m4
              have HL7 : Hid (Qr.lastA ya (x.args.drop (q + 1)) = Qr.lastA (xa - 1) x.args) := by rw [hya]; exact Lib.hid h2
              subst ha2
              have b0 : wr.cell? ⟨g2, o2 + q * 7, none⟩ = _ := (HB6.out.cell (p := ⟨g2, o2 + q * 7, none⟩) hgl2).trans (hcell2 0 _ rfl)
              have b1 : wr.cell? ⟨g2, o2 + q * 7 + 1, none⟩ = _ := (HB6.out.cell (p := ⟨g2, o2 + q * 7 + 1, none⟩) hgl2).trans (hcell2 1 _ rfl)
              have b2 : wr.cell? ⟨g2, o2 + q * 7 + 2, none⟩ = _ := (HB6.out.cell (p := ⟨g2, o2 + q * 7 + 2, none⟩) hgl2).trans (hcell2 2 _ rfl)
              have b3 : wr.cell? ⟨g2, o2 + q * 7 + 3, none⟩ = _ := (HB6.out.cell (p := ⟨g2, o2 + q * 7 + 3, none⟩) hgl2).trans (hcell2 3 _ rfl)
              have b4 : wr.cell? ⟨g2, o2 + q * 7 + 4, none⟩ = _ := (HB6.out.cell (p := ⟨g2, o2 + q * 7 + 4, none⟩) hgl2).trans (hcell2 4 _ rfl)
              have b5 : wr.cell? ⟨g2, o2 + q * 7 + 5, none⟩ = _ := (HB6.out.cell (p := ⟨g2, o2 + q * 7 + 5, none⟩) hgl2).trans (hcell2 5 _ rfl)
              have b6 : wr.cell? ⟨g2, o2 + q * 7 + 6, none⟩ = _ := (HB6.out.cell (p := ⟨g2, o2 + q * 7 + 6, none⟩) hgl2).trans (hcell2 6 _ rfl)
              have e7 : decide (ya ≤ l2) = false := decide_eq_false (by omega)
              have e8 : decide (E ≤ ya) = false := decide_eq_false (by omega)
              have e9 : decide (yv ≤ ya) = false := decide_eq_false (by omega)
              clear hy hdr h2 hlen2 hcell2 hd2 hya hyv m4 m3
              go_wp2_with fail
              go_roundg (n1 + 1 - (q + 1))
              case measure => rw [HK6.out]; omega
              case rel => exact ⟨q + 1, ya, rfl, hql, by go_num, rfl, by omega, by omega, HC7.out, HL7.out, HB6.out.alloc HB6.out.size _⟩
            · have e6 : decide (q < n1) = false := decide_eq_false hql
              have HL7 : Hid (l2 = Qr.lastA (xa - 1) x.args) := by
                have h2 := HL6.out
                rw [List.drop_eq_nil_of_le (by have := HN1.out; omega)] at h2
                exact Lib.hid h2
              have HCD7 : Hid (Qr.chainD l2 E x.dirs) := by rw [HL7.out]; exact HCD
              have HBX6 : Hid (wr.heap[bx]? = some (.cells #[.int .i64 kd, .string al, .string nm, .slice a1 n1 c1, .slice a2 n2 c2, .slice a3 x.sels.length c3, .int .i64 xa] 74 (0, 0))) := Lib.hid (by rw [HB6.out.block _ (block_lt HBX.out)]; exact HBX.out)
              have z4 := blk_cell HBX6.out 4 (.slice a2 n2 c2) rfl
              go_wp2_with fail
              go_loopg [10, 88] (n2 + 1) (fun k la i wr => ∃ (q : Nat) (l2 : Int), k = n2 + 1 - q ∧ q ≤ n2 ∧ i = .int .i64 q ∧ la = .int .i64 l2 ∧ -1 ≤ l2 ∧ l2 ≤ 5000 ∧ Qr.chainD l2 E (x.dirs.drop q) ∧ Below w5.heap.size w5 wr)
              case atStart => exact ⟨0, _, rfl, Nat.zero_le _, rfl, rfl, by omega, by omega, HCD7.out, HB6.out⟩
              case round =>
                obtain ⟨q, l2, hk, hq, rfl, rfl, hl2, hl3, hca, hb6⟩ := hrel
                have HK6 := Lib.hid hk
                have HC6 := Lib.hid hca
                have HB6 := Lib.hid hb6
                clear hk hca hb6 z4
                by_cases hql : q < n2
                · have e6 : decide (q < n2) = true := decide_eq_true hql
                  obtain ⟨y, hy⟩ : ∃ z, x.dirs[q]? = some z := ⟨x.dirs[q]'(by have := HN2.out; omega), List.getElem?_eq_getElem _⟩
                  have hdr : x.dirs.drop q = y :: x.dirs.drop (q + 1) := by
                    have hlt := (List.getElem?_eq_some_iff.1 hy).1
                    rw [List.drop_eq_getElem_cons hlt]
                    rw [List.getElem?_eq_getElem hlt] at hy
                    rw [Option.some.inj hy]
                  have h1 := HC6.out
                  rw [hdr] at h1
                  obtain ⟨m1, m2, m4⟩ := h1
                  obtain ⟨g2, o2, cs2, ha2, -, hgl2, hlen2, hcell2, hd2⟩ := HRD5.out.elem.2 q (Qr.Dir.d y) (by rw [List.getElem?_map, hy]; rfl)
                  obtain ⟨s1, v1, rfl, -⟩ := Dir_open hd2
                  obtain ⟨ya, hya⟩ : ∃ z : Int, z = (y.at_ : Int) := ⟨_, rfl⟩
                  rw [← hya] at m1 m2 m4 hcell2
                  have HC7 := Lib.hid m4
                  subst ha2
                  have b0 : wr.cell? ⟨g2, o2 + q * 3, none⟩ = _ := (HB6.out.cell (p := ⟨g2, o2 + q * 3, none⟩) hgl2).trans (hcell2 0 _ rfl)
                  have b1 : wr.cell? ⟨g2, o2 + q * 3 + 1, none⟩ = _ := (HB6.out.cell (p := ⟨g2, o2 + q * 3 + 1, none⟩) hgl2).trans (hcell2 1 _ rfl)
                  have b2 : wr.cell? ⟨g2, o2 + q * 3 + 2, none⟩ = _ := (HB6.out.cell (p := ⟨g2, o2 + q * 3 + 2, none⟩) hgl2).trans (hcell2 2 _ rfl)
                  have e7 : decide (ya ≤ l2) = false := decide_eq_false (by omega)
                  have e8 : decide (E ≤ ya) = false := decide_eq_false (by omega)
                  clear hy hdr hlen2 hcell2 hd2 hya m4
                  go_wp2_with fail
                  go_roundg (n2 + 1 - (q + 1))
                  case measure => rw [HK6.out]; omega
                  case rel => exact ⟨q + 1, ya, rfl, hql, by go_num, rfl, by omega, by omega, HC7.out, HB6.out.alloc HB6.out.size _⟩
                · have e6 : decide (q < n2) = false := decide_eq_false hql
                  have HBX7 : Hid (wr.heap[bx]? = some (.cells #[.int .i64 kd, .string al, .string nm, .slice a1 n1 c1, .slice a2 n2 c2, .slice a3 x.sels.length c3, .int .i64 xa] 74 (0, 0))) := Lib.hid (by rw [HB6.out.block _ (block_lt HBX.out)]; exact HBX.out)
                  have z7 := blk_cell HBX7.out 6 (.int .i64 xa) rfl
                  go_wp2_with fail
                  go_roundg (l.length + 1 - (j + 1))
                  case measure => rw [HK.out]; omega
                  case rel => exact ⟨j + 1, xa + 1, rfl, hjl, by go_num, rfl, hxa1, HNX.out, HBW.out.trans (HB6.out.mono HBW.out.size)⟩
        · have hEn : Qr.nextOf tt (l.drop (j + 1)) = tt := by rw [List.drop_eq_nil_of_le (by omega)]; rfl
          rw [hEn] at q2 HCA HCD0 HOKS0 hnl
          have HCD := HCD0
          have HOKS := HOKS0
          subst ha
          have hE5 : tt ≤ 5000 := hto
          have e3 : decide (j + 1 < l.length) = false := decide_eq_false hj1
          have e4 : decide ((j : Int) + 1 < (l.length : Int)) = false := decide_eq_false (by omega)
          have e5 : decide (tt ≤ xa) = false := decide_eq_false (by omega)
          clear hdr hEn HCD0 HOKS0
          go_wp2_with fail
          refine (HIH.out x.sels HSZ.out a3 c3 (xa + 1) tt _ HRS.out hxa1 hE5 HOKS.out).mono ?_
          rintro r w5 ⟨rfl, hb5⟩
          have HB5 := Lib.hid hb5
          obtain ⟨wb, hwb⟩ : ∃ z, z = wr.alloc (.cells #[.int .i64 kd, .string al, .string nm, .slice a1 n1 c1, .slice a2 n2 c2, .slice a3 x.sels.length c3, .int .i64 xa] 74) := ⟨_, rfl⟩
          have hbw : Below w.heap.size w wb := by rw [hwb]; exact HBE.out.alloc HBE.out.size _
          have hbx : wb.heap[wr.heap.size]? = some (.cells #[.int .i64 kd, .string al, .string nm, .slice a1 n1 c1, .slice a2 n2 c2, .slice a3 x.sels.length c3, .int .i64 xa] 74 (0, 0)) := by rw [hwb]; exact heap_at_new _ _
          rw [← hwb] at hb5
          have HBX : Hid (w5.heap[wr.heap.size]? = some (.cells #[.int .i64 kd, .string al, .string nm, .slice a1 n1 c1, .slice a2 n2 c2, .slice a3 x.sels.length c3, .int .i64 xa] 74 (0, 0))) := Lib.hid (by rw [hb5.block _ (block_lt hbx)]; exact hbx)
          have HBW := Lib.hid (hbw.trans (hb5.mono hbw.size))
          have HRA5 := Lib.hid (HRA.out.to (Stands.below HBW.out))
          have HRD5 := Lib.hid (HRD.out.to (Stands.below HBW.out))
          obtain ⟨bx, hbx2⟩ : ∃ z, z = wr.heap.size := ⟨_, rfl⟩
          rw [← hbx2] at HBX ⊢
          have z6 := blk_cell HBX.out 6 (.int .i64 xa) rfl
          have z3 := blk_cell HBX.out 3 (.slice a1 n1 c1) rfl
          clear hb5 hwb hbw hbx hbx2 HB5 HRS HSZ HOKS
          go_wp2_with fail
          go_loopg [10, 60] (n1 + 1) (fun k la i wr => ∃ (q : Nat) (l2 : Int), k = n1 + 1 - q ∧ q ≤ n1 ∧ i = .int .i64 q ∧ la = .int .i64 l2 ∧ -1 ≤ l2 ∧ l2 ≤ 5000 ∧ Qr.chainA l2 tt (x.args.drop q) ∧ Qr.lastA l2 (x.args.drop q) = Qr.lastA (xa - 1) x.args ∧ Below w5.heap.size w5 wr)
          case atStart => exact ⟨0, _, rfl, Nat.zero_le _, rfl, rfl, by omega, by omega, HCA.out, rfl, Below.refl _ _⟩
          case round =>
            obtain ⟨q, l2, hk, hq, rfl, rfl, hl2, hl3, hca, hla, hb6⟩ := hrel
            have HK6 := Lib.hid hk
            have HC6 := Lib.hid hca
            have HL6 := Lib.hid hla
            have HB6 := Lib.hid hb6
            clear hk hca hla hb6 z6 z3
            by_cases hql : q < n1
            · have e6 : decide (q < n1) = true := decide_eq_true hql
              obtain ⟨y, hy⟩ : ∃ z, x.args[q]? = some z := ⟨x.args[q]'(by have := HN1.out; omega), List.getElem?_eq_getElem _⟩
              have hdr : x.args.drop q = y :: x.args.drop (q + 1) := by
                have hlt := (List.getElem?_eq_some_iff.1 hy).1
                rw [List.drop_eq_getElem_cons hlt]
                rw [List.getElem?_eq_getElem hlt] at hy
                rw [Option.some.inj hy]
              have h1 := HC6.out
              have h2 := HL6.out
              rw [hdr] at h1 h2
              obtain ⟨m1, m2, m3, m4⟩ := h1
              obtain ⟨g2, o2, cs2, ha2, -, hgl2, hlen2, hcell2, hd2⟩ := HRA5.out.elem.2 q (Rd.A.d y) (by rw [List.getElem?_map, hy]; rfl)
              obtain ⟨kv, tv, s1, s2, u1, v1, u2, v2, rfl⟩ := A_open hd2
              obtain ⟨ya, hya⟩ : ∃ z : Int, z = (y.at_ : Int) := ⟨_, rfl⟩
              obtain ⟨yv, hyv⟩ : ∃ z : Int, z = (y.v.at_ : Int) := ⟨_, rfl⟩
              have m3' : ya < yv := by rw [hya, hyv]; exact Int.ofNat_lt.2 m3
              rw [← hya] at m1 m2 m4
              rw [← hya, ← hyv] at hcell2
              have HC7 := Lib.hid m4
              have HL7 : Hid (Qr.lastA ya (x.args.drop (q + 1)) = Qr.lastA (xa - 1) x.args) := by rw [hya]; exact Lib.hid h2
              subst ha2
              have b0 : wr.cell? ⟨g2, o2 + q * 7, none⟩ = _ := (HB6.out.cell (p := ⟨g2, o2 + q * 7, none⟩) hgl2).trans (hcell2 0 _ rfl)
              have b1 : wr.cell? ⟨g2, o2 + q * 7 + 1, none⟩ = _ := (HB6.out.cell (p := ⟨g2, o2 + q * 7 + 1, none⟩) hgl2).trans (hcell2 1 _ rfl)
              have b2 : wr.cell? ⟨g2, o2 + q * 7 + 2, none⟩ = _ := (HB6.out.cell (p := ⟨g2, o2 + q * 7 + 2, none⟩) hgl2).trans (hcell2 2 _ rfl)
              have b3 : wr.cell? ⟨g2, o2 + q * 7 + 3, none⟩ = _ := (HB6.out.cell (p := ⟨g2, o2 + q * 7 + 3, none⟩) hgl2).trans (hcell2 3 _ rfl)
              have b4 : wr.cell? ⟨g2, o2 + q * 7 + 4, none⟩ = _ := (HB6.out.cell (p := ⟨g2, o2 + q * 7 + 4, none⟩) hgl2).trans (hcell2 4 _ rfl)
              have b5 : wr.cell? ⟨g2, o2 + q * 7 + 5, none⟩ = _ := (HB6.out.cell (p := ⟨g2, o2 + q * 7 + 5, none⟩) hgl2).trans (hcell2 5 _ rfl)
              have b6 : wr.cell? ⟨g2, o2 + q * 7 + 6, none⟩ = _ := (HB6.out.cell (p := ⟨g2, o2 + q * 7 + 6, none⟩) hgl2).trans (hcell2 6 _ rfl)
              have e7 : decide (ya ≤ l2) = false := decide_eq_false (by omega)
              have e8 : decide (tt ≤ ya) = false := decide_eq_false (by omega)
              have e9 : decide (yv ≤ ya) = false := decide_eq_false (by omega)
              clear hy hdr h2 hlen2 hcell2 hd2 hya hyv m4 m3
              go_wp2_with fail
              go_roundg (n1 + 1 - (q + 1))
              case measure => rw [HK6.out]; omega
              case rel => exact ⟨q + 1, ya, rfl, hql, by go_num, rfl, by omega, by omega, HC7.out, HL7.out, HB6.out.alloc HB6.out.size _⟩
            · have e6 : decide (q < n1) = false := decide_eq_false hql
              have HL7 : Hid (l2 = Qr.lastA (xa - 1) x.args) := by
                have h2 := HL6.out
                rw [List.drop_eq_nil_of_le (by have := HN1.out; omega)] at h2
                exact Lib.hid h2
              have HCD7 : Hid (Qr.chainD l2 tt x.dirs) := by rw [HL7.out]; exact HCD
              have HBX6 : Hid (wr.heap[bx]? = some (.cells #[.int .i64 kd, .string al, .string nm, .slice a1 n1 c1, .slice a2 n2 c2, .slice a3 x.sels.length c3, .int .i64 xa] 74 (0, 0))) := Lib.hid (by rw [HB6.out.block _ (block_lt HBX.out)]; exact HBX.out)
              have z4 := blk_cell HBX6.out 4 (.slice a2 n2 c2) rfl
              go_wp2_with fail
              go_loopg [10, 88] (n2 + 1) (fun k la i wr => ∃ (q : Nat) (l2 : Int), k = n2 + 1 - q ∧ q ≤ n2 ∧ i = .int .i64 q ∧ la = .int .i64 l2 ∧ -1 ≤ l2 ∧ l2 ≤ 5000 ∧ Qr.chainD l2 tt (x.dirs.drop q) ∧ Below w5.heap.size w5 wr)
              case atStart => exact ⟨0, _, rfl, Nat.zero_le _, rfl, rfl, by omega, by omega, HCD7.out, HB6.out⟩
              case round =>
                obtain ⟨q, l2, hk, hq, rfl, rfl, hl2, hl3, hca, hb6⟩ := hrel
                have HK6 := Lib.hid hk
                have HC6 := Lib.hid hca
                have HB6 := Lib.hid hb6
                clear hk hca hb6 z4
                by_cases hql : q < n2
                · have e6 : decide (q < n2) = true := decide_eq_true hql
                  obtain ⟨y, hy⟩ : ∃ z, x.dirs[q]? = some z := ⟨x.dirs[q]'(by have := HN2.out; omega), List.getElem?_eq_getElem _⟩
                  have hdr : x.dirs.drop q = y :: x.dirs.drop (q + 1) := by
                    have hlt := (List.getElem?_eq_some_iff.1 hy).1
                    rw [List.drop_eq_getElem_cons hlt]
                    rw [List.getElem?_eq_getElem hlt] at hy
                    rw [Option.some.inj hy]
                  have h1 := HC6.out
                  rw [hdr] at h1
                  obtain ⟨m1, m2, m4⟩ := h1
                  obtain ⟨g2, o2, cs2, ha2, -, hgl2, hlen2, hcell2, hd2⟩ := HRD5.out.elem.2 q (Qr.Dir.d y) (by rw [List.getElem?_map, hy]; rfl)
                  obtain ⟨s1, v1, rfl, -⟩ := Dir_open hd2
                  obtain ⟨ya, hya⟩ : ∃ z : Int, z = (y.at_ : Int) := ⟨_, rfl⟩
                  rw [← hya] at m1 m2 m4 hcell2
                  have HC7 := Lib.hid m4
                  subst ha2
                  have b0 : wr.cell? ⟨g2, o2 + q * 3, none⟩ = _ := (HB6.out.cell (p := ⟨g2, o2 + q * 3, none⟩) hgl2).trans (hcell2 0 _ rfl)
                  have b1 : wr.cell? ⟨g2, o2 + q * 3 + 1, none⟩ = _ := (HB6.out.cell (p := ⟨g2, o2 + q * 3 + 1, none⟩) hgl2).trans (hcell2 1 _ rfl)
                  have b2 : wr.cell? ⟨g2, o2 + q * 3 + 2, none⟩ = _ := (HB6.out.cell (p := ⟨g2, o2 + q * 3 + 2, none⟩) hgl2).trans (hcell2 2 _ rfl)
                  have e7 : decide (ya ≤ l2) = false := decide_eq_false (by omega)
                  have e8 : decide (tt ≤ ya) = false := decide_eq_false (by omega)
                  clear hy hdr hlen2 hcell2 hd2 hya m4
                  go_wp2_with fail
                  go_roundg (n2 + 1 - (q + 1))
                  case measure => rw [HK6.out]; omega
                  case rel => exact ⟨q + 1, ya, rfl, hql, by go_num, rfl, by omega, by omega, HC7.out, HB6.out.alloc HB6.out.size _⟩
                · have e6 : decide (q < n2) = false := decide_eq_false hql
                  have HBX7 : Hid (wr.heap[bx]? = some (.cells #[.int .i64 kd, .string al, .string nm, .slice a1 n1 c1, .slice a2 n2 c2, .slice a3 x.sels.length c3, .int .i64 xa] 74 (0, 0))) := Lib.hid (by rw [HB6.out.block _ (block_lt HBX.out)]; exact HBX.out)
                  have z7 := blk_cell HBX7.out 6 (.int .i64 xa) rfl
                  go_wp2_with fail
                  go_roundg (l.length + 1 - (j + 1))
                  case measure => rw [HK.out]; omega
                  case rel => exact ⟨j + 1, xa + 1, rfl, hjl, by go_num, rfl, hxa1, HNX.out, HBW.out.trans (HB6.out.mono HBW.out.size)⟩
      · have e1 : decide (j < l.length) = false := decide_eq_false hjl
        go_wp2_with fail
        go_ret
        exact ⟨rfl, HBE.out⟩
end Go.Proofs.YtabcaljnpahgpaaDoor
