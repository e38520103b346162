/-
  Values are compared: 'Same', walked.
-/
import Derived.Test.YtabcaljnpahgpaaGreatDoorK13
import Derived.Test.YtabcaljnpahgpaaGreatDoorVz
namespace Go.Proofs.YtabcaljnpahgpaaGreatDoor
set_option linter.unusedSimpArgs false
set_option linter.unusedVariables false
open Go Go.RowKit
namespace Vl
mutual
def Z.d : Z → D
  | .mk k t items fields a => .obj [.int k, .str t, .seq 5 (Z.dl items), .seq 7 (ZA.dl fields), .int a]
def Z.dl : List Z → List D
  | [] => []
  | x :: r => Z.d x :: Z.dl r
def ZA.d : ZA → D
  | .mk n v a => .obj [.str n, Z.d v, .int a]
def ZA.dl : List ZA → List D
  | [] => []
  | x :: r => ZA.d x :: ZA.dl r
end
theorem Z.dl_map : ∀ l : List Z, Z.dl l = l.map Z.d
  | [] => by rw [Z.dl]; rfl
  | x :: r => by rw [Z.dl, Z.dl_map r]; rfl
theorem ZA.dl_map : ∀ l : List ZA, ZA.dl l = l.map ZA.d
  | [] => by rw [ZA.dl]; rfl
  | x :: r => by rw [ZA.dl, ZA.dl_map r]; rfl
mutual
theorem ofV_d : ∀ v : Rd.V, (ofV v).d = v.d
  | .mk k t i f a => by unfold ofV Z.d Rd.V.d; rw [ofVs_d i, ofAs_d f]
theorem ofVs_d : ∀ l : List Rd.V, Z.dl (ofVs l) = Rd.V.dl l
  | [] => by rw [ofVs, Z.dl, Rd.V.dl]
  | x :: r => by rw [ofVs, Z.dl, Rd.V.dl, ofV_d x, ofVs_d r]
theorem ofA_d : ∀ v : Rd.A, (ofA v).d = v.d
  | .mk n v a => by unfold ofA ZA.d Rd.A.d; rw [ofV_d v]
theorem ofAs_d : ∀ l : List Rd.A, ZA.dl (ofAs l) = Rd.A.dl l
  | [] => by rw [ofAs, ZA.dl, Rd.A.dl]
  | x :: r => by rw [ofAs, ZA.dl, Rd.A.dl, ofA_d x, ofAs_d r]
end
end Vl
section
variable {w : World} {P : Nat → Prop}
theorem Reads.el {k : Nat} {xs : List D} {a : Option Addr} {n c : Nat} (h : Reads w P (.seq k xs) [.slice a n c]) : ∀ (j : Nat) d, xs[j]? = some d → ∃ g o cs, a = some ⟨g, o, none⟩ ∧ P g ∧ g < w.heap.size ∧ cs.length = k ∧
    (∀ (q : Nat) v, cs[q]? = some v → w.cell? ⟨g, o + j * k + q, none⟩ = some v) ∧ Reads w P d cs := by
  obtain ⟨a', c', e, hr⟩ := h.seq_inv
  obtain ⟨rfl, rfl, rfl⟩ : a = a' ∧ n = xs.length ∧ c = c' := by simpa using e
  intro j d hj
  have := hr.at j d hj
  rw [Nat.zero_add] at this
  exact this
theorem Z_open {v : Vl.Z} {cs : List Value} (h : Reads w P v.d cs) : ∃ (a1 a2 : Option Addr) (c1 c2 : Nat), cs = [.int .i64 v.kind, .string ⟨v.text.toArray⟩, .slice a1 v.items.length c1, .slice a2 v.fields.length c2, .int .i64 v.at_] ∧
    Reads w P (.seq 5 (v.items.map Vl.Z.d)) [.slice a1 v.items.length c1] ∧ Reads w P (.seq 7 (v.fields.map Vl.ZA.d)) [.slice a2 v.fields.length c2] := by
  cases v with
  | mk k t is fs a =>
    unfold Vl.Z.d at h
    rw [Vl.Z.dl_map, Vl.ZA.dl_map] at h
    obtain ⟨x1, r1, rfl, e1, h1⟩ := h.obj_inv.cons_inv
    obtain ⟨x2, r2, rfl, e2, h2⟩ := h1.cons_inv
    obtain ⟨x3, r3, rfl, e3, h3⟩ := h2.cons_inv
    obtain ⟨x4, r4, rfl, e4, h4⟩ := h3.cons_inv
    obtain ⟨x5, r5, rfl, e5, h5⟩ := h4.cons_inv
    obtain rfl := e1.int_inv
    obtain rfl := e2.str_inv
    obtain ⟨b3, d3, rfl, _⟩ := e3.seq_inv
    obtain ⟨b4, d4, rfl, _⟩ := e4.seq_inv
    obtain rfl := e5.int_inv
    obtain rfl := h5.nil_inv
    simp only [List.length_map] at e3 e4 ⊢
    exact ⟨b3, b4, d3, d4, rfl, e3, e4⟩
theorem ZA_open {x : Vl.ZA} {cs : List Value} (h : Reads w P x.d cs) : ∃ (a1 a2 : Option Addr) (c1 c2 : Nat),
    cs = [.string ⟨x.name.toArray⟩, .int .i64 x.v.kind, .string ⟨x.v.text.toArray⟩, .slice a1 x.v.items.length c1, .slice a2 x.v.fields.length c2, .int .i64 x.v.at_, .int .i64 x.at_] ∧
    Reads w P x.v.d [.int .i64 x.v.kind, .string ⟨x.v.text.toArray⟩, .slice a1 x.v.items.length c1, .slice a2 x.v.fields.length c2, .int .i64 x.v.at_] := by
  cases x with
  | mk nm v a =>
    unfold Vl.ZA.d at h
    obtain ⟨x1, r1, rfl, e1, h1⟩ := h.obj_inv.cons_inv
    obtain ⟨x2, r2, rfl, e2, h2⟩ := h1.cons_inv
    obtain ⟨x3, r3, rfl, e3, h3⟩ := h2.cons_inv
    obtain rfl := e1.str_inv
    obtain ⟨a1, a2, c1, c2, rfl, -, -⟩ := Z_open e2
    obtain rfl := e3.int_inv
    obtain rfl := h3.nil_inv
    exact ⟨a1, a2, c1, c2, rfl, e2⟩
end
/-- 'Same', of values no greater than N. -/
def SameC (N : Nat) : Prop := ∀ (x y : Vl.Z), x.n ≤ N → ∀ (a1 a2 b1 b2 : Option Addr) (c1 c2 d1 d2 : Nat) (w : World) (P : Nat → Prop),
  Reads w P x.d [.int .i64 x.kind, .string ⟨x.text.toArray⟩, .slice a1 x.items.length c1, .slice a2 x.fields.length c2, .int .i64 x.at_] →
  Reads w P y.d [.int .i64 y.kind, .string ⟨y.text.toArray⟩, .slice b1 y.items.length d1, .slice b2 y.fields.length d2, .int .i64 y.at_] →
  Calls Tryz.prog 30 #[.agg #[.int .i64 x.kind, .string ⟨x.text.toArray⟩, .slice a1 x.items.length c1, .slice a2 x.fields.length c2, .int .i64 x.at_], .agg #[.int .i64 y.kind, .string ⟨y.text.toArray⟩, .slice b1 y.items.length d1, .slice b2 y.fields.length d2, .int .i64 y.at_]] w
    (fun r w' => r = .returned (.bool (x.same y)) ∧ Below w.heap.size w w')
set_option maxHeartbeats 2000000 in
set_option maxRecDepth 100000 in
theorem eqfV_any (N : Nat) (IH : SameC N) (xs ys : List Vl.Z) (hx : ∀ x ∈ xs, x.n ≤ N) (a b : Option Addr) (c d : Nat) (w : World) (P : Nat → Prop) (hlx : xs.length ≤ 9223372036854775807)
    (hrx : Reads w P (.seq 5 (xs.map Vl.Z.d)) [.slice a xs.length c]) (hry : Reads w P (.seq 5 (ys.map Vl.Z.d)) [.slice b ys.length d]) :
    Calls Tryz.prog 59 #[.slice a xs.length c, .slice b ys.length d, .func (.func 30) #[] #[]] w (fun r w' => r = .returned (.bool (Vl.Z.sames xs ys)) ∧ Below w.heap.size w w') := by
  have HX := Lib.hid hx
  have HRX := Lib.hid hrx
  have HRY := Lib.hid hry
  have HIH := Lib.hid IH
  clear hx hrx hry IH
  by_cases hlen : xs.length = ys.length
  rotate_left
  · have e0 : ((xs.length : Int) != (ys.length : Int)) = true := neT (by omega)
    have HS : Hid (Vl.Z.sames xs ys = false) := Lib.hid (Vl.Z.sames_len hlen)
    go_enter Tryz.func59, Tryz.ntmps59
    go_wp2_with fail
    go_ret
    exact ⟨by rw [HS.out]; rfl, Below.refl _ _⟩
  have e0 : ((xs.length : Int) != (ys.length : Int)) = false := neF (by omega)
  obtain ⟨S, hS⟩ : ∃ S, S = Vl.Z.sames xs ys := ⟨_, rfl⟩
  have HS := Lib.hid hS
  rw [← hS]
  clear hS
  have HLEN := Lib.hid hlen
  clear hlen
  go_enter Tryz.func59, Tryz.ntmps59
  go_wp2_with fail
  go_loopg [17] (xs.length + 1) (fun k i wr => ∃ (j : Nat), k = xs.length + 1 - j ∧ j ≤ xs.length ∧ i = .int .i64 j ∧ S = Vl.Z.sames (xs.drop j) (ys.drop j) ∧ Below w.heap.size w wr)
  case atStart => exact ⟨0, rfl, Nat.zero_le _, rfl, HS.out, Below.refl _ _⟩
  case round =>
    obtain ⟨j, hk, hj, rfl, hs, hbe⟩ := hrel
    have HK := Lib.hid hk
    have HS2 := Lib.hid hs
    have HBE := Lib.hid hbe
    clear hk hs hbe
    by_cases hjl : j < xs.length
    · have e1 : decide (j < xs.length) = true := decide_eq_true hjl
      have hjy : j < ys.length := by have := HLEN.out; omega
      have e2 : decide (j < ys.length) = true := decide_eq_true hjy
      obtain ⟨x, hx⟩ : ∃ z, xs[j]? = some z := ⟨xs[j], List.getElem?_eq_getElem hjl⟩
      obtain ⟨y, hy⟩ : ∃ z, ys[j]? = some z := ⟨ys[j], List.getElem?_eq_getElem hjy⟩
      have hdx : xs.drop j = x :: xs.drop (j + 1) := by rw [List.drop_eq_getElem_cons hjl]; rw [List.getElem?_eq_getElem hjl] at hx; rw [Option.some.inj hx]
      have hdy : ys.drop j = y :: ys.drop (j + 1) := by rw [List.drop_eq_getElem_cons hjy]; rw [List.getElem?_eq_getElem hjy] at hy; rw [Option.some.inj hy]
      have HS3 : Hid (S = (x.same y && Vl.Z.sames (xs.drop (j + 1)) (ys.drop (j + 1)))) := by have := HS2.out; rw [hdx, hdy, Vl.Z.sames_cons] at this; exact Lib.hid this
      have HNX := Lib.hid (HX.out x (List.mem_of_getElem? hx))
      obtain ⟨g, o, cs, ha, -, hgl, hlen, hcell, hd⟩ := HRX.out.el j x.d (by rw [List.getElem?_map, hx]; rfl)
      obtain ⟨g', o', cs', hb, -, hgl', hlen', hcell', hd'⟩ := HRY.out.el j y.d (by rw [List.getElem?_map, hy]; rfl)
      obtain ⟨a1, a2, u1, u2, rfl, -, -⟩ := Z_open hd
      obtain ⟨b1, b2, v1, v2, rfl, -, -⟩ := Z_open hd'
      have k0 : wr.cell? ⟨g, o + j * 5, none⟩ = _ := (HBE.out.cell (p := ⟨g, o + j * 5, none⟩) hgl).trans (hcell 0 _ rfl)
      have k1 : wr.cell? ⟨g, o + j * 5 + 1, none⟩ = _ := (HBE.out.cell (p := ⟨g, o + j * 5 + 1, none⟩) hgl).trans (hcell 1 _ rfl)
      have k2 : wr.cell? ⟨g, o + j * 5 + 2, none⟩ = _ := (HBE.out.cell (p := ⟨g, o + j * 5 + 2, none⟩) hgl).trans (hcell 2 _ rfl)
      have k3 : wr.cell? ⟨g, o + j * 5 + 3, none⟩ = _ := (HBE.out.cell (p := ⟨g, o + j * 5 + 3, none⟩) hgl).trans (hcell 3 _ rfl)
      have k4 : wr.cell? ⟨g, o + j * 5 + 4, none⟩ = _ := (HBE.out.cell (p := ⟨g, o + j * 5 + 4, none⟩) hgl).trans (hcell 4 _ rfl)
      obtain ⟨wb, hwb⟩ : ∃ z, z = wr.alloc (.cells #[.int .i64 x.kind, .string ⟨x.text.toArray⟩, .slice a1 x.items.length u1, .slice a2 x.fields.length u2, .int .i64 x.at_] 55) := ⟨_, rfl⟩
      have hbw : Below w.heap.size w wb := by rw [hwb]; exact HBE.out.alloc HBE.out.size _
      have m0 : wb.cell? ⟨g', o' + j * 5, none⟩ = _ := (hbw.cell (p := ⟨g', o' + j * 5, none⟩) hgl').trans (hcell' 0 _ rfl)
      have m1 : wb.cell? ⟨g', o' + j * 5 + 1, none⟩ = _ := (hbw.cell (p := ⟨g', o' + j * 5 + 1, none⟩) hgl').trans (hcell' 1 _ rfl)
      have m2 : wb.cell? ⟨g', o' + j * 5 + 2, none⟩ = _ := (hbw.cell (p := ⟨g', o' + j * 5 + 2, none⟩) hgl').trans (hcell' 2 _ rfl)
      have m3 : wb.cell? ⟨g', o' + j * 5 + 3, none⟩ = _ := (hbw.cell (p := ⟨g', o' + j * 5 + 3, none⟩) hgl').trans (hcell' 3 _ rfl)
      have m4 : wb.cell? ⟨g', o' + j * 5 + 4, none⟩ = _ := (hbw.cell (p := ⟨g', o' + j * 5 + 4, none⟩) hgl').trans (hcell' 4 _ rfl)
      rw [hwb] at m0 m1 m2 m3 m4
      subst ha
      subst hb
      obtain ⟨wc, hwc⟩ : ∃ z, z = (wr.alloc (.cells #[.int .i64 x.kind, .string ⟨x.text.toArray⟩, .slice a1 x.items.length u1, .slice a2 x.fields.length u2, .int .i64 x.at_] 55)).alloc (.cells #[.int .i64 y.kind, .string ⟨y.text.toArray⟩, .slice b1 y.items.length v1, .slice b2 y.fields.length v2, .int .i64 y.at_] 55) := ⟨_, rfl⟩
      have hbc : Below w.heap.size w wc := by rw [hwc, ← hwb]; exact hbw.alloc hbw.size _
      have HBC := Lib.hid hbc
      have HCALL := Lib.hid (HIH.out x y HNX.out a1 a2 b1 b2 u1 u2 v1 v2 wc P (hd.to (Stands.below hbc)) (hd'.to (Stands.below hbc)))
      rw [hwc] at HCALL
      have HWC := Lib.hid hwc
      clear hx hy hdx hdy hlen hlen' hcell hcell' hd hd' hbw hbc hwb hwc HS2
      go_wp2_with fail
      refine HCALL.out.mono ?_
      rintro r w2 ⟨rfl, hb2⟩
      rw [← HWC.out] at hb2
      have HB2 := Lib.hid (HBC.out.trans (hb2.mono HBC.out.size))
      clear hb2 k0 k1 k2 k3 k4 m0 m1 m2 m3 m4 HCALL
      obtain ⟨q, hq⟩ : ∃ q, q = x.same y := ⟨_, rfl⟩
      rw [← hq]
      have HQ := Lib.hid hq
      clear hq
      cases q
      · go_wp2_with fail
        go_ret
        exact ⟨by rw [HS3.out, ← HQ.out]; rfl, HB2.out⟩
      · go_wp2_with fail
        go_roundg (xs.length + 1 - (j + 1))
        case measure => rw [HK.out]; omega
        case rel => exact ⟨j + 1, rfl, hjl, by go_num, by rw [HS3.out, ← HQ.out]; rfl, HB2.out⟩
    · have e1 : decide (j < xs.length) = false := decide_eq_false hjl
      have HS3 : Hid (S = true) := by
        have := HS2.out
        rw [List.drop_eq_nil_of_le (by omega), List.drop_eq_nil_of_le (by have := HLEN.out; omega), Vl.Z.sames_nil] at this
        exact Lib.hid this
      go_wp2_with fail
      go_ret
      exact ⟨by rw [HS3.out]; rfl, HBE.out⟩
/-- 'Same' of names and values. -/
def SameAC (N : Nat) : Prop := ∀ (x y : Vl.ZA), x.n ≤ N → ∀ (a1 a2 b1 b2 : Option Addr) (c1 c2 d1 d2 : Nat) (w : World) (P : Nat → Prop),
  Reads w P x.d [.string ⟨x.name.toArray⟩, .int .i64 x.v.kind, .string ⟨x.v.text.toArray⟩, .slice a1 x.v.items.length c1, .slice a2 x.v.fields.length c2, .int .i64 x.v.at_, .int .i64 x.at_] →
  Reads w P y.d [.string ⟨y.name.toArray⟩, .int .i64 y.v.kind, .string ⟨y.v.text.toArray⟩, .slice b1 y.v.items.length d1, .slice b2 y.v.fields.length d2, .int .i64 y.v.at_, .int .i64 y.at_] →
  Calls Tryz.prog 61 #[.agg #[.string ⟨x.name.toArray⟩, .int .i64 x.v.kind, .string ⟨x.v.text.toArray⟩, .slice a1 x.v.items.length c1, .slice a2 x.v.fields.length c2, .int .i64 x.v.at_, .int .i64 x.at_], .agg #[.string ⟨y.name.toArray⟩, .int .i64 y.v.kind, .string ⟨y.v.text.toArray⟩, .slice b1 y.v.items.length d1, .slice b2 y.v.fields.length d2, .int .i64 y.v.at_, .int .i64 y.at_]] w
    (fun r w' => r = .returned (.bool (x.same y)) ∧ Below w.heap.size w w')
theorem ZA_v {w : World} {P : Nat → Prop} {x : Vl.ZA} {n : List UInt8} {k : Int} {t : ByteArray} {s1 s2 : Value} {a b : Int} (h : Reads w P x.d [.string ⟨x.name.toArray⟩, .int .i64 x.v.kind, .string ⟨x.v.text.toArray⟩, s1, s2, .int .i64 x.v.at_, .int .i64 x.at_]) :
    Reads w P x.v.d [.int .i64 x.v.kind, .string ⟨x.v.text.toArray⟩, s1, s2, .int .i64 x.v.at_] := by
  obtain ⟨a1, a2, c1, c2, e, h2⟩ := ZA_open h
  simp only [List.cons.injEq, true_and, and_true] at e
  obtain ⟨rfl, rfl⟩ := e
  exact h2
set_option maxHeartbeats 1000000 in
set_option maxRecDepth 100000 in
theorem sameA_any (N : Nat) (IH : SameC N) : SameAC N := by
  intro x y hN a1 a2 b1 b2 c1 c2 d1 d2 w P hx hy
  have hxv := ZA_v (n := []) (k := 0) (t := ⟨#[]⟩) (a := 0) (b := 0) hx
  have hyv := ZA_v (n := []) (k := 0) (t := ⟨#[]⟩) (a := 0) (b := 0) hy
  obtain ⟨wc, hwc⟩ : ∃ z, z = (w.alloc (.cells #[.string ⟨x.name.toArray⟩, .int .i64 x.v.kind, .string ⟨x.v.text.toArray⟩, .slice a1 x.v.items.length c1, .slice a2 x.v.fields.length c2, .int .i64 x.v.at_, .int .i64 x.at_] 116)).alloc (.cells #[.string ⟨y.name.toArray⟩, .int .i64 y.v.kind, .string ⟨y.v.text.toArray⟩, .slice b1 y.v.items.length d1, .slice b2 y.v.fields.length d2, .int .i64 y.v.at_, .int .i64 y.at_] 116) := ⟨_, rfl⟩
  have hbc : Below w.heap.size w wc := by rw [hwc]; exact ((Below.refl _ _).alloc (Nat.le_refl _) _).alloc (by simp) _
  have HBC := Lib.hid hbc
  have HCALL := Lib.hid (IH x.v y.v (by have := Vl.ZA.n_eq x; omega) a1 a2 b1 b2 c1 c2 d1 d2 wc P (hxv.to (Stands.below hbc)) (hyv.to (Stands.below hbc)))
  rw [hwc] at HCALL
  have HWC := Lib.hid hwc
  have HEQ := Lib.hid (Vl.ZA.same_eq x y)
  clear hxv hyv hx hy hbc hwc IH
  obtain ⟨S, hS⟩ : ∃ S, S = x.same y := ⟨_, rfl⟩
  rw [← hS] at HEQ ⊢
  clear hS
  by_cases hn : x.name = y.name
  · have e2 : (x.name == y.name) = true := by rw [beq_iff_eq]; exact hn
    have HS : Hid (S = x.v.same y.v) := by rw [HEQ.out, decide_eq_true hn]; exact Lib.hid rfl
    clear hn
    go_enter Tryz.func61, Tryz.ntmps61
    go_wp2_with fail
    refine HCALL.out.mono ?_
    rintro r w2 ⟨rfl, hb2⟩
    rw [← HWC.out] at hb2
    have HB2 := Lib.hid (HBC.out.trans (hb2.mono HBC.out.size))
    clear hb2
    go_wp2_with fail
    go_ret
    exact ⟨by rw [HS.out]; rfl, HB2.out⟩
  · have e2 : (x.name == y.name) = false := by rw [beq_eq_false_iff_ne]; exact hn
    have HS : Hid (S = false) := by rw [HEQ.out, decide_eq_false hn]; exact Lib.hid rfl
    clear hn
    go_enter Tryz.func61, Tryz.ntmps61
    go_wp2_with fail
    go_ret
    exact ⟨by rw [HS.out]; rfl, by rw [← HWC.out]; exact HBC.out⟩
set_option maxHeartbeats 2000000 in
set_option maxRecDepth 100000 in
theorem eqfA_any (N : Nat) (IH : SameAC N) (xs ys : List Vl.ZA) (hx : ∀ x ∈ xs, x.n ≤ N) (a b : Option Addr) (c d : Nat) (w : World) (P : Nat → Prop) (hlx : xs.length ≤ 9223372036854775807)
    (hrx : Reads w P (.seq 7 (xs.map Vl.ZA.d)) [.slice a xs.length c]) (hry : Reads w P (.seq 7 (ys.map Vl.ZA.d)) [.slice b ys.length d]) :
    Calls Tryz.prog 60 #[.slice a xs.length c, .slice b ys.length d, .func (.func 61) #[] #[]] w (fun r w' => r = .returned (.bool (Vl.ZA.sames xs ys)) ∧ Below w.heap.size w w') := by
  have HX := Lib.hid hx
  have HRX := Lib.hid hrx
  have HRY := Lib.hid hry
  have HIH := Lib.hid IH
  clear hx hrx hry IH
  by_cases hlen : xs.length = ys.length
  rotate_left
  · have e0 : ((xs.length : Int) != (ys.length : Int)) = true := neT (by omega)
    have HS : Hid (Vl.ZA.sames xs ys = false) := Lib.hid (Vl.ZA.sames_len hlen)
    go_enter Tryz.func60, Tryz.ntmps60
    go_wp2_with fail
    go_ret
    exact ⟨by rw [HS.out]; rfl, Below.refl _ _⟩
  have e0 : ((xs.length : Int) != (ys.length : Int)) = false := neF (by omega)
  obtain ⟨S, hS⟩ : ∃ S, S = Vl.ZA.sames xs ys := ⟨_, rfl⟩
  have HS := Lib.hid hS
  rw [← hS]
  clear hS
  have HLEN := Lib.hid hlen
  clear hlen
  go_enter Tryz.func60, Tryz.ntmps60
  go_wp2_with fail
  go_loopg [17] (xs.length + 1) (fun k i wr => ∃ (j : Nat), k = xs.length + 1 - j ∧ j ≤ xs.length ∧ i = .int .i64 j ∧ S = Vl.ZA.sames (xs.drop j) (ys.drop j) ∧ Below w.heap.size w wr)
  case atStart => exact ⟨0, rfl, Nat.zero_le _, rfl, HS.out, Below.refl _ _⟩
  case round =>
    obtain ⟨j, hk, hj, rfl, hs, hbe⟩ := hrel
    have HK := Lib.hid hk
    have HS2 := Lib.hid hs
    have HBE := Lib.hid hbe
    clear hk hs hbe
    by_cases hjl : j < xs.length
    · have e1 : decide (j < xs.length) = true := decide_eq_true hjl
      have hjy : j < ys.length := by have := HLEN.out; omega
      have e2 : decide (j < ys.length) = true := decide_eq_true hjy
      obtain ⟨x, hx⟩ : ∃ z, xs[j]? = some z := ⟨xs[j], List.getElem?_eq_getElem hjl⟩
      obtain ⟨y, hy⟩ : ∃ z, ys[j]? = some z := ⟨ys[j], List.getElem?_eq_getElem hjy⟩
      have hdx : xs.drop j = x :: xs.drop (j + 1) := by rw [List.drop_eq_getElem_cons hjl]; rw [List.getElem?_eq_getElem hjl] at hx; rw [Option.some.inj hx]
      have hdy : ys.drop j = y :: ys.drop (j + 1) := by rw [List.drop_eq_getElem_cons hjy]; rw [List.getElem?_eq_getElem hjy] at hy; rw [Option.some.inj hy]
      have HS3 : Hid (S = (x.same y && Vl.ZA.sames (xs.drop (j + 1)) (ys.drop (j + 1)))) := by have := HS2.out; rw [hdx, hdy, Vl.ZA.sames_cons] at this; exact Lib.hid this
      have HNX := Lib.hid (HX.out x (List.mem_of_getElem? hx))
      obtain ⟨g, o, cs, ha, -, hgl, hlen, hcell, hd⟩ := HRX.out.el j x.d (by rw [List.getElem?_map, hx]; rfl)
      obtain ⟨g', o', cs', hb, -, hgl', hlen', hcell', hd'⟩ := HRY.out.el j y.d (by rw [List.getElem?_map, hy]; rfl)
      obtain ⟨a1, a2, u1, u2, rfl, -⟩ := ZA_open hd
      obtain ⟨b1, b2, v1, v2, rfl, -⟩ := ZA_open hd'
      have k0 : wr.cell? ⟨g, o + j * 7, none⟩ = _ := (HBE.out.cell (p := ⟨g, o + j * 7, none⟩) hgl).trans (hcell 0 _ rfl)
      have k1 : wr.cell? ⟨g, o + j * 7 + 1, none⟩ = _ := (HBE.out.cell (p := ⟨g, o + j * 7 + 1, none⟩) hgl).trans (hcell 1 _ rfl)
      have k2 : wr.cell? ⟨g, o + j * 7 + 2, none⟩ = _ := (HBE.out.cell (p := ⟨g, o + j * 7 + 2, none⟩) hgl).trans (hcell 2 _ rfl)
      have k3 : wr.cell? ⟨g, o + j * 7 + 3, none⟩ = _ := (HBE.out.cell (p := ⟨g, o + j * 7 + 3, none⟩) hgl).trans (hcell 3 _ rfl)
      have k4 : wr.cell? ⟨g, o + j * 7 + 4, none⟩ = _ := (HBE.out.cell (p := ⟨g, o + j * 7 + 4, none⟩) hgl).trans (hcell 4 _ rfl)
      have k5 : wr.cell? ⟨g, o + j * 7 + 5, none⟩ = _ := (HBE.out.cell (p := ⟨g, o + j * 7 + 5, none⟩) hgl).trans (hcell 5 _ rfl)
      have k6 : wr.cell? ⟨g, o + j * 7 + 6, none⟩ = _ := (HBE.out.cell (p := ⟨g, o + j * 7 + 6, none⟩) hgl).trans (hcell 6 _ rfl)
      obtain ⟨wb, hwb⟩ : ∃ z, z = wr.alloc (.cells #[.string ⟨x.name.toArray⟩, .int .i64 x.v.kind, .string ⟨x.v.text.toArray⟩, .slice a1 x.v.items.length u1, .slice a2 x.v.fields.length u2, .int .i64 x.v.at_, .int .i64 x.at_] 116) := ⟨_, rfl⟩
      have hbw : Below w.heap.size w wb := by rw [hwb]; exact HBE.out.alloc HBE.out.size _
      have m0 : wb.cell? ⟨g', o' + j * 7, none⟩ = _ := (hbw.cell (p := ⟨g', o' + j * 7, none⟩) hgl').trans (hcell' 0 _ rfl)
      have m1 : wb.cell? ⟨g', o' + j * 7 + 1, none⟩ = _ := (hbw.cell (p := ⟨g', o' + j * 7 + 1, none⟩) hgl').trans (hcell' 1 _ rfl)
      have m2 : wb.cell? ⟨g', o' + j * 7 + 2, none⟩ = _ := (hbw.cell (p := ⟨g', o' + j * 7 + 2, none⟩) hgl').trans (hcell' 2 _ rfl)
      have m3 : wb.cell? ⟨g', o' + j * 7 + 3, none⟩ = _ := (hbw.cell (p := ⟨g', o' + j * 7 + 3, none⟩) hgl').trans (hcell' 3 _ rfl)
      have m4 : wb.cell? ⟨g', o' + j * 7 + 4, none⟩ = _ := (hbw.cell (p := ⟨g', o' + j * 7 + 4, none⟩) hgl').trans (hcell' 4 _ rfl)
      have m5 : wb.cell? ⟨g', o' + j * 7 + 5, none⟩ = _ := (hbw.cell (p := ⟨g', o' + j * 7 + 5, none⟩) hgl').trans (hcell' 5 _ rfl)
      have m6 : wb.cell? ⟨g', o' + j * 7 + 6, none⟩ = _ := (hbw.cell (p := ⟨g', o' + j * 7 + 6, none⟩) hgl').trans (hcell' 6 _ rfl)
      rw [hwb] at m0 m1 m2 m3 m4 m5 m6
      subst ha
      subst hb
      obtain ⟨wc, hwc⟩ : ∃ z, z = (wr.alloc (.cells #[.string ⟨x.name.toArray⟩, .int .i64 x.v.kind, .string ⟨x.v.text.toArray⟩, .slice a1 x.v.items.length u1, .slice a2 x.v.fields.length u2, .int .i64 x.v.at_, .int .i64 x.at_] 116)).alloc (.cells #[.string ⟨y.name.toArray⟩, .int .i64 y.v.kind, .string ⟨y.v.text.toArray⟩, .slice b1 y.v.items.length v1, .slice b2 y.v.fields.length v2, .int .i64 y.v.at_, .int .i64 y.at_] 116) := ⟨_, rfl⟩
      have hbc : Below w.heap.size w wc := by rw [hwc, ← hwb]; exact hbw.alloc hbw.size _
      have HBC := Lib.hid hbc
      have HCALL := Lib.hid (HIH.out x y HNX.out a1 a2 b1 b2 u1 u2 v1 v2 wc P (hd.to (Stands.below hbc)) (hd'.to (Stands.below hbc)))
      rw [hwc] at HCALL
      have HWC := Lib.hid hwc
      clear hx hy hdx hdy hlen hlen' hcell hcell' hd hd' hbw hbc hwb hwc HS2
      go_wp2_with fail
      refine HCALL.out.mono ?_
      rintro r w2 ⟨rfl, hb2⟩
      rw [← HWC.out] at hb2
      have HB2 := Lib.hid (HBC.out.trans (hb2.mono HBC.out.size))
      clear hb2 k0 k1 k2 k3 k4 k5 k6 m0 m1 m2 m3 m4 m5 m6 HCALL
      obtain ⟨q, hq⟩ : ∃ q, q = x.same y := ⟨_, rfl⟩
      rw [← hq]
      have HQ := Lib.hid hq
      clear hq
      cases q
      · go_wp2_with fail
        go_ret
        exact ⟨by rw [HS3.out, ← HQ.out]; rfl, HB2.out⟩
      · go_wp2_with fail
        go_roundg (xs.length + 1 - (j + 1))
        case measure => rw [HK.out]; omega
        case rel => exact ⟨j + 1, rfl, hjl, by go_num, by rw [HS3.out, ← HQ.out]; rfl, HB2.out⟩
    · have e1 : decide (j < xs.length) = false := decide_eq_false hjl
      have HS3 : Hid (S = true) := by
        have := HS2.out
        rw [List.drop_eq_nil_of_le (by omega), List.drop_eq_nil_of_le (by have := HLEN.out; omega), Vl.ZA.sames_nil] at this
        exact Lib.hid this
      go_wp2_with fail
      go_ret
      exact ⟨by rw [HS3.out]; rfl, HBE.out⟩
set_option maxHeartbeats 2000000 in
set_option maxRecDepth 100000 in
theorem same_step (N : Nat) (hNb : N ≤ 9000000000000000000) (IH : SameC N) : SameC (N + 1) := by
  have IHA := sameA_any N IH
  intro x y hN a1 a2 b1 b2 c1 c2 d1 d2 w P hx hy
  obtain ⟨x1, x2, x3, x4, ex, hxi, hxf⟩ := Z_open hx
  obtain ⟨y1, y2, y3, y4, ey, hyi, hyf⟩ := Z_open hy
  obtain ⟨rfl, rfl, rfl, rfl⟩ : a1 = x1 ∧ c1 = x3 ∧ a2 = x2 ∧ c2 = x4 := by simpa [and_assoc] using ex
  obtain ⟨rfl, rfl, rfl, rfl⟩ : b1 = y1 ∧ d1 = y3 ∧ b2 = y2 ∧ d2 = y4 := by simpa [and_assoc] using ey
  have hn := Vl.Z.n_eq x
  have hl1 := Vl.Z.ns_len x.items
  have hl2 := Vl.ZA.ns_len x.fields
  obtain ⟨wc, hwc⟩ : ∃ z, z = (w.alloc (.cells #[.int .i64 x.kind, .string ⟨x.text.toArray⟩, .slice a1 x.items.length c1, .slice a2 x.fields.length c2, .int .i64 x.at_] 55)).alloc (.cells #[.int .i64 y.kind, .string ⟨y.text.toArray⟩, .slice b1 y.items.length d1, .slice b2 y.fields.length d2, .int .i64 y.at_] 55) := ⟨_, rfl⟩
  have hbc : Below w.heap.size w wc := by rw [hwc]; exact ((Below.refl _ _).alloc (Nat.le_refl _) _).alloc (by simp) _
  have HBC := Lib.hid hbc
  have HWC := Lib.hid hwc
  have HXF := Lib.hid (hxf.to (Stands.below hbc))
  have HYF := Lib.hid (hyf.to (Stands.below hbc))
  have HEQ := Lib.hid (Vl.Z.same_eq x y)
  have HNF : Hid (∀ z ∈ x.fields, z.n ≤ N) := Lib.hid (fun z hz => by have := Vl.ZA.ns_mem hz; omega)
  have HIHA := Lib.hid IHA
  have hfb : x.fields.length ≤ 9223372036854775807 := by omega
  have hx0 : (wc.heap[w.heap.size]? = some (.cells #[.int .i64 x.kind, .string ⟨x.text.toArray⟩, .slice a1 x.items.length c1, .slice a2 x.fields.length c2, .int .i64 x.at_] 55 (0, 0))) := by
    rw [hwc, Lib.alloc_old _ _ _ (by simp)]; exact heap_at_new _ _
  have hy0 : (wc.heap[w.heap.size + 1]? = some (.cells #[.int .i64 y.kind, .string ⟨y.text.toArray⟩, .slice b1 y.items.length d1, .slice b2 y.fields.length d2, .int .i64 y.at_] 55 (0, 0))) := by
    rw [hwc]
    have := heap_at_new (w.alloc (.cells #[.int .i64 x.kind, .string ⟨x.text.toArray⟩, .slice a1 x.items.length c1, .slice a2 x.fields.length c2, .int .i64 x.at_] 55)) (.cells #[.int .i64 y.kind, .string ⟨y.text.toArray⟩, .slice b1 y.items.length d1, .slice b2 y.fields.length d2, .int .i64 y.at_] 55)
    rw [show (w.alloc (.cells #[.int .i64 x.kind, .string ⟨x.text.toArray⟩, .slice a1 x.items.length c1, .slice a2 x.fields.length c2, .int .i64 x.at_] 55)).heap.size = w.heap.size + 1 by simp] at this
    exact this
  have HX0 := Lib.hid hx0
  have HY0 := Lib.hid hy0
  have HCI := Lib.hid (eqfV_any N IH x.items y.items (fun z hz => by have := Vl.Z.ns_mem hz; omega) a1 b1 c1 d1 wc P (by omega) (hxi.to (Stands.below hbc)) (hyi.to (Stands.below hbc)))
  rw [hwc] at HCI
  clear hxi hyi hxf hyf hx hy ex ey hbc hwc IH IHA hx0 hy0 hn
  obtain ⟨S, hS⟩ : ∃ S, S = x.same y := ⟨_, rfl⟩
  rw [← hS] at HEQ ⊢
  clear hS
  by_cases hk : x.kind = y.kind
  rotate_left
  · have e1 : (x.kind == y.kind) = false := by rw [beq_eq_false_iff_ne]; exact hk
    have HS : Hid (S = false) := by rw [HEQ.out, decide_eq_false hk]; exact Lib.hid rfl
    clear hk
    go_enter Tryz.func30, Tryz.ntmps30
    go_wp2_with fail
    go_ret
    exact ⟨by rw [HS.out]; rfl, by rw [← HWC.out]; exact HBC.out⟩
  have e1 : (x.kind == y.kind) = true := by rw [beq_iff_eq]; exact hk
  have HE2 : Hid (S = (decide (x.text = y.text) && (Vl.Z.sames x.items y.items && Vl.ZA.sames x.fields y.fields))) := by rw [HEQ.out, decide_eq_true hk]; exact Lib.hid rfl
  clear hk HEQ
  by_cases ht : x.text = y.text
  rotate_left
  · have e3 : (x.text == y.text) = false := by rw [beq_eq_false_iff_ne]; exact ht
    have HS : Hid (S = false) := by rw [HE2.out, decide_eq_false ht]; exact Lib.hid rfl
    clear ht
    go_enter Tryz.func30, Tryz.ntmps30
    go_wp2_with fail
    go_ret
    exact ⟨by rw [HS.out]; rfl, by rw [← HWC.out]; exact HBC.out⟩
  have e3 : (x.text == y.text) = true := by rw [beq_iff_eq]; exact ht
  have HE3 : Hid (S = (Vl.Z.sames x.items y.items && Vl.ZA.sames x.fields y.fields)) := by rw [HE2.out, decide_eq_true ht]; exact Lib.hid rfl
  clear ht HE2
  go_enter Tryz.func30, Tryz.ntmps30
  go_wp2_with fail
  refine HCI.out.mono ?_
  rintro r w2 ⟨rfl, hb2⟩
  rw [← HWC.out] at hb2
  obtain ⟨q, hq⟩ : ∃ q, q = Vl.Z.sames x.items y.items := ⟨_, rfl⟩
  rw [← hq]
  have HQ := Lib.hid hq
  clear hq
  have HB2 := Lib.hid hb2
  have HB3 := Lib.hid (HBC.out.trans (hb2.mono HBC.out.size))
  clear hb2
  have HX2 : Hid (w2.heap[w.heap.size]? = some (.cells #[.int .i64 x.kind, .string ⟨x.text.toArray⟩, .slice a1 x.items.length c1, .slice a2 x.fields.length c2, .int .i64 x.at_] 55 (0, 0))) := Lib.hid (by rw [HB2.out.block _ (block_lt HX0.out)]; exact HX0.out)
  have HY2 : Hid (w2.heap[w.heap.size + 1]? = some (.cells #[.int .i64 y.kind, .string ⟨y.text.toArray⟩, .slice b1 y.items.length d1, .slice b2 y.fields.length d2, .int .i64 y.at_] 55 (0, 0))) := Lib.hid (by rw [HB2.out.block _ (block_lt HY0.out)]; exact HY0.out)
  cases q
  · go_wp2_with fail
    go_ret
    exact ⟨by rw [HE3.out, ← HQ.out]; rfl, HB3.out⟩
  · have z3 : w2.cell? ⟨w.heap.size, 3, none⟩ = some (.slice a2 x.fields.length c2) := blk_cell HX2.out 3 _ rfl
    have z4 : w2.cell? ⟨w.heap.size + 1, 3, none⟩ = some (.slice b2 y.fields.length d2) := blk_cell HY2.out 3 _ rfl
    have HCF := Lib.hid (eqfA_any N HIHA.out x.fields y.fields HNF.out a2 b2 c2 d2 w2 P (by omega) (HXF.out.to (Stands.below HB2.out)) (HYF.out.to (Stands.below HB2.out)))
    go_wp2_with fail
    refine HCF.out.mono ?_
    rintro r w4 ⟨rfl, hb4⟩
    have HB4 := Lib.hid (HB3.out.trans (hb4.mono HB3.out.size))
    clear hb4 z3 z4
    go_wp2_with fail
    go_ret
    exact ⟨by rw [HE3.out, ← HQ.out]; rfl, HB4.out⟩
theorem same_any : ∀ (N : Nat), N ≤ 9000000000000000000 → SameC N
  | 0, _ => fun x y hN => by have := Vl.Z.n_pos x; omega
  | N + 1, h => same_step N (by omega) (same_any N (by omega))
end Go.Proofs.YtabcaljnpahgpaaGreatDoor
