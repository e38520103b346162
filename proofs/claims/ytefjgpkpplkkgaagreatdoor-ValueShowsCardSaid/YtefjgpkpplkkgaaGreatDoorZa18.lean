/-
  Values in memory. Values are compared: 'Same', walked. The reader: Value, Arg at any depth; Args, walked. A row in a variable of a call's own, beside the reader. The reader of a text: New, walked. The reader of types: told, words, names, walked. The reader of types: a block that is filled field by field; input, member, walked. What stands while a part of a type is read; one element of a row.
-/
import Derived.Test.YtefjgpkpplkkgaaGreatDoorZa17
import Derived.Test.YtefjgpkpplkkgaaGreatDoorZa2
import Derived.Test.YtefjgpkpplkkgaaGreatDoorZa4
namespace Go.Proofs.YtefjgpkpplkkgaaGreatDoor
set_option linter.unusedSimpArgs false
set_option linter.unusedVariables false
open Go Go.RowKit
namespace Vl
mutual
def Z.d : Z → D
  | .mk k t items fields a => .obj [.int k, .str t, .seq 5 (Z.dl items), .seq 7 (ZA.dl fields), .int a]
def Z.dl : List Z → List D
  | [] => []
  | x :: r => Z.d x :: Z.dl r
def ZA.d : ZA → D
  | .mk n v a => .obj [.str n, Z.d v, .int a]
def ZA.dl : List ZA → List D
  | [] => []
  | x :: r => ZA.d x :: ZA.dl r
end
theorem Z.dl_map : ∀ l : List Z, Z.dl l = l.map Z.d
  | [] => by rw [Z.dl]; rfl
  | x :: r => by rw [Z.dl, Z.dl_map r]; rfl
theorem ZA.dl_map : ∀ l : List ZA, ZA.dl l = l.map ZA.d
  | [] => by rw [ZA.dl]; rfl
  | x :: r => by rw [ZA.dl, ZA.dl_map r]; rfl
mutual
theorem ofV_d : ∀ v : Rd.V, (ofV v).d = v.d
  | .mk k t i f a => by unfold ofV Z.d Rd.V.d; rw [ofVs_d i, ofAs_d f]
theorem ofVs_d : ∀ l : List Rd.V, Z.dl (ofVs l) = Rd.V.dl l
  | [] => by rw [ofVs, Z.dl, Rd.V.dl]
  | x :: r => by rw [ofVs, Z.dl, Rd.V.dl, ofV_d x, ofVs_d r]
theorem ofA_d : ∀ v : Rd.A, (ofA v).d = v.d
  | .mk n v a => by unfold ofA ZA.d Rd.A.d; rw [ofV_d v]
theorem ofAs_d : ∀ l : List Rd.A, ZA.dl (ofAs l) = Rd.A.dl l
  | [] => by rw [ofAs, ZA.dl, Rd.A.dl]
  | x :: r => by rw [ofAs, ZA.dl, Rd.A.dl, ofA_d x, ofAs_d r]
end
end Vl
section
variable {w : World} {P : Nat → Prop}
theorem Reads.el {k : Nat} {xs : List D} {a : Option Addr} {n c : Nat} (h : Reads w P (.seq k xs) [.slice a n c]) : ∀ (j : Nat) d, xs[j]? = some d → ∃ g o cs, a = some ⟨g, o, none⟩ ∧ P g ∧ g < w.heap.size ∧ cs.length = k ∧
    (∀ (q : Nat) v, cs[q]? = some v → w.cell? ⟨g, o + j * k + q, none⟩ = some v) ∧ Reads w P d cs := by
  obtain ⟨a', c', e, hr⟩ := h.seq_inv
  obtain ⟨rfl, rfl, rfl⟩ : a = a' ∧ n = xs.length ∧ c = c' := by simpa using e
  intro j d hj
  have := hr.at j d hj
  rw [Nat.zero_add] at this
  exact this
theorem Z_open {v : Vl.Z} {cs : List Value} (h : Reads w P v.d cs) : ∃ (a1 a2 : Option Addr) (c1 c2 : Nat), cs = [.int .i64 v.kind, .string ⟨v.text.toArray⟩, .slice a1 v.items.length c1, .slice a2 v.fields.length c2, .int .i64 v.at_] ∧
    Reads w P (.seq 5 (v.items.map Vl.Z.d)) [.slice a1 v.items.length c1] ∧ Reads w P (.seq 7 (v.fields.map Vl.ZA.d)) [.slice a2 v.fields.length c2] := by
  cases v with
  | mk k t is fs a =>
    unfold Vl.Z.d at h
    rw [Vl.Z.dl_map, Vl.ZA.dl_map] at h
    obtain ⟨x1, r1, rfl, e1, h1⟩ := h.obj_inv.cons_inv
    obtain ⟨x2, r2, rfl, e2, h2⟩ := h1.cons_inv
    obtain ⟨x3, r3, rfl, e3, h3⟩ := h2.cons_inv
    obtain ⟨x4, r4, rfl, e4, h4⟩ := h3.cons_inv
    obtain ⟨x5, r5, rfl, e5, h5⟩ := h4.cons_inv
    obtain rfl := e1.int_inv
    obtain rfl := e2.str_inv
    obtain ⟨b3, d3, rfl, _⟩ := e3.seq_inv
    obtain ⟨b4, d4, rfl, _⟩ := e4.seq_inv
    obtain rfl := e5.int_inv
    obtain rfl := h5.nil_inv
    simp only [List.length_map] at e3 e4 ⊢
    exact ⟨b3, b4, d3, d4, rfl, e3, e4⟩
theorem ZA_open {x : Vl.ZA} {cs : List Value} (h : Reads w P x.d cs) : ∃ (a1 a2 : Option Addr) (c1 c2 : Nat),
    cs = [.string ⟨x.name.toArray⟩, .int .i64 x.v.kind, .string ⟨x.v.text.toArray⟩, .slice a1 x.v.items.length c1, .slice a2 x.v.fields.length c2, .int .i64 x.v.at_, .int .i64 x.at_] ∧
    Reads w P x.v.d [.int .i64 x.v.kind, .string ⟨x.v.text.toArray⟩, .slice a1 x.v.items.length c1, .slice a2 x.v.fields.length c2, .int .i64 x.v.at_] := by
  cases x with
  | mk nm v a =>
    unfold Vl.ZA.d at h
    obtain ⟨x1, r1, rfl, e1, h1⟩ := h.obj_inv.cons_inv
    obtain ⟨x2, r2, rfl, e2, h2⟩ := h1.cons_inv
    obtain ⟨x3, r3, rfl, e3, h3⟩ := h2.cons_inv
    obtain rfl := e1.str_inv
    obtain ⟨a1, a2, c1, c2, rfl, -, -⟩ := Z_open e2
    obtain rfl := e3.int_inv
    obtain rfl := h3.nil_inv
    exact ⟨a1, a2, c1, c2, rfl, e2⟩
end
def zcells (z : Vl.Z) (a1 a2 : Option Addr) (n1 n2 : Nat) : Array Value := #[.int .i64 z.kind, .string ⟨z.text.toArray⟩, .slice a1 z.items.length n1, .slice a2 z.fields.length n2, .int .i64 z.at_]
end Go.Proofs.YtefjgpkpplkkgaaGreatDoor
namespace Go.Proofs.YtefjgpkpplkkgaaGreatDoor
set_option linter.unusedSimpArgs false
set_option linter.unusedVariables false
open Go Go.RowKit

/-- 'Same', of values no greater than N. -/
def SameC (N : Nat) : Prop := ∀ (x y : Vl.Z), x.n ≤ N → ∀ (a1 a2 b1 b2 : Option Addr) (c1 c2 d1 d2 : Nat) (w : World) (P : Nat → Prop),
  Reads w P x.d [.int .i64 x.kind, .string ⟨x.text.toArray⟩, .slice a1 x.items.length c1, .slice a2 x.fields.length c2, .int .i64 x.at_] →
  Reads w P y.d [.int .i64 y.kind, .string ⟨y.text.toArray⟩, .slice b1 y.items.length d1, .slice b2 y.fields.length d2, .int .i64 y.at_] →
  Calls Tryz.prog 15 #[.agg #[.int .i64 x.kind, .string ⟨x.text.toArray⟩, .slice a1 x.items.length c1, .slice a2 x.fields.length c2, .int .i64 x.at_], .agg #[.int .i64 y.kind, .string ⟨y.text.toArray⟩, .slice b1 y.items.length d1, .slice b2 y.fields.length d2, .int .i64 y.at_]] w
    (fun r w' => r = .returned (.bool (x.same y)) ∧ Below w.heap.size w w')
set_option maxHeartbeats 2000000 in
set_option maxRecDepth 100000 in
theorem eqfV_any (N : Nat) (IH : SameC N) (xs ys : List Vl.Z) (hx : ∀ x ∈ xs, x.n ≤ N) (a b : Option Addr) (c d : Nat) (w : World) (P : Nat → Prop) (hlx : xs.length ≤ 9223372036854775807)
    (hrx : Reads w P (.seq 5 (xs.map Vl.Z.d)) [.slice a xs.length c]) (hry : Reads w P (.seq 5 (ys.map Vl.Z.d)) [.slice b ys.length d]) :
    Calls Tryz.prog 43 #[.slice a xs.length c, .slice b ys.length d, .func (.func 15) #[] #[]] w (fun r w' => r = .returned (.bool (Vl.Z.sames xs ys)) ∧ Below w.heap.size w w') := by
  have HX := Lib.hid hx
  have HRX := Lib.hid hrx
  have HRY := Lib.hid hry
  have HIH := Lib.hid IH
  clear hx hrx hry IH
  by_cases hlen : xs.length = ys.length
  rotate_left
  · have e0 : ((xs.length : Int) != (ys.length : Int)) = true := neT (by omega)
    have HS : Hid (Vl.Z.sames xs ys = false) := Lib.hid (Vl.Z.sames_len hlen)
    go_enter Tryz.func43, Tryz.ntmps43
    go_wp2_with fail
    go_ret
    exact ⟨by rw [HS.out]; rfl, Below.refl _ _⟩
  have e0 : ((xs.length : Int) != (ys.length : Int)) = false := neF (by omega)
  obtain ⟨S, hS⟩ : ∃ S, S = Vl.Z.sames xs ys := ⟨_, rfl⟩
  have HS := Lib.hid hS
  rw [← hS]
  clear hS
  have HLEN := Lib.hid hlen
  clear hlen
  go_enter Tryz.func43, Tryz.ntmps43
  go_wp2_with fail
  go_loopg [17] (xs.length + 1) (fun k i wr => ∃ (j : Nat), k = xs.length + 1 - j ∧ j ≤ xs.length ∧ i = .int .i64 j ∧ S = Vl.Z.sames (xs.drop j) (ys.drop j) ∧ Below w.heap.size w wr)
  case atStart => exact ⟨0, rfl, Nat.zero_le _, rfl, HS.out, Below.refl _ _⟩
  case round =>
    obtain ⟨j, hk, hj, rfl, hs, hbe⟩ := hrel
    have HK := Lib.hid hk
    have HS2 := Lib.hid hs
    have HBE := Lib.hid hbe
    clear hk hs hbe
    by_cases hjl : j < xs.length
    · have e1 : decide (j < xs.length) = true := decide_eq_true hjl
      have hjy : j < ys.length := by have := HLEN.out; omega
      have e2 : decide (j < ys.length) = true := decide_eq_true hjy
      obtain ⟨x, hx⟩ : ∃ z, xs[j]? = some z := ⟨xs[j], List.getElem?_eq_getElem hjl⟩
      obtain ⟨y, hy⟩ : ∃ z, ys[j]? = some z := ⟨ys[j], List.getElem?_eq_getElem hjy⟩
      have hdx : xs.drop j = x :: xs.drop (j + 1) := by rw [List.drop_eq_getElem_cons hjl]; rw [List.getElem?_eq_getElem hjl] at hx; rw [Option.some.inj hx]
      have hdy : ys.drop j = y :: ys.drop (j + 1) := by rw [List.drop_eq_getElem_cons hjy]; rw [List.getElem?_eq_getElem hjy] at hy; rw [Option.some.inj hy]
      have HS3 : Hid (S = (x.same y && Vl.Z.sames (xs.drop (j + 1)) (ys.drop (j + 1)))) := by have := HS2.out; rw [hdx, hdy, Vl.Z.sames_cons] at this; exact Lib.hid this
      have HNX := Lib.hid (HX.out x (List.mem_of_getElem? hx))
      obtain ⟨g, o, cs, ha, -, hgl, hlen, hcell, hd⟩ := HRX.out.el j x.d (by rw [List.getElem?_map, hx]; rfl)
      obtain ⟨g', o', cs', hb, -, hgl', hlen', hcell', hd'⟩ := HRY.out.el j y.d (by rw [List.getElem?_map, hy]; rfl)
      obtain ⟨a1, a2, u1, u2, rfl, -, -⟩ := Z_open hd
      obtain ⟨b1, b2, v1, v2, rfl, -, -⟩ := Z_open hd'
      have k0 : wr.cell? ⟨g, o + j * 5, none⟩ = _ := (HBE.out.cell (p := ⟨g, o + j * 5, none⟩) hgl).trans (hcell 0 _ rfl)
      have k1 : wr.cell? ⟨g, o + j * 5 + 1, none⟩ = _ := (HBE.out.cell (p := ⟨g, o + j * 5 + 1, none⟩) hgl).trans (hcell 1 _ rfl)
      have k2 : wr.cell? ⟨g, o + j * 5 + 2, none⟩ = _ := (HBE.out.cell (p := ⟨g, o + j * 5 + 2, none⟩) hgl).trans (hcell 2 _ rfl)
      have k3 : wr.cell? ⟨g, o + j * 5 + 3, none⟩ = _ := (HBE.out.cell (p := ⟨g, o + j * 5 + 3, none⟩) hgl).trans (hcell 3 _ rfl)
      have k4 : wr.cell? ⟨g, o + j * 5 + 4, none⟩ = _ := (HBE.out.cell (p := ⟨g, o + j * 5 + 4, none⟩) hgl).trans (hcell 4 _ rfl)
      obtain ⟨wb, hwb⟩ : ∃ z, z = wr.alloc (.cells #[.int .i64 x.kind, .string ⟨x.text.toArray⟩, .slice a1 x.items.length u1, .slice a2 x.fields.length u2, .int .i64 x.at_] 25) := ⟨_, rfl⟩
      have hbw : Below w.heap.size w wb := by rw [hwb]; exact HBE.out.alloc HBE.out.size _
      have m0 : wb.cell? ⟨g', o' + j * 5, none⟩ = _ := (hbw.cell (p := ⟨g', o' + j * 5, none⟩) hgl').trans (hcell' 0 _ rfl)
      have m1 : wb.cell? ⟨g', o' + j * 5 + 1, none⟩ = _ := (hbw.cell (p := ⟨g', o' + j * 5 + 1, none⟩) hgl').trans (hcell' 1 _ rfl)
      have m2 : wb.cell? ⟨g', o' + j * 5 + 2, none⟩ = _ := (hbw.cell (p := ⟨g', o' + j * 5 + 2, none⟩) hgl').trans (hcell' 2 _ rfl)
      have m3 : wb.cell? ⟨g', o' + j * 5 + 3, none⟩ = _ := (hbw.cell (p := ⟨g', o' + j * 5 + 3, none⟩) hgl').trans (hcell' 3 _ rfl)
      have m4 : wb.cell? ⟨g', o' + j * 5 + 4, none⟩ = _ := (hbw.cell (p := ⟨g', o' + j * 5 + 4, none⟩) hgl').trans (hcell' 4 _ rfl)
      rw [hwb] at m0 m1 m2 m3 m4
      subst ha
      subst hb
      obtain ⟨wc, hwc⟩ : ∃ z, z = (wr.alloc (.cells #[.int .i64 x.kind, .string ⟨x.text.toArray⟩, .slice a1 x.items.length u1, .slice a2 x.fields.length u2, .int .i64 x.at_] 25)).alloc (.cells #[.int .i64 y.kind, .string ⟨y.text.toArray⟩, .slice b1 y.items.length v1, .slice b2 y.fields.length v2, .int .i64 y.at_] 25) := ⟨_, rfl⟩
      have hbc : Below w.heap.size w wc := by rw [hwc, ← hwb]; exact hbw.alloc hbw.size _
      have HBC := Lib.hid hbc
      have HCALL := Lib.hid (HIH.out x y HNX.out a1 a2 b1 b2 u1 u2 v1 v2 wc P (hd.to (Stands.below hbc)) (hd'.to (Stands.below hbc)))
      rw [hwc] at HCALL
      have HWC := Lib.hid hwc
      clear hx hy hdx hdy hlen hlen' hcell hcell' hd hd' hbw hbc hwb hwc HS2
      go_wp2_with fail
      refine HCALL.out.mono ?_
      rintro r w2 ⟨rfl, hb2⟩
      rw [← HWC.out] at hb2
      have HB2 := Lib.hid (HBC.out.trans (hb2.mono HBC.out.size))
      clear hb2 k0 k1 k2 k3 k4 m0 m1 m2 m3 m4 HCALL
      obtain ⟨q, hq⟩ : ∃ q, q = x.same y := ⟨_, rfl⟩
      rw [← hq]
      have HQ := Lib.hid hq
      clear hq
      cases q
      · go_wp2_with fail
        go_ret
        exact ⟨by rw [HS3.out, ← HQ.out]; rfl, HB2.out⟩
      · go_wp2_with fail
        go_roundg (xs.length + 1 - (j + 1))
        case measure => rw [HK.out]; omega
        case rel => exact ⟨j + 1, rfl, hjl, by go_num, by rw [HS3.out, ← HQ.out]; rfl, HB2.out⟩
    · have e1 : decide (j < xs.length) = false := decide_eq_false hjl
      have HS3 : Hid (S = true) := by
        have := HS2.out
        rw [List.drop_eq_nil_of_le (by omega), List.drop_eq_nil_of_le (by have := HLEN.out; omega), Vl.Z.sames_nil] at this
        exact Lib.hid this
      go_wp2_with fail
      go_ret
      exact ⟨by rw [HS3.out]; rfl, HBE.out⟩
/-- 'Same' of names and values. -/
def SameAC (N : Nat) : Prop := ∀ (x y : Vl.ZA), x.n ≤ N → ∀ (a1 a2 b1 b2 : Option Addr) (c1 c2 d1 d2 : Nat) (w : World) (P : Nat → Prop),
  Reads w P x.d [.string ⟨x.name.toArray⟩, .int .i64 x.v.kind, .string ⟨x.v.text.toArray⟩, .slice a1 x.v.items.length c1, .slice a2 x.v.fields.length c2, .int .i64 x.v.at_, .int .i64 x.at_] →
  Reads w P y.d [.string ⟨y.name.toArray⟩, .int .i64 y.v.kind, .string ⟨y.v.text.toArray⟩, .slice b1 y.v.items.length d1, .slice b2 y.v.fields.length d2, .int .i64 y.v.at_, .int .i64 y.at_] →
  Calls Tryz.prog 45 #[.agg #[.string ⟨x.name.toArray⟩, .int .i64 x.v.kind, .string ⟨x.v.text.toArray⟩, .slice a1 x.v.items.length c1, .slice a2 x.v.fields.length c2, .int .i64 x.v.at_, .int .i64 x.at_], .agg #[.string ⟨y.name.toArray⟩, .int .i64 y.v.kind, .string ⟨y.v.text.toArray⟩, .slice b1 y.v.items.length d1, .slice b2 y.v.fields.length d2, .int .i64 y.v.at_, .int .i64 y.at_]] w
    (fun r w' => r = .returned (.bool (x.same y)) ∧ Below w.heap.size w w')
theorem ZA_v {w : World} {P : Nat → Prop} {x : Vl.ZA} {n : List UInt8} {k : Int} {t : ByteArray} {s1 s2 : Value} {a b : Int} (h : Reads w P x.d [.string ⟨x.name.toArray⟩, .int .i64 x.v.kind, .string ⟨x.v.text.toArray⟩, s1, s2, .int .i64 x.v.at_, .int .i64 x.at_]) :
    Reads w P x.v.d [.int .i64 x.v.kind, .string ⟨x.v.text.toArray⟩, s1, s2, .int .i64 x.v.at_] := by
  obtain ⟨a1, a2, c1, c2, e, h2⟩ := ZA_open h
  simp only [List.cons.injEq, true_and, and_true] at e
  obtain ⟨rfl, rfl⟩ := e
  exact h2
set_option maxHeartbeats 1000000 in
set_option maxRecDepth 100000 in
theorem sameA_any (N : Nat) (IH : SameC N) : SameAC N := by
  intro x y hN a1 a2 b1 b2 c1 c2 d1 d2 w P hx hy
  have hxv := ZA_v (n := []) (k := 0) (t := ⟨#[]⟩) (a := 0) (b := 0) hx
  have hyv := ZA_v (n := []) (k := 0) (t := ⟨#[]⟩) (a := 0) (b := 0) hy
  obtain ⟨wc, hwc⟩ : ∃ z, z = (w.alloc (.cells #[.string ⟨x.name.toArray⟩, .int .i64 x.v.kind, .string ⟨x.v.text.toArray⟩, .slice a1 x.v.items.length c1, .slice a2 x.v.fields.length c2, .int .i64 x.v.at_, .int .i64 x.at_] 72)).alloc (.cells #[.string ⟨y.name.toArray⟩, .int .i64 y.v.kind, .string ⟨y.v.text.toArray⟩, .slice b1 y.v.items.length d1, .slice b2 y.v.fields.length d2, .int .i64 y.v.at_, .int .i64 y.at_] 72) := ⟨_, rfl⟩
  have hbc : Below w.heap.size w wc := by rw [hwc]; exact ((Below.refl _ _).alloc (Nat.le_refl _) _).alloc (by simp) _
  have HBC := Lib.hid hbc
  have HCALL := Lib.hid (IH x.v y.v (by have := Vl.ZA.n_eq x; omega) a1 a2 b1 b2 c1 c2 d1 d2 wc P (hxv.to (Stands.below hbc)) (hyv.to (Stands.below hbc)))
  rw [hwc] at HCALL
  have HWC := Lib.hid hwc
  have HEQ := Lib.hid (Vl.ZA.same_eq x y)
  clear hxv hyv hx hy hbc hwc IH
  obtain ⟨S, hS⟩ : ∃ S, S = x.same y := ⟨_, rfl⟩
  rw [← hS] at HEQ ⊢
  clear hS
  by_cases hn : x.name = y.name
  · have e2 : (x.name == y.name) = true := by rw [beq_iff_eq]; exact hn
    have HS : Hid (S = x.v.same y.v) := by rw [HEQ.out, decide_eq_true hn]; exact Lib.hid rfl
    clear hn
    go_enter Tryz.func45, Tryz.ntmps45
    go_wp2_with fail
    refine HCALL.out.mono ?_
    rintro r w2 ⟨rfl, hb2⟩
    rw [← HWC.out] at hb2
    have HB2 := Lib.hid (HBC.out.trans (hb2.mono HBC.out.size))
    clear hb2
    go_wp2_with fail
    go_ret
    exact ⟨by rw [HS.out]; rfl, HB2.out⟩
  · have e2 : (x.name == y.name) = false := by rw [beq_eq_false_iff_ne]; exact hn
    have HS : Hid (S = false) := by rw [HEQ.out, decide_eq_false hn]; exact Lib.hid rfl
    clear hn
    go_enter Tryz.func45, Tryz.ntmps45
    go_wp2_with fail
    go_ret
    exact ⟨by rw [HS.out]; rfl, by rw [← HWC.out]; exact HBC.out⟩
set_option maxHeartbeats 2000000 in
set_option maxRecDepth 100000 in
theorem eqfA_any (N : Nat) (IH : SameAC N) (xs ys : List Vl.ZA) (hx : ∀ x ∈ xs, x.n ≤ N) (a b : Option Addr) (c d : Nat) (w : World) (P : Nat → Prop) (hlx : xs.length ≤ 9223372036854775807)
    (hrx : Reads w P (.seq 7 (xs.map Vl.ZA.d)) [.slice a xs.length c]) (hry : Reads w P (.seq 7 (ys.map Vl.ZA.d)) [.slice b ys.length d]) :
    Calls Tryz.prog 44 #[.slice a xs.length c, .slice b ys.length d, .func (.func 45) #[] #[]] w (fun r w' => r = .returned (.bool (Vl.ZA.sames xs ys)) ∧ Below w.heap.size w w') := by
  have HX := Lib.hid hx
  have HRX := Lib.hid hrx
  have HRY := Lib.hid hry
  have HIH := Lib.hid IH
  clear hx hrx hry IH
  by_cases hlen : xs.length = ys.length
  rotate_left
  · have e0 : ((xs.length : Int) != (ys.length : Int)) = true := neT (by omega)
    have HS : Hid (Vl.ZA.sames xs ys = false) := Lib.hid (Vl.ZA.sames_len hlen)
    go_enter Tryz.func44, Tryz.ntmps44
    go_wp2_with fail
    go_ret
    exact ⟨by rw [HS.out]; rfl, Below.refl _ _⟩
  have e0 : ((xs.length : Int) != (ys.length : Int)) = false := neF (by omega)
  obtain ⟨S, hS⟩ : ∃ S, S = Vl.ZA.sames xs ys := ⟨_, rfl⟩
  have HS := Lib.hid hS
  rw [← hS]
  clear hS
  have HLEN := Lib.hid hlen
  clear hlen
  go_enter Tryz.func44, Tryz.ntmps44
  go_wp2_with fail
  go_loopg [17] (xs.length + 1) (fun k i wr => ∃ (j : Nat), k = xs.length + 1 - j ∧ j ≤ xs.length ∧ i = .int .i64 j ∧ S = Vl.ZA.sames (xs.drop j) (ys.drop j) ∧ Below w.heap.size w wr)
  case atStart => exact ⟨0, rfl, Nat.zero_le _, rfl, HS.out, Below.refl _ _⟩
  case round =>
    obtain ⟨j, hk, hj, rfl, hs, hbe⟩ := hrel
    have HK := Lib.hid hk
    have HS2 := Lib.hid hs
    have HBE := Lib.hid hbe
    clear hk hs hbe
    by_cases hjl : j < xs.length
    · have e1 : decide (j < xs.length) = true := decide_eq_true hjl
      have hjy : j < ys.length := by have := HLEN.out; omega
      have e2 : decide (j < ys.length) = true := decide_eq_true hjy
      obtain ⟨x, hx⟩ : ∃ z, xs[j]? = some z := ⟨xs[j], List.getElem?_eq_getElem hjl⟩
      obtain ⟨y, hy⟩ : ∃ z, ys[j]? = some z := ⟨ys[j], List.getElem?_eq_getElem hjy⟩
      have hdx : xs.drop j = x :: xs.drop (j + 1) := by rw [List.drop_eq_getElem_cons hjl]; rw [List.getElem?_eq_getElem hjl] at hx; rw [Option.some.inj hx]
      have hdy : ys.drop j = y :: ys.drop (j + 1) := by rw [List.drop_eq_getElem_cons hjy]; rw [List.getElem?_eq_getElem hjy] at hy; rw [Option.some.inj hy]
      have HS3 : Hid (S = (x.same y && Vl.ZA.sames (xs.drop (j + 1)) (ys.drop (j + 1)))) := by have := HS2.out; rw [hdx, hdy, Vl.ZA.sames_cons] at this; exact Lib.hid this
      have HNX := Lib.hid (HX.out x (List.mem_of_getElem? hx))
      obtain ⟨g, o, cs, ha, -, hgl, hlen, hcell, hd⟩ := HRX.out.el j x.d (by rw [List.getElem?_map, hx]; rfl)
      obtain ⟨g', o', cs', hb, -, hgl', hlen', hcell', hd'⟩ := HRY.out.el j y.d (by rw [List.getElem?_map, hy]; rfl)
      obtain ⟨a1, a2, u1, u2, rfl, -⟩ := ZA_open hd
      obtain ⟨b1, b2, v1, v2, rfl, -⟩ := ZA_open hd'
      have k0 : wr.cell? ⟨g, o + j * 7, none⟩ = _ := (HBE.out.cell (p := ⟨g, o + j * 7, none⟩) hgl).trans (hcell 0 _ rfl)
      have k1 : wr.cell? ⟨g, o + j * 7 + 1, none⟩ = _ := (HBE.out.cell (p := ⟨g, o + j * 7 + 1, none⟩) hgl).trans (hcell 1 _ rfl)
      have k2 : wr.cell? ⟨g, o + j * 7 + 2, none⟩ = _ := (HBE.out.cell (p := ⟨g, o + j * 7 + 2, none⟩) hgl).trans (hcell 2 _ rfl)
      have k3 : wr.cell? ⟨g, o + j * 7 + 3, none⟩ = _ := (HBE.out.cell (p := ⟨g, o + j * 7 + 3, none⟩) hgl).trans (hcell 3 _ rfl)
      have k4 : wr.cell? ⟨g, o + j * 7 + 4, none⟩ = _ := (HBE.out.cell (p := ⟨g, o + j * 7 + 4, none⟩) hgl).trans (hcell 4 _ rfl)
      have k5 : wr.cell? ⟨g, o + j * 7 + 5, none⟩ = _ := (HBE.out.cell (p := ⟨g, o + j * 7 + 5, none⟩) hgl).trans (hcell 5 _ rfl)
      have k6 : wr.cell? ⟨g, o + j * 7 + 6, none⟩ = _ := (HBE.out.cell (p := ⟨g, o + j * 7 + 6, none⟩) hgl).trans (hcell 6 _ rfl)
      obtain ⟨wb, hwb⟩ : ∃ z, z = wr.alloc (.cells #[.string ⟨x.name.toArray⟩, .int .i64 x.v.kind, .string ⟨x.v.text.toArray⟩, .slice a1 x.v.items.length u1, .slice a2 x.v.fields.length u2, .int .i64 x.v.at_, .int .i64 x.at_] 72) := ⟨_, rfl⟩
      have hbw : Below w.heap.size w wb := by rw [hwb]; exact HBE.out.alloc HBE.out.size _
      have m0 : wb.cell? ⟨g', o' + j * 7, none⟩ = _ := (hbw.cell (p := ⟨g', o' + j * 7, none⟩) hgl').trans (hcell' 0 _ rfl)
      have m1 : wb.cell? ⟨g', o' + j * 7 + 1, none⟩ = _ := (hbw.cell (p := ⟨g', o' + j * 7 + 1, none⟩) hgl').trans (hcell' 1 _ rfl)
      have m2 : wb.cell? ⟨g', o' + j * 7 + 2, none⟩ = _ := (hbw.cell (p := ⟨g', o' + j * 7 + 2, none⟩) hgl').trans (hcell' 2 _ rfl)
      have m3 : wb.cell? ⟨g', o' + j * 7 + 3, none⟩ = _ := (hbw.cell (p := ⟨g', o' + j * 7 + 3, none⟩) hgl').trans (hcell' 3 _ rfl)
      have m4 : wb.cell? ⟨g', o' + j * 7 + 4, none⟩ = _ := (hbw.cell (p := ⟨g', o' + j * 7 + 4, none⟩) hgl').trans (hcell' 4 _ rfl)
      have m5 : wb.cell? ⟨g', o' + j * 7 + 5, none⟩ = _ := (hbw.cell (p := ⟨g', o' + j * 7 + 5, none⟩) hgl').trans (hcell' 5 _ rfl)
      have m6 : wb.cell? ⟨g', o' + j * 7 + 6, none⟩ = _ := (hbw.cell (p := ⟨g', o' + j * 7 + 6, none⟩) hgl').trans (hcell' 6 _ rfl)
      rw [hwb] at m0 m1 m2 m3 m4 m5 m6
      subst ha
      subst hb
      obtain ⟨wc, hwc⟩ : ∃ z, z = (wr.alloc (.cells #[.string ⟨x.name.toArray⟩, .int .i64 x.v.kind, .string ⟨x.v.text.toArray⟩, .slice a1 x.v.items.length u1, .slice a2 x.v.fields.length u2, .int .i64 x.v.at_, .int .i64 x.at_] 72)).alloc (.cells #[.string ⟨y.name.toArray⟩, .int .i64 y.v.kind, .string ⟨y.v.text.toArray⟩, .slice b1 y.v.items.length v1, .slice b2 y.v.fields.length v2, .int .i64 y.v.at_, .int .i64 y.at_] 72) := ⟨_, rfl⟩
      have hbc : Below w.heap.size w wc := by rw [hwc, ← hwb]; exact hbw.alloc hbw.size _
      have HBC := Lib.hid hbc
      have HCALL := Lib.hid (HIH.out x y HNX.out a1 a2 b1 b2 u1 u2 v1 v2 wc P (hd.to (Stands.below hbc)) (hd'.to (Stands.below hbc)))
      rw [hwc] at HCALL
      have HWC := Lib.hid hwc
      clear hx hy hdx hdy hlen hlen' hcell hcell' hd hd' hbw hbc hwb hwc HS2
      go_wp2_with fail
      refine HCALL.out.mono ?_
      rintro r w2 ⟨rfl, hb2⟩
      rw [← HWC.out] at hb2
      have HB2 := Lib.hid (HBC.out.trans (hb2.mono HBC.out.size))
      clear hb2 k0 k1 k2 k3 k4 k5 k6 m0 m1 m2 m3 m4 m5 m6 HCALL
      obtain ⟨q, hq⟩ : ∃ q, q = x.same y := ⟨_, rfl⟩
      rw [← hq]
      have HQ := Lib.hid hq
      clear hq
      cases q
      · go_wp2_with fail
        go_ret
        exact ⟨by rw [HS3.out, ← HQ.out]; rfl, HB2.out⟩
      · go_wp2_with fail
        go_roundg (xs.length + 1 - (j + 1))
        case measure => rw [HK.out]; omega
        case rel => exact ⟨j + 1, rfl, hjl, by go_num, by rw [HS3.out, ← HQ.out]; rfl, HB2.out⟩
    · have e1 : decide (j < xs.length) = false := decide_eq_false hjl
      have HS3 : Hid (S = true) := by
        have := HS2.out
        rw [List.drop_eq_nil_of_le (by omega), List.drop_eq_nil_of_le (by have := HLEN.out; omega), Vl.ZA.sames_nil] at this
        exact Lib.hid this
      go_wp2_with fail
      go_ret
      exact ⟨by rw [HS3.out]; rfl, HBE.out⟩
set_option maxHeartbeats 2000000 in
set_option maxRecDepth 100000 in
theorem same_step (N : Nat) (hNb : N ≤ 9000000000000000000) (IH : SameC N) : SameC (N + 1) := by
  have IHA := sameA_any N IH
  intro x y hN a1 a2 b1 b2 c1 c2 d1 d2 w P hx hy
  obtain ⟨x1, x2, x3, x4, ex, hxi, hxf⟩ := Z_open hx
  obtain ⟨y1, y2, y3, y4, ey, hyi, hyf⟩ := Z_open hy
  obtain ⟨rfl, rfl, rfl, rfl⟩ : a1 = x1 ∧ c1 = x3 ∧ a2 = x2 ∧ c2 = x4 := by simpa [and_assoc] using ex
  obtain ⟨rfl, rfl, rfl, rfl⟩ : b1 = y1 ∧ d1 = y3 ∧ b2 = y2 ∧ d2 = y4 := by simpa [and_assoc] using ey
  have hn := Vl.Z.n_eq x
  have hl1 := Vl.Z.ns_len x.items
  have hl2 := Vl.ZA.ns_len x.fields
  obtain ⟨wc, hwc⟩ : ∃ z, z = (w.alloc (.cells #[.int .i64 x.kind, .string ⟨x.text.toArray⟩, .slice a1 x.items.length c1, .slice a2 x.fields.length c2, .int .i64 x.at_] 25)).alloc (.cells #[.int .i64 y.kind, .string ⟨y.text.toArray⟩, .slice b1 y.items.length d1, .slice b2 y.fields.length d2, .int .i64 y.at_] 25) := ⟨_, rfl⟩
  have hbc : Below w.heap.size w wc := by rw [hwc]; exact ((Below.refl _ _).alloc (Nat.le_refl _) _).alloc (by simp) _
  have HBC := Lib.hid hbc
  have HWC := Lib.hid hwc
  have HXF := Lib.hid (hxf.to (Stands.below hbc))
  have HYF := Lib.hid (hyf.to (Stands.below hbc))
  have HEQ := Lib.hid (Vl.Z.same_eq x y)
  have HNF : Hid (∀ z ∈ x.fields, z.n ≤ N) := Lib.hid (fun z hz => by have := Vl.ZA.ns_mem hz; omega)
  have HIHA := Lib.hid IHA
  have hfb : x.fields.length ≤ 9223372036854775807 := by omega
  have hx0 : (wc.heap[w.heap.size]? = some (.cells #[.int .i64 x.kind, .string ⟨x.text.toArray⟩, .slice a1 x.items.length c1, .slice a2 x.fields.length c2, .int .i64 x.at_] 25 (0, 0))) := by
    rw [hwc, Lib.alloc_old _ _ _ (by simp)]; exact heap_at_new _ _
  have hy0 : (wc.heap[w.heap.size + 1]? = some (.cells #[.int .i64 y.kind, .string ⟨y.text.toArray⟩, .slice b1 y.items.length d1, .slice b2 y.fields.length d2, .int .i64 y.at_] 25 (0, 0))) := by
    rw [hwc]
    have := heap_at_new (w.alloc (.cells #[.int .i64 x.kind, .string ⟨x.text.toArray⟩, .slice a1 x.items.length c1, .slice a2 x.fields.length c2, .int .i64 x.at_] 25)) (.cells #[.int .i64 y.kind, .string ⟨y.text.toArray⟩, .slice b1 y.items.length d1, .slice b2 y.fields.length d2, .int .i64 y.at_] 25)
    rw [show (w.alloc (.cells #[.int .i64 x.kind, .string ⟨x.text.toArray⟩, .slice a1 x.items.length c1, .slice a2 x.fields.length c2, .int .i64 x.at_] 25)).heap.size = w.heap.size + 1 by simp] at this
    exact this
  have HX0 := Lib.hid hx0
  have HY0 := Lib.hid hy0
  have HCI := Lib.hid (eqfV_any N IH x.items y.items (fun z hz => by have := Vl.Z.ns_mem hz; omega) a1 b1 c1 d1 wc P (by omega) (hxi.to (Stands.below hbc)) (hyi.to (Stands.below hbc)))
  rw [hwc] at HCI
  clear hxi hyi hxf hyf hx hy ex ey hbc hwc IH IHA hx0 hy0 hn
  obtain ⟨S, hS⟩ : ∃ S, S = x.same y := ⟨_, rfl⟩
  rw [← hS] at HEQ ⊢
  clear hS
  by_cases hk : x.kind = y.kind
  rotate_left
  · have e1 : (x.kind == y.kind) = false := by rw [beq_eq_false_iff_ne]; exact hk
    have HS : Hid (S = false) := by rw [HEQ.out, decide_eq_false hk]; exact Lib.hid rfl
    clear hk
    go_enter Tryz.func15, Tryz.ntmps15
    go_wp2_with fail
    go_ret
    exact ⟨by rw [HS.out]; rfl, by rw [← HWC.out]; exact HBC.out⟩
  have e1 : (x.kind == y.kind) = true := by rw [beq_iff_eq]; exact hk
  have HE2 : Hid (S = (decide (x.text = y.text) && (Vl.Z.sames x.items y.items && Vl.ZA.sames x.fields y.fields))) := by rw [HEQ.out, decide_eq_true hk]; exact Lib.hid rfl
  clear hk HEQ
  by_cases ht : x.text = y.text
  rotate_left
  · have e3 : (x.text == y.text) = false := by rw [beq_eq_false_iff_ne]; exact ht
    have HS : Hid (S = false) := by rw [HE2.out, decide_eq_false ht]; exact Lib.hid rfl
    clear ht
    go_enter Tryz.func15, Tryz.ntmps15
    go_wp2_with fail
    go_ret
    exact ⟨by rw [HS.out]; rfl, by rw [← HWC.out]; exact HBC.out⟩
  have e3 : (x.text == y.text) = true := by rw [beq_iff_eq]; exact ht
  have HE3 : Hid (S = (Vl.Z.sames x.items y.items && Vl.ZA.sames x.fields y.fields)) := by rw [HE2.out, decide_eq_true ht]; exact Lib.hid rfl
  clear ht HE2
  go_enter Tryz.func15, Tryz.ntmps15
  go_wp2_with fail
  refine HCI.out.mono ?_
  rintro r w2 ⟨rfl, hb2⟩
  rw [← HWC.out] at hb2
  obtain ⟨q, hq⟩ : ∃ q, q = Vl.Z.sames x.items y.items := ⟨_, rfl⟩
  rw [← hq]
  have HQ := Lib.hid hq
  clear hq
  have HB2 := Lib.hid hb2
  have HB3 := Lib.hid (HBC.out.trans (hb2.mono HBC.out.size))
  clear hb2
  have HX2 : Hid (w2.heap[w.heap.size]? = some (.cells #[.int .i64 x.kind, .string ⟨x.text.toArray⟩, .slice a1 x.items.length c1, .slice a2 x.fields.length c2, .int .i64 x.at_] 25 (0, 0))) := Lib.hid (by rw [HB2.out.block _ (block_lt HX0.out)]; exact HX0.out)
  have HY2 : Hid (w2.heap[w.heap.size + 1]? = some (.cells #[.int .i64 y.kind, .string ⟨y.text.toArray⟩, .slice b1 y.items.length d1, .slice b2 y.fields.length d2, .int .i64 y.at_] 25 (0, 0))) := Lib.hid (by rw [HB2.out.block _ (block_lt HY0.out)]; exact HY0.out)
  cases q
  · go_wp2_with fail
    go_ret
    exact ⟨by rw [HE3.out, ← HQ.out]; rfl, HB3.out⟩
  · have z3 : w2.cell? ⟨w.heap.size, 3, none⟩ = some (.slice a2 x.fields.length c2) := blk_cell HX2.out 3 _ rfl
    have z4 : w2.cell? ⟨w.heap.size + 1, 3, none⟩ = some (.slice b2 y.fields.length d2) := blk_cell HY2.out 3 _ rfl
    have HCF := Lib.hid (eqfA_any N HIHA.out x.fields y.fields HNF.out a2 b2 c2 d2 w2 P (by omega) (HXF.out.to (Stands.below HB2.out)) (HYF.out.to (Stands.below HB2.out)))
    go_wp2_with fail
    refine HCF.out.mono ?_
    rintro r w4 ⟨rfl, hb4⟩
    have HB4 := Lib.hid (HB3.out.trans (hb4.mono HB3.out.size))
    clear hb4 z3 z4
    go_wp2_with fail
    go_ret
    exact ⟨by rw [HE3.out, ← HQ.out]; rfl, HB4.out⟩
theorem same_any : ∀ (N : Nat), N ≤ 9000000000000000000 → SameC N
  | 0, _ => fun x y hN => by have := Vl.Z.n_pos x; omega
  | N + 1, h => same_step N (by omega) (same_any N (by omega))
end Go.Proofs.YtefjgpkpplkkgaaGreatDoor
namespace Go.Proofs.YtefjgpkpplkkgaaGreatDoor
set_option linter.unusedSimpArgs false
set_option linter.unusedVariables false
open Go Go.RowKit

theorem rvalue_any (b g : Nat) (fixed : Bool) : ∀ (n : Nat), n ≤ 1600 → ∀ (s : Rd.St) (w : World), RdAt w b g s → s.rest.length ≤ n → 0 ≤ s.deep ∧ s.deep + n ≤ 900000 →
    Calls Tryz.prog 39 #[.pointer (some ⟨b, 0, none⟩), .bool fixed] w (Got b g w (Rd.value fixed (n + 1) s).2.d (Rd.value fixed (n + 1) s).1)
  | 0, hnb, s, w, h, hn, hd => rvalue_step b g fixed 0 s w h hn hnb hd (fun m hm => absurd hm (by omega))
  | n + 1, hnb, s, w, h, hn, hd => rvalue_step b g fixed (n + 1) s w h hn hnb hd (fun m hm s' w' h' hn' hd' => by
    obtain rfl : n = m := by omega
    exact rvalue_any b g fixed n (by omega) s' w' h' hn' hd')
end Go.Proofs.YtefjgpkpplkkgaaGreatDoor
namespace Go.Proofs.YtefjgpkpplkkgaaGreatDoor
set_option linter.unusedSimpArgs false
set_option linter.unusedVariables false
open Go Go.RowKit

/-- A row of data of the call's own, beside the reader. -/
structure GI (w0 : World) (b g : Nat) (E : TypeId) (k : Nat) (s : Rd.St) (v : Value) (ds : List D) (w : World) : Prop where
  rd : RdAt w b g s
  row : Grows w (fun x => w0.heap.size ≤ x ∧ v.ownBlock ≠ some x) w0.heap.size E k v ds
  fr : Fr b w0 w
  lb : b < w0.heap.size
  lg : g < w0.heap.size
section
variable {w0 w w' w8 : World} {b g k : Nat} {E : TypeId} {s s' : Rd.St} {v v' : Value} {ds : List D} {d : D} {cs xs : List Value}
theorem GI.nil (h : RdAt w b g s) (E : TypeId) (k : Nat) : GI w b g E k s (.slice none 0 0) [] w :=
  ⟨h, Grows.nil _ _ _ _ _, But.refl _ _, h.lt.1, h.lt.2⟩
theorem GI.step (h : GI w0 b g E k s v ds w) (hr : RdAt w' b g s') (hf : Fr b w w') : GI w0 b g E k s' v ds w' := by
  have lb := h.lb
  have hs := h.fr.size
  exact ⟨hr, h.row.to ⟨hf.size, fun x hx hp => ⟨hp, hf.block x hx (by omega)⟩⟩ (fun x hx => ⟨fun hp => hp.2 hx, hf.block x (h.row.lt x hx).2 (by have := (h.row.lt x hx).1; omega)⟩), h.fr.trans hf, h.lb, h.lg⟩
theorem GI.below (h : GI w0 b g E k s v ds w) (hb : Below w.heap.size w w') : GI w0 b g E k s v ds w' := h.step (h.rd.below hb) (But.of_below hb)
/-- One more. -/
theorem GI.more (h : GI w0 b g E k s v ds w) (hx : w.ownsRow w0.heap.size E k v ds.length xs) (hR : RowsD w (fun x => w0.heap.size ≤ x ∧ v.ownBlock ≠ some x) k ds xs) (hd : Reads w (fun x => w0.heap.size ≤ x ∧ v.ownBlock ≠ some x) d cs)
    (hlen : cs.length = k) (hg : w.grownBy w8 v.ownBlock) (hloc : v'.ownBlock = v.ownBlock ∨ v'.ownBlock = some w.heap.size) (hrow : w8.ownsRow w0.heap.size E k v' (ds.length + 1) (xs ++ cs)) : GI w0 b g E k s v' (ds ++ [d]) w8 := by
  have lb := h.lb
  have lg := h.lg
  have hlt := hx.lt
  have e8 : ∀ x, x < w.heap.size → v.ownBlock ≠ some x → w8.heap[x]? = w.heap[x]? := fun x hx3 hn => hg.block x hx3 (fun e => hn e.symm)
  have low : ∀ x, x < w0.heap.size → v.ownBlock ≠ some x := fun x hx2 e => by have := hlt x e; omega
  have hst : Stands w (fun x => w0.heap.size ≤ x ∧ v.ownBlock ≠ some x) w8 (fun x => w0.heap.size ≤ x ∧ v'.ownBlock ≠ some x) := ⟨hg.size, fun x hx2 hp => ⟨⟨hp.1, fun e => by
    rcases hloc with e2 | e2
    · exact hp.2 (by rw [← e2]; exact e)
    · rw [e2] at e
      simp only [Option.some.injEq] at e
      omega⟩, e8 x hx2 hp.2⟩⟩
  refine ⟨h.rd.to hg.size (e8 b h.rd.lt.1 (low b lb)) (e8 g h.rd.lt.2 (low g lg)), ⟨⟨xs ++ cs, ?_, (hR.to hst).snoc (hd.to hst) hlen⟩, fun x e hp => hp.2 e⟩, ⟨hg.os.trans h.fr.os, hg.tape.trans h.fr.tape, hg.output.trans h.fr.output, Nat.le_trans h.fr.size hg.size, fun x hx3 hxb => by rw [e8 x (Nat.lt_of_lt_of_le hx3 h.fr.size) (low x hx3)]; exact h.fr.block x hx3 hxb⟩, lb, lg⟩
  rw [List.length_append]
  exact hrow
/-- The row, told as data. -/
theorem GI.reads (h : GI w0 b g E k s v ds w) : Reads w (fun x => w0.heap.size ≤ x) (.seq k ds) [v] :=
  h.row.reads.to (Stands.sub w (fun x _ hp => by
    rcases hp with hp | hp
    · exact hp.1
    · exact (h.row.lt x hp).1))
/-- A callee's data, as the row takes them. -/
theorem GI.data (h : GI w0 b g E k s v ds w) (hd : Reads w' (fun x => w.heap.size ≤ x) d cs) : Reads w' (fun x => w0.heap.size ≤ x ∧ v.ownBlock ≠ some x) d cs :=
  hd.to (Stands.sub w' (fun x _ hp => ⟨Nat.le_trans h.fr.size hp, fun e => by have h1 := (h.row.lt x e).2; have h2 : w.heap.size ≤ x := hp; omega⟩))
end
end Go.Proofs.YtefjgpkpplkkgaaGreatDoor
namespace Go.Proofs.YtefjgpkpplkkgaaGreatDoor
set_option linter.unusedSimpArgs false
set_option linter.unusedVariables false
open Go Go.RowKit

theorem chain_toks {s : ByteArray} : ∀ {ts : List Lx.Tok} {p q : Nat}, Chain s p ts q → ∀ t ∈ ts, t.kind ≤ 5 ∧ 1 ≤ t.kind ∧ t.at_ < s.size
  | [], _, _, _, t, ht => by simp at ht
  | x :: ts, p, q, h, t, ht => by
    rcases List.mem_cons.1 ht with rfl | ht
    · exact ⟨h.1.k5, h.1.k1, h.1.hi⟩
    · exact chain_toks h.2 t ht
theorem lex_size {l : List UInt8} {ts : List Lx.Tok} (h : Lx.lex l = .ok ts) : l.length ≤ 4096 := by
  unfold Lx.lex at h
  split at h
  · cases h
  · omega
theorem tsOk_of {s : ByteArray} {ts : List Lx.Tok} (h : Lx.lex s.data.toList = .ok ts) (hs : Std s ts) : TsOk ts ∧ 0 < ts.length := by
  have hl : s.size ≤ 4096 := lex_size h
  obtain ⟨pre, rfl, hch⟩ := hs.chain
  have hg : ∀ t ∈ pre, t.text.length ≤ 1000000000 := by
    have h2 := h
    unfold Lx.lex at h2
    rw [if_neg (by have : s.data.toList.length = s.size := rfl; omega)] at h2
    obtain ⟨pre2, e, hp⟩ := Lx.lexGo_good _ _ _ _ _ (by have : s.data.toList.length = s.size := rfl; omega) h2
    rw [List.nil_append] at e
    have : pre = pre2 := (List.append_inj_left' e rfl)
    subst this
    exact fun t ht => (hp t ht).2
  have hm : ∀ t ∈ pre ++ [(⟨0, [], s.size⟩ : Lx.Tok)], t ∈ pre ∨ t = ⟨0, [], s.size⟩ := fun t ht => by simpa using ht
  refine ⟨⟨hs.len, fun t ht => ?_, fun t ht => ?_, fun t ht => ?_, fun t ht => ?_⟩, by simp⟩
  · rw [List.length_append, List.length_singleton, Nat.add_sub_cancel, List.getElem?_append_right (Nat.le_refl _), Nat.sub_self] at ht
    simp at ht
    rw [← ht]
  · rcases hm t ht with h | rfl
    · exact (chain_toks hch t h).1
    · simp
  · rcases hm t ht with h | rfl
    · exact hg t h
    · simp
  · rcases hm t ht with h | rfl
    · have := (chain_toks hch t h).2.2; omega
    · exact hl

/-- Where the tokens of a text stand, if they are tokens. -/
def StdAll (l : List UInt8) : Prop := ∀ ts, Lx.lex l = .ok ts → Std ⟨l.toArray⟩ ts
/-- What 'New' leaves. -/
def NewPost (l : List UInt8) (w : World) (r : Ending) (w' : World) : Prop :=
  Below w.heap.size w w' ∧ StdAll l ∧ ∃ (g cap : Nat) (ts : List Lx.Tok) (a e : Nat), r = .returned (.agg #[.slice (some ⟨g, 0, none⟩) ts.length cap, .int .i64 0, .int .i64 0, .int .i64 a, .int .i64 e]) ∧ w.heap.size ≤ g ∧ TokRow w' g ts ∧ TsOk ts ∧ 0 < ts.length ∧
    Rd.begin_ l = ⟨ts, 0, a, e⟩
/-- A reader laid in memory. -/
theorem NewPost.rdAt {l : List UInt8} {w : World} {b g cap : Nat} {ts : List Lx.Tok} {a e : Nat} {T : TypeId} (hb : w.heap[b]? = some (.cells #[.slice (some ⟨g, 0, none⟩) ts.length cap, .int .i64 0, .int .i64 0, .int .i64 a, .int .i64 e] T (0, 0)))
    (hr : TokRow w g ts) (hne : g ≠ b) (hok : TsOk ts) (hpos : 0 < ts.length) (hbg : Rd.begin_ l = ⟨ts, 0, a, e⟩) : RdAt w b g (Rd.begin_ l) := by
  rw [hbg]
  exact ⟨⟨T, cap, ts, 0, hb, hr, rfl, hpos, hok⟩, hne⟩

theorem new_below {w w1 : World} (hb : Below w.heap.size w w1) (cs : List Value) : Below w.heap.size w (putCells w1 w.heap.size 0 cs) := by
  have ho := putCells_os w.heap.size cs 0 w1
  exact ⟨ho.1.trans hb.os, ho.2.1.trans hb.tape, ho.2.2.trans hb.output, by rw [putCells_size]; exact hb.size, fun k hk => by rw [putCells_ne _ _ (by omega)]; exact hb.block k hk⟩
theorem new_row {w1 : World} {g x : Nat} {ts : List Lx.Tok} (h : TokRow w1 g ts) (hne : g ≠ x) (cs : List Value) : TokRow (putCells w1 x 0 cs) g ts :=
  h.heap (by rw [putCells_size]; exact Nat.le_refl _) (putCells_ne _ _ hne _ _ _)
theorem row_one (w : World) (T : TypeId) : TokRow (w.alloc (.cells #[.int .i64 0, .string ⟨#[]⟩, .int .i64 0] T)) w.heap.size [⟨0, [], 0⟩] := by
  refine ⟨by simp, fun i t ht => ?_, fun i t ht => ?_, fun i t ht => ?_⟩ <;>
  · have hi : i = 0 := by have := (List.getElem?_eq_some_iff.1 ht).1; simp at this; omega
    subst hi
    simp at ht
    subst ht
    exact cell_at_new _ _ _ _ _ _ rfl
theorem tsOk_one : TsOk [(⟨0, [], 0⟩ : Lx.Tok)] := ⟨by simp, fun t ht => by simp at ht; rw [← ht], fun t ht => by simp at ht; subst ht; simp, fun t ht => by simp at ht; subst ht; simp, fun t ht => by simp at ht; subst ht; simp⟩

set_option maxHeartbeats 1000000 in
set_option maxRecDepth 100000 in
theorem rnew_any (s : ByteArray) (w : World) (hs : s.size ≤ 9223372036854775807) (hE : Env w) (h3 : 3 ≤ w.heap.size) :
    Calls Tryz.prog 38 #[.string s] w (NewPost s.data.toList w) := by
  have HE := Lib.hid hE
  have hba : Below w.heap.size w (w.alloc (.cells #[.slice none 0 0, .int .i64 0, .int .i64 0, .int .i64 0, .int .i64 0] 77)) := (Below.refl _ _).alloc (Nat.le_refl _) _
  have HBA := Lib.hid hba
  have hz1 := hba.size
  clear hE
  go_enter Tryz.func38, Tryz.ntmps38
  go_wp2_with fail
  refine (lex_any s _ hs (HE.out.below hba) (by omega)).mono ?_
  rintro r w1 ⟨hb1, hres⟩
  clear hba
  have HB1 := Lib.hid (HBA.out.trans (hb1.mono HBA.out.size))
  have HZ : Hid (w1.heap[w.heap.size]? = some (.cells #[.slice none 0 0, .int .i64 0, .int .i64 0, .int .i64 0, .int .i64 0] 77 (0, 0))) := Lib.hid (by rw [hb1.block w.heap.size (by simp)]; exact heap_at_new _ _)
  have HS1 := Lib.hid hb1.size
  clear hb1
  have z0 := blk_cell HZ.out 0 (.slice none 0 0) rfl
  have z1 := blk_cell HZ.out 1 (.int .i64 0) rfl
  have z2 := blk_cell HZ.out 2 (.int .i64 0) rfl
  have z3 := blk_cell HZ.out 3 (.int .i64 0) rfl
  have z4 := blk_cell HZ.out 4 (.int .i64 0) rfl
  have f0 := blk_free HZ.out 0
  have f1 := blk_free HZ.out 1
  have f2 := blk_free HZ.out 2
  have f3 := blk_free HZ.out 3
  have f4 := blk_free HZ.out 4
  rcases hres with ⟨ts, v, hlx, rfl, ht, hstd⟩ | ⟨a, c, hlx, rfl, hc⟩
  · obtain ⟨hok, hpos⟩ := tsOk_of hlx hstd
    obtain ⟨g, cap, rfl, hg, hrow⟩ := ht.openRow hpos
    have HSTD : Hid (StdAll s.data.toList) := Lib.hid fun ts' h' => by
      rw [hlx] at h'
      obtain rfl := Lx.Res.ok.inj h'
      exact hstd
    have HOK := Lib.hid hok
    have HLX := Lib.hid hlx
    have HROW := Lib.hid hrow
    have HGS := Lib.hid hg
    clear hok hlx hrow ht hstd hg
    have hgx : g ≠ w.heap.size := by have := HGS.out; simp at this; omega
    have HP1 := Lib.hid (new_below HB1.out [.slice (some ⟨g, 0, none⟩) ts.length cap, .int .i64 0, .int .i64 0, .int .i64 0, .int .i64 0])
    have HP2 := Lib.hid (new_row HROW.out hgx [.slice (some ⟨g, 0, none⟩) ts.length cap, .int .i64 0, .int .i64 0, .int .i64 0, .int .i64 0])
    go_wp2_with fail
    have p1 := HP1.out
    have p2 := HP2.out
    simp only [putCells, Nat.reduceAdd, Nat.zero_add] at p1 p2
    refine bodyPost_ret (v := .agg #[.slice (some ⟨g, 0, none⟩) ts.length cap, .int .i64 0, .int .i64 0, .int .i64 0, .int .i64 0]) (by simp [results, Tryz.results38, go_sem, z0, z1, z2, z3, z4]) rfl ?_
    exact ⟨p1, HSTD.out, g, cap, ts, 0, 0, rfl, by have := HGS.out; simp at this; omega, p2, HOK.out, hpos, by unfold Rd.begin_; rw [HLX.out]⟩
  · have hce : ((c : Int) != 0) = true := neT (by omega)
    have hlit : Below w1.heap.size w1 (w1.alloc (.cells #[.int .i64 0, .string ⟨#[]⟩, .int .i64 0] 136)) := (Below.refl _ _).alloc (Nat.le_refl _) _
    have HP1 := Lib.hid (new_below (HB1.out.trans (hlit.mono HB1.out.size)) [.slice (some ⟨w1.heap.size, 0, none⟩) 1 1, .int .i64 0, .int .i64 0, .int .i64 a, .int .i64 c])
    have hgx : w1.heap.size ≠ w.heap.size := by have := HS1.out; simp at this; omega
    have n1 : ¬ w1.heap.size = w.heap.size := hgx
    have n2 : ¬ w.heap.size = w1.heap.size := fun e => hgx e.symm
    have HP2 := Lib.hid (new_row (row_one w1 136) hgx [.slice (some ⟨w1.heap.size, 0, none⟩) 1 1, .int .i64 0, .int .i64 0, .int .i64 a, .int .i64 c])
    have HLX := Lib.hid hlx
    have HSZ := Lib.hid HB1.out.size
    have HZ2 : Hid ((w1.alloc (.cells #[.int .i64 0, .string ⟨#[]⟩, .int .i64 0] 136)).heap[w.heap.size]? = some (.cells #[.slice none 0 0, .int .i64 0, .int .i64 0, .int .i64 0, .int .i64 0] 77 (0, 0))) := Lib.hid (by
      rw [Lib.alloc_old _ _ _ (by have := HS1.out; simp at this; omega)]; exact HZ.out)
    clear hlit hlx z0 z1 z2 z3 z4 f0 f1 f2 f3 f4
    have z0 := blk_cell HZ2.out 0 (.slice none 0 0) rfl
    have z1 := blk_cell HZ2.out 1 (.int .i64 0) rfl
    have z2 := blk_cell HZ2.out 2 (.int .i64 0) rfl
    have z3 := blk_cell HZ2.out 3 (.int .i64 0) rfl
    have z4 := blk_cell HZ2.out 4 (.int .i64 0) rfl
    have f0 := blk_free HZ2.out 0
    have f1 := blk_free HZ2.out 1
    have f2 := blk_free HZ2.out 2
    have f3 := blk_free HZ2.out 3
    have f4 := blk_free HZ2.out 4
    go_wp2_with fail
    have p1 := HP1.out
    have p2 := HP2.out
    simp only [putCells, Nat.reduceAdd, Nat.zero_add] at p1 p2
    refine bodyPost_ret (v := .agg #[.slice (some ⟨w1.heap.size, 0, none⟩) 1 1, .int .i64 0, .int .i64 0, .int .i64 a, .int .i64 c]) (by simp [results, Tryz.results38, go_sem, z0, z1, z2, z3, z4]) rfl ?_
    exact ⟨p1, (fun ts' h' => by rw [HLX.out] at h'; cases h'), w1.heap.size, 1, [⟨0, [], 0⟩], a, c, rfl, HSZ.out, p2, tsOk_one, by simp, by unfold Rd.begin_; rw [HLX.out]⟩
end Go.Proofs.YtefjgpkpplkkgaaGreatDoor
namespace Go.Proofs.YtefjgpkpplkkgaaGreatDoor
set_option linter.unusedSimpArgs false
set_option linter.unusedVariables false
open Go Go.RowKit

/-- Texts as data. -/
def sds (l : List (List UInt8)) : List D := l.map D.str
/-- A row of texts of the call's own, beside the reader. -/
structure NI (w0 : World) (b g : Nat) (s : Rd.St) (v : Value) (out : List (List UInt8)) (w : World) : Prop where
  rd : RdAt w b g s
  row : Grows w (fun _ => False) w0.heap.size 9 1 v (sds out)
  fr : Fr b w0 w
  lb : b < w0.heap.size
  lg : g < w0.heap.size
theorem NI.step {w0 w w' : World} {b g : Nat} {s s' : Rd.St} {v : Value} {out : List (List UInt8)} (h : NI w0 b g s v out w) (hr : RdAt w' b g s') (hf : Fr b w w') : NI w0 b g s' v out w' := by
  have lb := h.lb
  have hs := h.fr.size
  exact ⟨hr, h.row.to ⟨hf.size, fun x _ hp => hp.elim⟩ (fun x hx => ⟨fun hp => hp, hf.block x (h.row.lt x hx).2 (by have := (h.row.lt x hx).1; omega)⟩), h.fr.trans hf, h.lb, h.lg⟩
theorem sds_len (l : List (List UInt8)) : (sds l).length = l.length := by simp [sds]
theorem NI.more {w0 w w8 : World} {b g : Nat} {s : Rd.St} {v v' : Value} {out : List (List UInt8)} {t : List UInt8} (h : NI w0 b g s v out w) (hg : w.grownBy w8 v.ownBlock)
    {xs : List Value} (hx2 : w.ownsRow w0.heap.size 9 1 v out.length xs) (hR : RowsD w (fun _ => False) 1 (sds out) xs) (hrow : w8.ownsRow w0.heap.size 9 1 v' (out.length + 1) (xs ++ [.string ⟨t.toArray⟩])) : NI w0 b g s v' (out ++ [t]) w8 := by
  have lb := h.lb
  have lg := h.lg
  have hlt := hx2.lt
  have e8 : ∀ x, x < w0.heap.size → w8.heap[x]? = w.heap[x]? := fun x hx3 => hg.block x (Nat.lt_of_lt_of_le hx3 h.fr.size) (fun e => by have := (hlt x e.symm).1; omega)
  refine ⟨h.rd.to hg.size (e8 b lb) (e8 g lg), ⟨⟨xs ++ [.string ⟨t.toArray⟩], ?_, ?_⟩, fun x _ hp => hp⟩, ⟨hg.os.trans h.fr.os, hg.tape.trans h.fr.tape, hg.output.trans h.fr.output, Nat.le_trans h.fr.size hg.size, fun x hx3 hxb => by rw [e8 x hx3]; exact h.fr.block x hx3 hxb⟩, lb, lg⟩
  · rw [sds_len, List.length_append]
    exact hrow
  · have hst : Stands w (fun _ => False) w8 (fun _ => False) := ⟨hg.size, fun x _ hp => hp.elim⟩
    have : sds (out ++ [t]) = sds out ++ [D.str t] := by simp [sds]
    rw [this]
    exact (hR.to hst).snoc (.str t) rfl

end Go.Proofs.YtefjgpkpplkkgaaGreatDoor
namespace Go.Proofs.YtefjgpkpplkkgaaGreatDoor
set_option linter.unusedSimpArgs false
set_option linter.unusedVariables false
open Go Go.RowKit

/-- A block that is being filled, beside blocks that are kept. -/
structure BI (w0 : World) (b g t6 : Nat) (bx : List Box) (T6 : TypeId) (c6 : Array Value) (s : Rd.St) (w : World) : Prop where
  rd : RdAt w b g s
  cb : ∀ p ∈ bx, w.heap[p.1]? = some p.2
  b6 : w.heap[t6]? = some (.cells c6 T6 (0, 0))
  fr : Fr b w0 w
  lb : b < w0.heap.size
  lg : g < w0.heap.size
  lx : ∀ p ∈ bx, w0.heap.size ≤ p.1 ∧ p.1 < t6
  l6 : w0.heap.size ≤ t6
section
variable {w0 w w' : World} {b g t6 : Nat} {bx : List Box} {T6 : TypeId} {c6 : Array Value} {s s' : Rd.St}
theorem BI.step (h : BI w0 b g t6 bx T6 c6 s w) (hr : RdAt w' b g s') (hf : Fr b w w') : BI w0 b g t6 bx T6 c6 s' w' := by
  have lb := h.lb
  have l6 := h.l6
  refine ⟨hr, fun p hp => ?_, ?_, h.fr.trans hf, lb, h.lg, h.lx, l6⟩
  · have hp1 := h.cb p hp
    have hp2 := h.lx p hp
    rw [hf.block p.1 (block_lt hp1) (by omega)]
    exact hp1
  · rw [hf.block t6 (block_lt h.b6) (by omega)]
    exact h.b6
theorem BI.below (h : BI w0 b g t6 bx T6 c6 s w) (hb : Below w.heap.size w w') : BI w0 b g t6 bx T6 c6 s w' := h.step (h.rd.below hb) (But.of_below hb)
theorem BI.put (h : BI w0 b g t6 bx T6 c6 s w) (j : Nat) (v : Value) : BI w0 b g t6 bx T6 (c6.setIfInBounds j v) s (w.setCell ⟨t6, j, none⟩ v) := by
  have lb := h.lb
  have lg := h.lg
  have l6 := h.l6
  refine ⟨h.rd.set_ne (by omega) (by omega) _ _, fun p hp => ?_, heap_set1 h.b6, h.fr.setCell (.inr l6) v, lb, lg, h.lx, l6⟩
  have hp2 := h.lx p hp
  rw [heap_set_ne (by omega)]
  exact h.cb p hp
theorem BI.cellx (h : BI w0 b g t6 bx T6 c6 s w) {t : Nat} {v : Value} {T : TypeId} (hp : (t, Obj.cells #[v] T (0, 0)) ∈ bx) : w.cell? ⟨t, 0, none⟩ = some v := by
  have := h.cb _ hp
  simp only at this
  simp [World.cell?, this]
/-- The end: what was filled is copied to its place. -/
theorem BI.fin {d : D} {cs : List Value} {P : Nat → Prop} {r : Nat} {o : Obj} (h : BI w0 b g t6 bx T6 cs.toArray s w) (hr : (r, o) ∈ bx) (hd : Reads w P d cs) (hP : ∀ x, P x → t6 < x) :
    Reads (putCells w r 0 cs) (fun x => w0.heap.size ≤ x) d cs ∧ RdAt (putCells w r 0 cs) b g s ∧ Fr b w0 (putCells w r 0 cs) := by
  have lb := h.lb
  have lg := h.lg
  have l6 := h.l6
  have hr2 := h.lx _ hr
  simp only at hr2
  have hk : ∀ x, x ≠ r → (putCells w r 0 cs).heap[x]? = w.heap[x]? := fun x h1 => putCells_ne _ _ h1 _ _ _
  have hsz := putCells_size r cs 0 w
  have ho := putCells_os r cs 0 w
  refine ⟨hd.to ⟨by rw [hsz]; exact Nat.le_refl _, fun x hx hp => ⟨by have := hP x hp; show w0.heap.size ≤ x; omega, hk x (by have := hP x hp; omega)⟩⟩, h.rd.to (by rw [hsz]; exact Nat.le_refl _) (hk b (by omega)) (hk g (by omega)), ⟨ho.1.trans h.fr.os, ho.2.1.trans h.fr.tape, ho.2.2.trans h.fr.output, by rw [hsz]; exact h.fr.size, fun x hx hxb => by
    rw [hk x (by omega)]
    exact h.fr.block x hx hxb⟩⟩
end
namespace Sd
def In.d (x : In) : D := .obj [.str x.name, .str x.type, .bool x.has, x.dflt.d, .int x.at_]
def Fd.d (x : Fd) : D := .obj [.str x.name, .seq 9 (x.args.map In.d), .str x.type, .int x.at_]
def Td.d (x : Td) : D := .obj [.int x.kind, .str x.name, .seq 1 (sds x.impl), .seq 4 (x.fields.map Fd.d), .seq 1 (sds x.members), .seq 9 (x.inputs.map In.d), .int x.at_]
end Sd

end Go.Proofs.YtefjgpkpplkkgaaGreatDoor
namespace Go.Proofs.YtefjgpkpplkkgaaGreatDoor
set_option linter.unusedSimpArgs false
set_option linter.unusedVariables false
open Go Go.RowKit

section
variable {w : World} {P : Nat → Prop}
end
end Go.Proofs.YtefjgpkpplkkgaaGreatDoor
