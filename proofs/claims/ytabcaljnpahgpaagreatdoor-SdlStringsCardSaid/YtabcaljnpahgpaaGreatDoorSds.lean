/-
  Types that are the same, but for places: 'Same' says so.
-/
import Derived.Test.YtabcaljnpahgpaaGreatDoorK16b
import Derived.Test.YtabcaljnpahgpaaGreatDoorVsm
import Derived.Test.YtabcaljnpahgpaaGreatDoorSdj
import Derived.Test.YtabcaljnpahgpaaGreatDoorVsh
namespace Go.Proofs.YtabcaljnpahgpaaGreatDoor
set_option linter.unusedSimpArgs false
set_option linter.unusedVariables false
open Go Go.RowKit

namespace Vl
mutual
theorem same_un : ∀ (v w : Rd.V), v.un = w.un → (ofV v).same (ofV w) = true
  | .mk k t i f a, .mk k' t' i' f' a', h => by
    unfold Rd.V.un at h
    simp only [Rd.V.mk.injEq] at h
    obtain ⟨h1, h2, h3, h4, -⟩ := h
    unfold ofV Z.same
    rw [sames_un i i' h3, asames_un f f' h4, h1, h2]
    simp
theorem sames_un : ∀ (l m : List Rd.V), Rd.V.uns l = Rd.V.uns m → Z.sames (ofVs l) (ofVs m) = true
  | [], [], _ => by unfold ofVs; rw [Z.sames_nil]
  | x :: r, y :: s, h => by
    unfold Rd.V.uns at h
    simp only [List.cons.injEq] at h
    rw [ofVs, ofVs, Z.sames_cons, same_un x y h.1, sames_un r s h.2]
    rfl
  | [], _ :: _, h => by unfold Rd.V.uns at h; cases h
  | _ :: _, [], h => by unfold Rd.V.uns at h; cases h
theorem asame_un : ∀ (v w : Rd.A), v.un = w.un → (ofA v).same (ofA w) = true
  | .mk n v a, .mk n' v' a', h => by
    unfold Rd.A.un at h
    simp only [Rd.A.mk.injEq] at h
    unfold ofA ZA.same
    rw [same_un v v' h.2.1, h.1]
    simp
theorem asames_un : ∀ (l m : List Rd.A), Rd.A.uns l = Rd.A.uns m → ZA.sames (ofAs l) (ofAs m) = true
  | [], [], _ => by unfold ofAs; rw [ZA.sames_nil]
  | x :: r, y :: s, h => by
    unfold Rd.A.uns at h
    simp only [List.cons.injEq] at h
    rw [ofAs, ofAs, ZA.sames_cons, asame_un x y h.1, asames_un r s h.2]
    rfl
  | [], _ :: _, h => by unfold Rd.A.uns at h; cases h
  | _ :: _, [], h => by unfold Rd.A.uns at h; cases h
end
theorem ofVs_len (l : List Rd.V) : (ofVs l).length = l.length := by rw [ofVs_map, List.length_map]
theorem ofAs_len (l : List Rd.A) : (ofAs l).length = l.length := by rw [ofAs_map, List.length_map]
end Vl
/-- A default's cells. -/
theorem In_v {w : World} {P : Nat → Prop} {x : Sd.In} {p1 p2 : Option Addr} {p3 p4 : Nat} (h : Reads w P x.d [.string ⟨x.name.toArray⟩, .string ⟨x.type.toArray⟩, .bool x.has, .int .i64 x.dflt.kind, .string ⟨x.dflt.text.toArray⟩, .slice p1 x.dflt.items.length p3, .slice p2 x.dflt.fields.length p4, .int .i64 x.dflt.at_, .int .i64 x.at_]) :
    Reads w P (Vl.ofV x.dflt).d [.int .i64 (Vl.ofV x.dflt).kind, .string ⟨(Vl.ofV x.dflt).text.toArray⟩, .slice p1 (Vl.ofV x.dflt).items.length p3, .slice p2 (Vl.ofV x.dflt).fields.length p4, .int .i64 (Vl.ofV x.dflt).at_] := by
  unfold Sd.In.d at h
  obtain ⟨x1, r1, e0, e1, h1⟩ := h.obj_inv.cons_inv
  obtain ⟨x2, r2, rfl, e2, h2⟩ := h1.cons_inv
  obtain ⟨x3, r3, rfl, e3, h3⟩ := h2.cons_inv
  obtain ⟨x4, r4, rfl, e4, h4⟩ := h3.cons_inv
  obtain ⟨x5, r5, rfl, e5, h5⟩ := h4.cons_inv
  obtain rfl := e1.str_inv
  obtain rfl := e2.str_inv
  obtain rfl := e3.bool_inv
  have e4' := e4
  obtain ⟨a1, a2, c1, c2, rfl, -, -⟩ := V_open e4
  obtain rfl := e5.int_inv
  obtain rfl := h5.nil_inv
  simp only [List.cons_append, List.nil_append, List.cons.injEq, Value.slice.injEq, true_and, and_true] at e0
  obtain ⟨⟨rfl, rfl⟩, rfl, rfl⟩ := e0
  rw [Vl.ofV_d]
  have : (Vl.ofV x.dflt).kind = x.dflt.kind ∧ (Vl.ofV x.dflt).text = x.dflt.text ∧ (Vl.ofV x.dflt).items.length = x.dflt.items.length ∧ (Vl.ofV x.dflt).fields.length = x.dflt.fields.length ∧ (Vl.ofV x.dflt).at_ = x.dflt.at_ := by
    cases x.dflt with
    | mk k t i f a => unfold Vl.ofV; exact ⟨rfl, rfl, Vl.ofVs_len i, Vl.ofAs_len f, rfl⟩
  rw [this.1, this.2.1, this.2.2.1, this.2.2.2.1, this.2.2.2.2]
  exact e4'

theorem sdt_lt {w : World} {k : Nat} {o : Obj} (h : w.heap[k]? = some o) : k < w.heap.size := by
  rcases Nat.lt_or_ge k w.heap.size with h' | h'
  · exact h'
  · simp [Array.getElem?_eq_none h'] at h
/-- Rows of texts that are the same. -/
theorem eqS_any (l : List (List UInt8)) (a b : Option Addr) (c d : Nat) (w : World) (P : Nat → Prop) (hl : l.length ≤ 9223372036854775807) (hx : Reads w P (.seq 1 (sds l)) [.slice a l.length c]) (hy : Reads w P (.seq 1 (sds l)) [.slice b l.length d]) :
    Calls Tryz.prog 38 #[.slice a l.length c, .slice b l.length d] w fun r w' => r = .returned (.bool true) ∧ Below w.heap.size w w' := by
  cases hc : l with
  | nil =>
    refine (Tryz.slices_Equal_string_empty a b c 0 d w (by decide)).mono ?_
    rintro e w' ⟨rfl, rfl⟩
    exact ⟨rfl, Below.refl _ _⟩
  | cons x0 r0 =>
    have h0 : l[0]? = some x0 := by rw [hc]; rfl
    obtain ⟨g, o, cs, ha, -, -, -, -, -⟩ := hx.el 0 (.str x0) (by unfold sds; rw [List.getElem?_map, h0]; rfl)
    obtain ⟨g', o', cs', hb, -, -, -, -, -⟩ := hy.el 0 (.str x0) (by unfold sds; rw [List.getElem?_map, h0]; rfl)
    subst ha
    subst hb
    have cells : ∀ (g o c : Nat), Reads w P (.seq 1 (sds l)) [.slice (some ⟨g, o, none⟩) l.length c] → ∀ j, j < (l.map fun s => (⟨s.toArray⟩ : ByteArray)).length → w.cell? ⟨g, o + j, none⟩ = some (.string ((l.map fun s => (⟨s.toArray⟩ : ByteArray)).getD j ByteArray.empty)) := by
      intro g o c h j hj
      rw [List.length_map] at hj
      obtain ⟨g1, o1, cs1, e, -, -, hl1, hcell, hd⟩ := h.el j (.str l[j]) (by unfold sds; rw [List.getElem?_map, List.getElem?_eq_getElem hj]; rfl)
      obtain ⟨rfl, rfl⟩ : g = g1 ∧ o = o1 := by simpa using e
      obtain rfl := hd.str_inv
      have := hcell 0 _ rfl
      rw [Nat.mul_one, Nat.add_zero] at this
      rw [this, List.getD_eq_getElem?_getD, List.getElem?_map, List.getElem?_eq_getElem hj]
      rfl
    have := Tryz.slices_Equal_string g o l.length c g' o' l.length d (l.map fun s => (⟨s.toArray⟩ : ByteArray)) (l.map fun s => (⟨s.toArray⟩ : ByteArray)) w (by rw [List.length_map]; exact Nat.le_refl _) (by rw [List.length_map]; exact Nat.le_refl _) hl hl (cells g o c hx) (cells g' o' d hy)
    rw [← hc]
    refine this.mono ?_
    rintro e w' ⟨rfl, q, rfl⟩
    exact ⟨by rw [decide_eq_true rfl], Below.drewN (Below.refl _ _) q⟩
def SmV (v : Rd.V) : Prop := (Vl.ofV v).n ≤ 9000000000000000000
def SmIn (x : Sd.In) : Prop := SmV x.dflt
def SmFd (x : Sd.Fd) : Prop := x.args.length ≤ 9223372036854775807 ∧ ∀ y ∈ x.args, SmIn y
def SmTd (x : Sd.Td) : Prop := x.impl.length ≤ 9223372036854775807 ∧ x.members.length ≤ 9223372036854775807 ∧ x.inputs.length ≤ 9223372036854775807 ∧ x.fields.length ≤ 9223372036854775807 ∧ (∀ y ∈ x.inputs, SmIn y) ∧ ∀ y ∈ x.fields, SmFd y
set_option maxHeartbeats 2000000 in
set_option maxRecDepth 100000 in
theorem sameIn1 (x y : Sd.In) (hu : Sd.In.un x = Sd.In.un y) (hs : SmIn x) (u1 u2 : Option Addr) (u3 u4 : Nat) (v1 v2 : Option Addr) (v3 v4 : Nat) (w : World) (P : Nat → Prop) (hx : Reads w P (Sd.In.d x) [.string ⟨x.name.toArray⟩, .string ⟨x.type.toArray⟩, .bool x.has, .int .i64 x.dflt.kind, .string ⟨x.dflt.text.toArray⟩, .slice u1 x.dflt.items.length u3, .slice u2 x.dflt.fields.length u4, .int .i64 x.dflt.at_, .int .i64 x.at_]) (hy : Reads w P (Sd.In.d y) [.string ⟨y.name.toArray⟩, .string ⟨y.type.toArray⟩, .bool y.has, .int .i64 y.dflt.kind, .string ⟨y.dflt.text.toArray⟩, .slice v1 y.dflt.items.length v3, .slice v2 y.dflt.fields.length v4, .int .i64 y.dflt.at_, .int .i64 y.at_]) :
    Calls Tryz.prog 82 #[.agg #[.string ⟨x.name.toArray⟩, .string ⟨x.type.toArray⟩, .bool x.has, .int .i64 x.dflt.kind, .string ⟨x.dflt.text.toArray⟩, .slice u1 x.dflt.items.length u3, .slice u2 x.dflt.fields.length u4, .int .i64 x.dflt.at_, .int .i64 x.at_], .agg #[.string ⟨y.name.toArray⟩, .string ⟨y.type.toArray⟩, .bool y.has, .int .i64 y.dflt.kind, .string ⟨y.dflt.text.toArray⟩, .slice v1 y.dflt.items.length v3, .slice v2 y.dflt.fields.length v4, .int .i64 y.dflt.at_, .int .i64 y.at_]] w (fun r w' => r = .returned (.bool true) ∧ Below w.heap.size w w') := by
  obtain ⟨wc, hwc⟩ : ∃ z, z = (w.alloc (.cells #[.string ⟨x.name.toArray⟩, .string ⟨x.type.toArray⟩, .bool x.has, .int .i64 x.dflt.kind, .string ⟨x.dflt.text.toArray⟩, .slice u1 x.dflt.items.length u3, .slice u2 x.dflt.fields.length u4, .int .i64 x.dflt.at_, .int .i64 x.at_] 137)).alloc (.cells #[.string ⟨y.name.toArray⟩, .string ⟨y.type.toArray⟩, .bool y.has, .int .i64 y.dflt.kind, .string ⟨y.dflt.text.toArray⟩, .slice v1 y.dflt.items.length v3, .slice v2 y.dflt.fields.length v4, .int .i64 y.dflt.at_, .int .i64 y.at_] 137) := ⟨_, rfl⟩
  have hbc : Below w.heap.size w wc := by rw [hwc]; exact ((Below.refl _ _).alloc (Nat.le_refl _) _).alloc (by simp) _
  have HBC := Lib.hid hbc
  have HWC := Lib.hid hwc
  have hx0 : wc.heap[w.heap.size]? = some (.cells #[.string ⟨x.name.toArray⟩, .string ⟨x.type.toArray⟩, .bool x.has, .int .i64 x.dflt.kind, .string ⟨x.dflt.text.toArray⟩, .slice u1 x.dflt.items.length u3, .slice u2 x.dflt.fields.length u4, .int .i64 x.dflt.at_, .int .i64 x.at_] 137 (0, 0)) := by rw [hwc, Lib.alloc_old _ _ _ (by simp)]; exact heap_at_new _ _
  have hy0 : wc.heap[w.heap.size + 1]? = some (.cells #[.string ⟨y.name.toArray⟩, .string ⟨y.type.toArray⟩, .bool y.has, .int .i64 y.dflt.kind, .string ⟨y.dflt.text.toArray⟩, .slice v1 y.dflt.items.length v3, .slice v2 y.dflt.fields.length v4, .int .i64 y.dflt.at_, .int .i64 y.at_] 137 (0, 0)) := by
    rw [hwc]
    have := heap_at_new (w.alloc (.cells #[.string ⟨x.name.toArray⟩, .string ⟨x.type.toArray⟩, .bool x.has, .int .i64 x.dflt.kind, .string ⟨x.dflt.text.toArray⟩, .slice u1 x.dflt.items.length u3, .slice u2 x.dflt.fields.length u4, .int .i64 x.dflt.at_, .int .i64 x.at_] 137)) (.cells #[.string ⟨y.name.toArray⟩, .string ⟨y.type.toArray⟩, .bool y.has, .int .i64 y.dflt.kind, .string ⟨y.dflt.text.toArray⟩, .slice v1 y.dflt.items.length v3, .slice v2 y.dflt.fields.length v4, .int .i64 y.dflt.at_, .int .i64 y.at_] 137)
    rw [show (w.alloc (.cells #[.string ⟨x.name.toArray⟩, .string ⟨x.type.toArray⟩, .bool x.has, .int .i64 x.dflt.kind, .string ⟨x.dflt.text.toArray⟩, .slice u1 x.dflt.items.length u3, .slice u2 x.dflt.fields.length u4, .int .i64 x.dflt.at_, .int .i64 x.at_] 137)).heap.size = w.heap.size + 1 by simp] at this
    exact this
  have HX0 := Lib.hid hx0
  have HY0 := Lib.hid hy0
  clear hx0 hy0
  obtain ⟨hn, ht, hh, hv⟩ : x.name = y.name ∧ x.type = y.type ∧ x.has = y.has ∧ x.dflt.un = y.dflt.un := by
    unfold Sd.In.un at hu
    simp only [Sd.In.mk.injEq] at hu
    exact ⟨hu.1, hu.2.1, hu.2.2.1, hu.2.2.2.1⟩
  have e1 : (x.name == y.name) = true := by rw [beq_iff_eq]; exact hn
  have e2 : (x.type == y.type) = true := by rw [beq_iff_eq]; exact ht
  have e3 : (x.has == y.has) = true := by rw [beq_iff_eq]; exact hh
  have hsame := Vl.same_un x.dflt y.dflt hv
  have hxv := In_v (hx.to (Stands.below hbc))
  have hyv := In_v (hy.to (Stands.below hbc))
  have ek : ∀ v : Rd.V, (Vl.ofV v).kind = v.kind ∧ (Vl.ofV v).text = v.text ∧ (Vl.ofV v).items.length = v.items.length ∧ (Vl.ofV v).fields.length = v.fields.length ∧ (Vl.ofV v).at_ = v.at_ := fun v => by
    cases v with
    | mk k t i f a => unfold Vl.ofV; exact ⟨rfl, rfl, Vl.ofVs_len i, Vl.ofAs_len f, rfl⟩
  have hcall := same_any _ (Nat.le_refl _) (Vl.ofV x.dflt) (Vl.ofV y.dflt) hs u1 u2 v1 v2 u3 u4 v3 v4 wc P hxv hyv
  rw [hsame, (ek x.dflt).1, (ek x.dflt).2.1, (ek x.dflt).2.2.1, (ek x.dflt).2.2.2.1, (ek x.dflt).2.2.2.2, (ek y.dflt).1, (ek y.dflt).2.1, (ek y.dflt).2.2.1, (ek y.dflt).2.2.2.1, (ek y.dflt).2.2.2.2, hwc] at hcall
  have HCALL := Lib.hid hcall
  clear hx hy hbc hwc hu hn ht hh hv hsame hxv hyv hcall hs ek
  go_enter Tryz.func82, Tryz.ntmps82
  go_wp2_with fail
  refine HCALL.out.mono ?_
  rintro r w2 ⟨rfl, hb2⟩
  rw [← HWC.out] at hb2
  have HB2 := Lib.hid (HBC.out.trans (hb2.mono HBC.out.size))
  clear hb2
  go_wp2_with fail
  go_ret
  exact ⟨rfl, HB2.out⟩
set_option maxHeartbeats 2000000 in
set_option maxRecDepth 100000 in
theorem eqfIn_eq (xs ys : List Sd.In) (hun : xs.map Sd.In.un = ys.map Sd.In.un) (hsm : ∀ x ∈ xs, SmIn x) (a b : Option Addr) (c d : Nat) (w : World) (P : Nat → Prop) (hlx : xs.length ≤ 9223372036854775807)
    (hrx : Reads w P (.seq 9 (xs.map Sd.In.d)) [.slice a xs.length c]) (hry : Reads w P (.seq 9 (ys.map Sd.In.d)) [.slice b ys.length d]) :
    Calls Tryz.prog 81 #[.slice a xs.length c, .slice b ys.length d, .func (.func 82) #[] #[]] w (fun r w' => r = .returned (.bool true) ∧ Below w.heap.size w w') := by
  have hlen : xs.length = ys.length := by have := congrArg List.length hun; simpa using this
  have HRX := Lib.hid hrx
  have HRY := Lib.hid hry
  have HUN : Hid (∀ (j : Nat) x y, xs[j]? = some x → ys[j]? = some y → Sd.In.un x = Sd.In.un y) := Lib.hid (fun j x y hx hy => by
    have := congrArg (fun l => l[j]?) hun
    simp only [List.getElem?_map, hx, hy, Option.map_some, Option.some.injEq] at this
    exact this)
  have HSM := Lib.hid hsm
  have e0 : ((xs.length : Int) != (ys.length : Int)) = false := neF (by omega)
  have HLEN := Lib.hid hlen
  clear hrx hry hun hlen hsm
  go_enter Tryz.func81, Tryz.ntmps81
  go_wp2_with fail
  go_loopg [17] (xs.length + 1) (fun k i wr => ∃ (j : Nat), k = xs.length + 1 - j ∧ j ≤ xs.length ∧ i = .int .i64 j ∧ Below w.heap.size w wr)
  case atStart => exact ⟨0, rfl, Nat.zero_le _, rfl, Below.refl _ _⟩
  case round =>
    obtain ⟨j, hk, hj, rfl, hbe⟩ := hrel
    have HK := Lib.hid hk
    have HBE := Lib.hid hbe
    clear hk hbe
    by_cases hjl : j < xs.length
    · have e1 : decide (j < xs.length) = true := decide_eq_true hjl
      have hjy : j < ys.length := by have := HLEN.out; omega
      have e2 : decide (j < ys.length) = true := decide_eq_true hjy
      obtain ⟨x, hx⟩ : ∃ z, xs[j]? = some z := ⟨xs[j], List.getElem?_eq_getElem hjl⟩
      obtain ⟨y, hy⟩ : ∃ z, ys[j]? = some z := ⟨ys[j], List.getElem?_eq_getElem hjy⟩
      have HU := Lib.hid (HUN.out j x y hx hy)
      have HS := Lib.hid (HSM.out x (List.mem_of_getElem? hx))
      obtain ⟨g, o, cs, ha, -, hgl, hlen, hcell, hd⟩ := HRX.out.el j (Sd.In.d x) (by rw [List.getElem?_map, hx]; rfl)
      obtain ⟨g', o', cs', hb, -, hgl', hlen', hcell', hd'⟩ := HRY.out.el j (Sd.In.d y) (by rw [List.getElem?_map, hy]; rfl)
      obtain ⟨u1, u2, u3, u4, rfl, hqx, -⟩ := In_open hd
      obtain ⟨v1, v2, v3, v4, rfl, hqy, -⟩ := In_open hd'
      clear hqx hqy
      have k0 : wr.cell? ⟨g, o + j * 9, none⟩ = _ := (HBE.out.cell (p := ⟨g, o + j * 9, none⟩) hgl).trans (hcell 0 _ rfl)
      have k1 : wr.cell? ⟨g, o + j * 9 + 1, none⟩ = _ := (HBE.out.cell (p := ⟨g, o + j * 9 + 1, none⟩) hgl).trans (hcell 1 _ rfl)
      have k2 : wr.cell? ⟨g, o + j * 9 + 2, none⟩ = _ := (HBE.out.cell (p := ⟨g, o + j * 9 + 2, none⟩) hgl).trans (hcell 2 _ rfl)
      have k3 : wr.cell? ⟨g, o + j * 9 + 3, none⟩ = _ := (HBE.out.cell (p := ⟨g, o + j * 9 + 3, none⟩) hgl).trans (hcell 3 _ rfl)
      have k4 : wr.cell? ⟨g, o + j * 9 + 4, none⟩ = _ := (HBE.out.cell (p := ⟨g, o + j * 9 + 4, none⟩) hgl).trans (hcell 4 _ rfl)
      have k5 : wr.cell? ⟨g, o + j * 9 + 5, none⟩ = _ := (HBE.out.cell (p := ⟨g, o + j * 9 + 5, none⟩) hgl).trans (hcell 5 _ rfl)
      have k6 : wr.cell? ⟨g, o + j * 9 + 6, none⟩ = _ := (HBE.out.cell (p := ⟨g, o + j * 9 + 6, none⟩) hgl).trans (hcell 6 _ rfl)
      have k7 : wr.cell? ⟨g, o + j * 9 + 7, none⟩ = _ := (HBE.out.cell (p := ⟨g, o + j * 9 + 7, none⟩) hgl).trans (hcell 7 _ rfl)
      have k8 : wr.cell? ⟨g, o + j * 9 + 8, none⟩ = _ := (HBE.out.cell (p := ⟨g, o + j * 9 + 8, none⟩) hgl).trans (hcell 8 _ rfl)
      obtain ⟨wb, hwb⟩ : ∃ z, z = wr.alloc (.cells #[.string ⟨x.name.toArray⟩, .string ⟨x.type.toArray⟩, .bool x.has, .int .i64 x.dflt.kind, .string ⟨x.dflt.text.toArray⟩, .slice u1 x.dflt.items.length u3, .slice u2 x.dflt.fields.length u4, .int .i64 x.dflt.at_, .int .i64 x.at_] 137) := ⟨_, rfl⟩
      have hbw : Below w.heap.size w wb := by rw [hwb]; exact HBE.out.alloc HBE.out.size _
      have m0 : wb.cell? ⟨g', o' + j * 9, none⟩ = _ := (hbw.cell (p := ⟨g', o' + j * 9, none⟩) hgl').trans (hcell' 0 _ rfl)
      have m1 : wb.cell? ⟨g', o' + j * 9 + 1, none⟩ = _ := (hbw.cell (p := ⟨g', o' + j * 9 + 1, none⟩) hgl').trans (hcell' 1 _ rfl)
      have m2 : wb.cell? ⟨g', o' + j * 9 + 2, none⟩ = _ := (hbw.cell (p := ⟨g', o' + j * 9 + 2, none⟩) hgl').trans (hcell' 2 _ rfl)
      have m3 : wb.cell? ⟨g', o' + j * 9 + 3, none⟩ = _ := (hbw.cell (p := ⟨g', o' + j * 9 + 3, none⟩) hgl').trans (hcell' 3 _ rfl)
      have m4 : wb.cell? ⟨g', o' + j * 9 + 4, none⟩ = _ := (hbw.cell (p := ⟨g', o' + j * 9 + 4, none⟩) hgl').trans (hcell' 4 _ rfl)
      have m5 : wb.cell? ⟨g', o' + j * 9 + 5, none⟩ = _ := (hbw.cell (p := ⟨g', o' + j * 9 + 5, none⟩) hgl').trans (hcell' 5 _ rfl)
      have m6 : wb.cell? ⟨g', o' + j * 9 + 6, none⟩ = _ := (hbw.cell (p := ⟨g', o' + j * 9 + 6, none⟩) hgl').trans (hcell' 6 _ rfl)
      have m7 : wb.cell? ⟨g', o' + j * 9 + 7, none⟩ = _ := (hbw.cell (p := ⟨g', o' + j * 9 + 7, none⟩) hgl').trans (hcell' 7 _ rfl)
      have m8 : wb.cell? ⟨g', o' + j * 9 + 8, none⟩ = _ := (hbw.cell (p := ⟨g', o' + j * 9 + 8, none⟩) hgl').trans (hcell' 8 _ rfl)
      rw [hwb] at m0 m1 m2 m3 m4 m5 m6 m7 m8
      subst ha
      subst hb
      obtain ⟨wc, hwc⟩ : ∃ z, z = (wr.alloc (.cells #[.string ⟨x.name.toArray⟩, .string ⟨x.type.toArray⟩, .bool x.has, .int .i64 x.dflt.kind, .string ⟨x.dflt.text.toArray⟩, .slice u1 x.dflt.items.length u3, .slice u2 x.dflt.fields.length u4, .int .i64 x.dflt.at_, .int .i64 x.at_] 137)).alloc (.cells #[.string ⟨y.name.toArray⟩, .string ⟨y.type.toArray⟩, .bool y.has, .int .i64 y.dflt.kind, .string ⟨y.dflt.text.toArray⟩, .slice v1 y.dflt.items.length v3, .slice v2 y.dflt.fields.length v4, .int .i64 y.dflt.at_, .int .i64 y.at_] 137) := ⟨_, rfl⟩
      have hbc : Below w.heap.size w wc := by rw [hwc, ← hwb]; exact hbw.alloc hbw.size _
      have HBC := Lib.hid hbc
      have HCALL := Lib.hid (sameIn1 x y HU.out HS.out u1 u2 u3 u4 v1 v2 v3 v4 wc P (hd.to (Stands.below hbc)) (hd'.to (Stands.below hbc)))
      rw [hwc] at HCALL
      have HWC := Lib.hid hwc
      clear hx hy hlen hlen' hcell hcell' hd hd' hbw hbc hwb hwc
      go_wp2_with fail
      refine HCALL.out.mono ?_
      rintro r w2 ⟨rfl, hb2⟩
      rw [← HWC.out] at hb2
      have HB2 := Lib.hid (HBC.out.trans (hb2.mono HBC.out.size))
      clear hb2 k0 k1 k2 k3 k4 k5 k6 k7 k8 m0 m1 m2 m3 m4 m5 m6 m7 m8 HCALL
      go_wp2_with fail
      go_roundg (xs.length + 1 - (j + 1))
      case measure => rw [HK.out]; omega
      case rel => exact ⟨j + 1, rfl, hjl, by go_num, HB2.out⟩
    · have e1 : decide (j < xs.length) = false := decide_eq_false hjl
      go_wp2_with fail
      go_ret
      exact ⟨rfl, HBE.out⟩
set_option maxRecDepth 100000 in
theorem sameInputs_eq (xs ys : List Sd.In) (hun : xs.map Sd.In.un = ys.map Sd.In.un) (hsm : ∀ x ∈ xs, SmIn x) (a b : Option Addr) (c d : Nat) (w : World) (P : Nat → Prop) (hlx : xs.length ≤ 9223372036854775807)
    (hrx : Reads w P (.seq 9 (xs.map Sd.In.d)) [.slice a xs.length c]) (hry : Reads w P (.seq 9 (ys.map Sd.In.d)) [.slice b ys.length d]) :
    Calls Tryz.prog 39 #[.slice a xs.length c, .slice b ys.length d] w (fun r w' => r = .returned (.bool true) ∧ Below w.heap.size w w') := by
  have HC := Lib.hid (eqfIn_eq xs ys hun hsm a b c d w P hlx hrx hry)
  clear hun hsm hrx hry
  go_enter Tryz.func39, Tryz.ntmps39
  go_wp2_with fail
  refine HC.out.mono ?_
  rintro r w2 ⟨rfl, hb2⟩
  go_wp2_with fail
  go_ret
  exact ⟨rfl, hb2⟩
set_option maxHeartbeats 2000000 in
set_option maxRecDepth 100000 in
theorem sameFd1 (x y : Sd.Fd) (hu : Sd.Fd.un x = Sd.Fd.un y) (hs : SmFd x) (u1 : Option Addr) (u2 : Nat) (v1 : Option Addr) (v2 : Nat) (w : World) (P : Nat → Prop) (hx : Reads w P (Sd.Fd.d x) [.string ⟨x.name.toArray⟩, .slice u1 x.args.length u2, .string ⟨x.type.toArray⟩, .int .i64 x.at_]) (hy : Reads w P (Sd.Fd.d y) [.string ⟨y.name.toArray⟩, .slice v1 y.args.length v2, .string ⟨y.type.toArray⟩, .int .i64 y.at_]) :
    Calls Tryz.prog 41 #[.agg #[.string ⟨x.name.toArray⟩, .slice u1 x.args.length u2, .string ⟨x.type.toArray⟩, .int .i64 x.at_], .agg #[.string ⟨y.name.toArray⟩, .slice v1 y.args.length v2, .string ⟨y.type.toArray⟩, .int .i64 y.at_]] w (fun r w' => r = .returned (.bool true) ∧ Below w.heap.size w w') := by
  obtain ⟨wc, hwc⟩ : ∃ z, z = (w.alloc (.cells #[.string ⟨x.name.toArray⟩, .slice u1 x.args.length u2, .string ⟨x.type.toArray⟩, .int .i64 x.at_] 72)).alloc (.cells #[.string ⟨y.name.toArray⟩, .slice v1 y.args.length v2, .string ⟨y.type.toArray⟩, .int .i64 y.at_] 72) := ⟨_, rfl⟩
  have hbc : Below w.heap.size w wc := by rw [hwc]; exact ((Below.refl _ _).alloc (Nat.le_refl _) _).alloc (by simp) _
  have HBC := Lib.hid hbc
  have HWC := Lib.hid hwc
  have hx0 : wc.heap[w.heap.size]? = some (.cells #[.string ⟨x.name.toArray⟩, .slice u1 x.args.length u2, .string ⟨x.type.toArray⟩, .int .i64 x.at_] 72 (0, 0)) := by rw [hwc, Lib.alloc_old _ _ _ (by simp)]; exact heap_at_new _ _
  have hy0 : wc.heap[w.heap.size + 1]? = some (.cells #[.string ⟨y.name.toArray⟩, .slice v1 y.args.length v2, .string ⟨y.type.toArray⟩, .int .i64 y.at_] 72 (0, 0)) := by
    rw [hwc]
    have := heap_at_new (w.alloc (.cells #[.string ⟨x.name.toArray⟩, .slice u1 x.args.length u2, .string ⟨x.type.toArray⟩, .int .i64 x.at_] 72)) (.cells #[.string ⟨y.name.toArray⟩, .slice v1 y.args.length v2, .string ⟨y.type.toArray⟩, .int .i64 y.at_] 72)
    rw [show (w.alloc (.cells #[.string ⟨x.name.toArray⟩, .slice u1 x.args.length u2, .string ⟨x.type.toArray⟩, .int .i64 x.at_] 72)).heap.size = w.heap.size + 1 by simp] at this
    exact this
  have HX0 := Lib.hid hx0
  have HY0 := Lib.hid hy0
  clear hx0 hy0
  obtain ⟨hn, ha, ht⟩ : x.name = y.name ∧ x.args.map Sd.In.un = y.args.map Sd.In.un ∧ x.type = y.type := by
    unfold Sd.Fd.un at hu
    simp only [Sd.Fd.mk.injEq] at hu
    exact ⟨hu.1, hu.2.1, hu.2.2.1⟩
  have e1 : (x.name == y.name) = true := by rw [beq_iff_eq]; exact hn
  have e2 : (x.type == y.type) = true := by rw [beq_iff_eq]; exact ht
  obtain ⟨q1, q2, ex, hxa⟩ := Fd_open (hx.to (Stands.below hbc))
  obtain ⟨q3, q4, ey, hya⟩ := Fd_open (hy.to (Stands.below hbc))
  obtain ⟨rfl, rfl⟩ : u1 = q1 ∧ u2 = q2 := by simpa using ex
  obtain ⟨rfl, rfl⟩ : v1 = q3 ∧ v2 = q4 := by simpa using ey
  have hcall := sameInputs_eq x.args y.args ha hs.2 u1 v1 u2 v2 wc P hs.1 hxa hya
  rw [hwc] at hcall
  have HCALL := Lib.hid hcall
  clear hx hy hbc hwc hu hn ha ht hcall hs ex ey hxa hya
  go_enter Tryz.func41, Tryz.ntmps41
  go_wp2_with fail
  refine HCALL.out.mono ?_
  rintro r w2 ⟨rfl, hb2⟩
  rw [← HWC.out] at hb2
  have HB2 := Lib.hid (HBC.out.trans (hb2.mono HBC.out.size))
  clear hb2
  go_wp2_with fail
  go_ret
  exact ⟨rfl, HB2.out⟩
set_option maxHeartbeats 2000000 in
set_option maxRecDepth 100000 in
theorem eqfFd_eq (xs ys : List Sd.Fd) (hun : xs.map Sd.Fd.un = ys.map Sd.Fd.un) (hsm : ∀ x ∈ xs, SmFd x) (a b : Option Addr) (c d : Nat) (w : World) (P : Nat → Prop) (hlx : xs.length ≤ 9223372036854775807)
    (hrx : Reads w P (.seq 4 (xs.map Sd.Fd.d)) [.slice a xs.length c]) (hry : Reads w P (.seq 4 (ys.map Sd.Fd.d)) [.slice b ys.length d]) :
    Calls Tryz.prog 40 #[.slice a xs.length c, .slice b ys.length d, .func (.func 41) #[] #[]] w (fun r w' => r = .returned (.bool true) ∧ Below w.heap.size w w') := by
  have hlen : xs.length = ys.length := by have := congrArg List.length hun; simpa using this
  have HRX := Lib.hid hrx
  have HRY := Lib.hid hry
  have HUN : Hid (∀ (j : Nat) x y, xs[j]? = some x → ys[j]? = some y → Sd.Fd.un x = Sd.Fd.un y) := Lib.hid (fun j x y hx hy => by
    have := congrArg (fun l => l[j]?) hun
    simp only [List.getElem?_map, hx, hy, Option.map_some, Option.some.injEq] at this
    exact this)
  have HSM := Lib.hid hsm
  have e0 : ((xs.length : Int) != (ys.length : Int)) = false := neF (by omega)
  have HLEN := Lib.hid hlen
  clear hrx hry hun hlen hsm
  go_enter Tryz.func40, Tryz.ntmps40
  go_wp2_with fail
  go_loopg [17] (xs.length + 1) (fun k i wr => ∃ (j : Nat), k = xs.length + 1 - j ∧ j ≤ xs.length ∧ i = .int .i64 j ∧ Below w.heap.size w wr)
  case atStart => exact ⟨0, rfl, Nat.zero_le _, rfl, Below.refl _ _⟩
  case round =>
    obtain ⟨j, hk, hj, rfl, hbe⟩ := hrel
    have HK := Lib.hid hk
    have HBE := Lib.hid hbe
    clear hk hbe
    by_cases hjl : j < xs.length
    · have e1 : decide (j < xs.length) = true := decide_eq_true hjl
      have hjy : j < ys.length := by have := HLEN.out; omega
      have e2 : decide (j < ys.length) = true := decide_eq_true hjy
      obtain ⟨x, hx⟩ : ∃ z, xs[j]? = some z := ⟨xs[j], List.getElem?_eq_getElem hjl⟩
      obtain ⟨y, hy⟩ : ∃ z, ys[j]? = some z := ⟨ys[j], List.getElem?_eq_getElem hjy⟩
      have HU := Lib.hid (HUN.out j x y hx hy)
      have HS := Lib.hid (HSM.out x (List.mem_of_getElem? hx))
      obtain ⟨g, o, cs, ha, -, hgl, hlen, hcell, hd⟩ := HRX.out.el j (Sd.Fd.d x) (by rw [List.getElem?_map, hx]; rfl)
      obtain ⟨g', o', cs', hb, -, hgl', hlen', hcell', hd'⟩ := HRY.out.el j (Sd.Fd.d y) (by rw [List.getElem?_map, hy]; rfl)
      obtain ⟨u1, u2, rfl, hqx⟩ := Fd_open hd
      obtain ⟨v1, v2, rfl, hqy⟩ := Fd_open hd'
      clear hqx hqy
      have k0 : wr.cell? ⟨g, o + j * 4, none⟩ = _ := (HBE.out.cell (p := ⟨g, o + j * 4, none⟩) hgl).trans (hcell 0 _ rfl)
      have k1 : wr.cell? ⟨g, o + j * 4 + 1, none⟩ = _ := (HBE.out.cell (p := ⟨g, o + j * 4 + 1, none⟩) hgl).trans (hcell 1 _ rfl)
      have k2 : wr.cell? ⟨g, o + j * 4 + 2, none⟩ = _ := (HBE.out.cell (p := ⟨g, o + j * 4 + 2, none⟩) hgl).trans (hcell 2 _ rfl)
      have k3 : wr.cell? ⟨g, o + j * 4 + 3, none⟩ = _ := (HBE.out.cell (p := ⟨g, o + j * 4 + 3, none⟩) hgl).trans (hcell 3 _ rfl)
      obtain ⟨wb, hwb⟩ : ∃ z, z = wr.alloc (.cells #[.string ⟨x.name.toArray⟩, .slice u1 x.args.length u2, .string ⟨x.type.toArray⟩, .int .i64 x.at_] 72) := ⟨_, rfl⟩
      have hbw : Below w.heap.size w wb := by rw [hwb]; exact HBE.out.alloc HBE.out.size _
      have m0 : wb.cell? ⟨g', o' + j * 4, none⟩ = _ := (hbw.cell (p := ⟨g', o' + j * 4, none⟩) hgl').trans (hcell' 0 _ rfl)
      have m1 : wb.cell? ⟨g', o' + j * 4 + 1, none⟩ = _ := (hbw.cell (p := ⟨g', o' + j * 4 + 1, none⟩) hgl').trans (hcell' 1 _ rfl)
      have m2 : wb.cell? ⟨g', o' + j * 4 + 2, none⟩ = _ := (hbw.cell (p := ⟨g', o' + j * 4 + 2, none⟩) hgl').trans (hcell' 2 _ rfl)
      have m3 : wb.cell? ⟨g', o' + j * 4 + 3, none⟩ = _ := (hbw.cell (p := ⟨g', o' + j * 4 + 3, none⟩) hgl').trans (hcell' 3 _ rfl)
      rw [hwb] at m0 m1 m2 m3
      subst ha
      subst hb
      obtain ⟨wc, hwc⟩ : ∃ z, z = (wr.alloc (.cells #[.string ⟨x.name.toArray⟩, .slice u1 x.args.length u2, .string ⟨x.type.toArray⟩, .int .i64 x.at_] 72)).alloc (.cells #[.string ⟨y.name.toArray⟩, .slice v1 y.args.length v2, .string ⟨y.type.toArray⟩, .int .i64 y.at_] 72) := ⟨_, rfl⟩
      have hbc : Below w.heap.size w wc := by rw [hwc, ← hwb]; exact hbw.alloc hbw.size _
      have HBC := Lib.hid hbc
      have HCALL := Lib.hid (sameFd1 x y HU.out HS.out u1 u2 v1 v2 wc P (hd.to (Stands.below hbc)) (hd'.to (Stands.below hbc)))
      rw [hwc] at HCALL
      have HWC := Lib.hid hwc
      clear hx hy hlen hlen' hcell hcell' hd hd' hbw hbc hwb hwc
      go_wp2_with fail
      refine HCALL.out.mono ?_
      rintro r w2 ⟨rfl, hb2⟩
      rw [← HWC.out] at hb2
      have HB2 := Lib.hid (HBC.out.trans (hb2.mono HBC.out.size))
      clear hb2 k0 k1 k2 k3 m0 m1 m2 m3 HCALL
      go_wp2_with fail
      go_roundg (xs.length + 1 - (j + 1))
      case measure => rw [HK.out]; omega
      case rel => exact ⟨j + 1, rfl, hjl, by go_num, HB2.out⟩
    · have e1 : decide (j < xs.length) = false := decide_eq_false hjl
      go_wp2_with fail
      go_ret
      exact ⟨rfl, HBE.out⟩
set_option maxHeartbeats 2000000 in
set_option maxRecDepth 100000 in
theorem sameTd1 (x y : Sd.Td) (hu : Sd.Td.un x = Sd.Td.un y) (hs : SmTd x) (u1 u2 u3 u4 : Option Addr) (u5 u6 u7 u8 : Nat) (v1 v2 v3 v4 : Option Addr) (v5 v6 v7 v8 : Nat) (w : World) (P : Nat → Prop) (hx : Reads w P (Sd.Td.d x) [.int .i64 x.kind, .string ⟨x.name.toArray⟩, .slice u1 x.impl.length u5, .slice u2 x.fields.length u6, .slice u3 x.members.length u7, .slice u4 x.inputs.length u8, .int .i64 x.at_]) (hy : Reads w P (Sd.Td.d y) [.int .i64 y.kind, .string ⟨y.name.toArray⟩, .slice v1 y.impl.length v5, .slice v2 y.fields.length v6, .slice v3 y.members.length v7, .slice v4 y.inputs.length v8, .int .i64 y.at_]) :
    Calls Tryz.prog 37 #[.agg #[.int .i64 x.kind, .string ⟨x.name.toArray⟩, .slice u1 x.impl.length u5, .slice u2 x.fields.length u6, .slice u3 x.members.length u7, .slice u4 x.inputs.length u8, .int .i64 x.at_], .agg #[.int .i64 y.kind, .string ⟨y.name.toArray⟩, .slice v1 y.impl.length v5, .slice v2 y.fields.length v6, .slice v3 y.members.length v7, .slice v4 y.inputs.length v8, .int .i64 y.at_]] w (fun r w' => r = .returned (.bool true) ∧ Below w.heap.size w w') := by
  obtain ⟨wc, hwc⟩ : ∃ z, z = (w.alloc (.cells #[.int .i64 x.kind, .string ⟨x.name.toArray⟩, .slice u1 x.impl.length u5, .slice u2 x.fields.length u6, .slice u3 x.members.length u7, .slice u4 x.inputs.length u8, .int .i64 x.at_] 38)).alloc (.cells #[.int .i64 y.kind, .string ⟨y.name.toArray⟩, .slice v1 y.impl.length v5, .slice v2 y.fields.length v6, .slice v3 y.members.length v7, .slice v4 y.inputs.length v8, .int .i64 y.at_] 38) := ⟨_, rfl⟩
  have hbc : Below w.heap.size w wc := by rw [hwc]; exact ((Below.refl _ _).alloc (Nat.le_refl _) _).alloc (by simp) _
  have HBC := Lib.hid hbc
  have HWC := Lib.hid hwc
  have hx0 : wc.heap[w.heap.size]? = some (.cells #[.int .i64 x.kind, .string ⟨x.name.toArray⟩, .slice u1 x.impl.length u5, .slice u2 x.fields.length u6, .slice u3 x.members.length u7, .slice u4 x.inputs.length u8, .int .i64 x.at_] 38 (0, 0)) := by rw [hwc, Lib.alloc_old _ _ _ (by simp)]; exact heap_at_new _ _
  have hy0 : wc.heap[w.heap.size + 1]? = some (.cells #[.int .i64 y.kind, .string ⟨y.name.toArray⟩, .slice v1 y.impl.length v5, .slice v2 y.fields.length v6, .slice v3 y.members.length v7, .slice v4 y.inputs.length v8, .int .i64 y.at_] 38 (0, 0)) := by
    rw [hwc]
    have := heap_at_new (w.alloc (.cells #[.int .i64 x.kind, .string ⟨x.name.toArray⟩, .slice u1 x.impl.length u5, .slice u2 x.fields.length u6, .slice u3 x.members.length u7, .slice u4 x.inputs.length u8, .int .i64 x.at_] 38)) (.cells #[.int .i64 y.kind, .string ⟨y.name.toArray⟩, .slice v1 y.impl.length v5, .slice v2 y.fields.length v6, .slice v3 y.members.length v7, .slice v4 y.inputs.length v8, .int .i64 y.at_] 38)
    rw [show (w.alloc (.cells #[.int .i64 x.kind, .string ⟨x.name.toArray⟩, .slice u1 x.impl.length u5, .slice u2 x.fields.length u6, .slice u3 x.members.length u7, .slice u4 x.inputs.length u8, .int .i64 x.at_] 38)).heap.size = w.heap.size + 1 by simp] at this
    exact this
  have HX0 := Lib.hid hx0
  have HY0 := Lib.hid hy0
  clear hx0 hy0
  obtain ⟨hk, hn, hi, hf, hm, hp⟩ : x.kind = y.kind ∧ x.name = y.name ∧ x.impl = y.impl ∧ x.fields.map Sd.Fd.un = y.fields.map Sd.Fd.un ∧ x.members = y.members ∧ x.inputs.map Sd.In.un = y.inputs.map Sd.In.un := by
    unfold Sd.Td.un at hu
    simp only [Sd.Td.mk.injEq] at hu
    exact ⟨hu.1, hu.2.1, hu.2.2.1, hu.2.2.2.1, hu.2.2.2.2.1, hu.2.2.2.2.2.1⟩
  have e0 : ((x.kind : Int) == (y.kind : Int)) = true := eqT (by omega)
  have e1 : (x.name == y.name) = true := by rw [beq_iff_eq]; exact hn
  have HX := Lib.hid hx
  have HY := Lib.hid hy
  have HSM := Lib.hid hs
  have HI := Lib.hid hi
  have HM := Lib.hid hm
  have HP := Lib.hid hp
  have HF := Lib.hid hf
  have part : ∀ (w' : World), Below w.heap.size w w' → ∃ q : Unit, Reads w' P (.seq 1 (sds x.impl)) [.slice u1 x.impl.length u5] ∧ Reads w' P (.seq 4 (x.fields.map Sd.Fd.d)) [.slice u2 x.fields.length u6] ∧ Reads w' P (.seq 1 (sds x.members)) [.slice u3 x.members.length u7] ∧ Reads w' P (.seq 9 (x.inputs.map Sd.In.d)) [.slice u4 x.inputs.length u8] ∧
      Reads w' P (.seq 1 (sds x.impl)) [.slice v1 x.impl.length v5] ∧ Reads w' P (.seq 4 (y.fields.map Sd.Fd.d)) [.slice v2 y.fields.length v6] ∧ Reads w' P (.seq 1 (sds x.members)) [.slice v3 x.members.length v7] ∧ Reads w' P (.seq 9 (y.inputs.map Sd.In.d)) [.slice v4 y.inputs.length v8] := by
    intro w' hb
    obtain ⟨p1, p2, p3, p4, p5, p6, p7, p8, ex, r1, r2, r3, r4⟩ := Td_open (HX.out.to (Stands.below hb))
    obtain ⟨s1, s2, s3, s4, s5, s6, s7, s8, ey, t1, t2, t3, t4⟩ := Td_open (HY.out.to (Stands.below hb))
    obtain ⟨⟨rfl, rfl⟩, ⟨rfl, rfl⟩, ⟨rfl, rfl⟩, rfl, rfl⟩ : (u1 = p1 ∧ u5 = p5) ∧ (u2 = p2 ∧ u6 = p6) ∧ (u3 = p3 ∧ u7 = p7) ∧ u4 = p4 ∧ u8 = p8 := by simpa [and_assoc] using ex
    obtain ⟨⟨rfl, rfl⟩, ⟨rfl, rfl⟩, ⟨rfl, rfl⟩, rfl, rfl⟩ : (v1 = s1 ∧ v5 = s5) ∧ (v2 = s2 ∧ v6 = s6) ∧ (v3 = s3 ∧ v7 = s7) ∧ v4 = s4 ∧ v8 = s8 := by simpa [and_assoc] using ey
    rw [← HI.out] at t1
    rw [← HM.out] at t3
    exact ⟨(), r1, r2, r3, r4, t1, t2, t3, t4⟩
  have HPART := Lib.hid part
  have hil : y.impl.length = x.impl.length := by rw [hi]
  have hml : y.members.length = x.members.length := by rw [hm]
  rw [hil, hml] at HWC HY0 ⊢
  clear hx hy hbc hwc hu hk hn hi hf hm hp hs hil hml part
  go_enter Tryz.func37, Tryz.ntmps37
  go_wp2_with fail
  rw [← HWC.out]
  refine (eqS_any x.impl u1 v1 u5 v5 wc P HSM.out.1 (HPART.out wc HBC.out).choose_spec.1 (HPART.out wc HBC.out).choose_spec.2.2.2.2.1).mono ?_
  rintro r w2 ⟨rfl, hb2⟩
  have HB2 := Lib.hid (HBC.out.trans (hb2.mono HBC.out.size))
  have HX2 := Lib.hid ((hb2.block _ (sdt_lt HX0.out)).trans HX0.out)
  have HY2 := Lib.hid ((hb2.block _ (sdt_lt HY0.out)).trans HY0.out)
  clear hb2
  have x2 := blk_cell HX2.out 2 (.slice u1 x.impl.length u5) rfl
  have y2 := blk_cell HY2.out 2 (.slice v1 x.impl.length v5) rfl
  have x3 := blk_cell HX2.out 3 (.slice u2 x.fields.length u6) rfl
  have y3 := blk_cell HY2.out 3 (.slice v2 y.fields.length v6) rfl
  have x4 := blk_cell HX2.out 4 (.slice u3 x.members.length u7) rfl
  have y4 := blk_cell HY2.out 4 (.slice v3 x.members.length v7) rfl
  have x5 := blk_cell HX2.out 5 (.slice u4 x.inputs.length u8) rfl
  have y5 := blk_cell HY2.out 5 (.slice v4 y.inputs.length v8) rfl
  go_wp2_with fail
  refine (eqS_any x.members u3 v3 u7 v7 w2 P HSM.out.2.1 (HPART.out w2 HB2.out).choose_spec.2.2.1 (HPART.out w2 HB2.out).choose_spec.2.2.2.2.2.2.1).mono ?_
  rintro r w3 ⟨rfl, hb3⟩
  have HB3 := Lib.hid (HB2.out.trans (hb3.mono HB2.out.size))
  have HX3 := Lib.hid ((hb3.block _ (sdt_lt HX2.out)).trans HX2.out)
  have HY3 := Lib.hid ((hb3.block _ (sdt_lt HY2.out)).trans HY2.out)
  clear hb3 x2 x3 x4 x5 y2 y3 y4 y5
  have x2 := blk_cell HX3.out 2 (.slice u1 x.impl.length u5) rfl
  have y2 := blk_cell HY3.out 2 (.slice v1 x.impl.length v5) rfl
  have x3 := blk_cell HX3.out 3 (.slice u2 x.fields.length u6) rfl
  have y3 := blk_cell HY3.out 3 (.slice v2 y.fields.length v6) rfl
  have x4 := blk_cell HX3.out 4 (.slice u3 x.members.length u7) rfl
  have y4 := blk_cell HY3.out 4 (.slice v3 x.members.length v7) rfl
  have x5 := blk_cell HX3.out 5 (.slice u4 x.inputs.length u8) rfl
  have y5 := blk_cell HY3.out 5 (.slice v4 y.inputs.length v8) rfl
  go_wp2_with fail
  refine (sameInputs_eq x.inputs y.inputs HP.out HSM.out.2.2.2.2.1 u4 v4 u8 v8 w3 P HSM.out.2.2.1 (HPART.out w3 HB3.out).choose_spec.2.2.2.1 (HPART.out w3 HB3.out).choose_spec.2.2.2.2.2.2.2).mono ?_
  rintro r w4 ⟨rfl, hb4⟩
  have HB4 := Lib.hid (HB3.out.trans (hb4.mono HB3.out.size))
  have HX4 := Lib.hid ((hb4.block _ (sdt_lt HX3.out)).trans HX3.out)
  have HY4 := Lib.hid ((hb4.block _ (sdt_lt HY3.out)).trans HY3.out)
  clear hb4 x2 x3 x4 x5 y2 y3 y4 y5
  have x2 := blk_cell HX4.out 2 (.slice u1 x.impl.length u5) rfl
  have y2 := blk_cell HY4.out 2 (.slice v1 x.impl.length v5) rfl
  have x3 := blk_cell HX4.out 3 (.slice u2 x.fields.length u6) rfl
  have y3 := blk_cell HY4.out 3 (.slice v2 y.fields.length v6) rfl
  have x4 := blk_cell HX4.out 4 (.slice u3 x.members.length u7) rfl
  have y4 := blk_cell HY4.out 4 (.slice v3 x.members.length v7) rfl
  have x5 := blk_cell HX4.out 5 (.slice u4 x.inputs.length u8) rfl
  have y5 := blk_cell HY4.out 5 (.slice v4 y.inputs.length v8) rfl
  go_wp2_with fail
  refine (eqfFd_eq x.fields y.fields HF.out HSM.out.2.2.2.2.2 u2 v2 u6 v6 w4 P HSM.out.2.2.2.1 (HPART.out w4 HB4.out).choose_spec.2.1 (HPART.out w4 HB4.out).choose_spec.2.2.2.2.2.1).mono ?_
  rintro r w5 ⟨rfl, hb5⟩
  have HB5 := Lib.hid (HB4.out.trans (hb5.mono HB4.out.size))
  clear hb5 x2 x3 x4 x5 y2 y3 y4 y5
  go_wp2_with fail
  go_ret
  exact ⟨rfl, HB5.out⟩
set_option maxHeartbeats 2000000 in
set_option maxRecDepth 100000 in
theorem eqfTd_eq (xs ys : List Sd.Td) (hun : xs.map Sd.Td.un = ys.map Sd.Td.un) (hsm : ∀ x ∈ xs, SmTd x) (a b : Option Addr) (c d : Nat) (w : World) (P : Nat → Prop) (hlx : xs.length ≤ 9223372036854775807)
    (hrx : Reads w P (.seq 7 (xs.map Sd.Td.d)) [.slice a xs.length c]) (hry : Reads w P (.seq 7 (ys.map Sd.Td.d)) [.slice b ys.length d]) :
    Calls Tryz.prog 36 #[.slice a xs.length c, .slice b ys.length d, .func (.func 37) #[] #[]] w (fun r w' => r = .returned (.bool true) ∧ Below w.heap.size w w') := by
  have hlen : xs.length = ys.length := by have := congrArg List.length hun; simpa using this
  have HRX := Lib.hid hrx
  have HRY := Lib.hid hry
  have HUN : Hid (∀ (j : Nat) x y, xs[j]? = some x → ys[j]? = some y → Sd.Td.un x = Sd.Td.un y) := Lib.hid (fun j x y hx hy => by
    have := congrArg (fun l => l[j]?) hun
    simp only [List.getElem?_map, hx, hy, Option.map_some, Option.some.injEq] at this
    exact this)
  have HSM := Lib.hid hsm
  have e0 : ((xs.length : Int) != (ys.length : Int)) = false := neF (by omega)
  have HLEN := Lib.hid hlen
  clear hrx hry hun hlen hsm
  go_enter Tryz.func36, Tryz.ntmps36
  go_wp2_with fail
  go_loopg [17] (xs.length + 1) (fun k i wr => ∃ (j : Nat), k = xs.length + 1 - j ∧ j ≤ xs.length ∧ i = .int .i64 j ∧ Below w.heap.size w wr)
  case atStart => exact ⟨0, rfl, Nat.zero_le _, rfl, Below.refl _ _⟩
  case round =>
    obtain ⟨j, hk, hj, rfl, hbe⟩ := hrel
    have HK := Lib.hid hk
    have HBE := Lib.hid hbe
    clear hk hbe
    by_cases hjl : j < xs.length
    · have e1 : decide (j < xs.length) = true := decide_eq_true hjl
      have hjy : j < ys.length := by have := HLEN.out; omega
      have e2 : decide (j < ys.length) = true := decide_eq_true hjy
      obtain ⟨x, hx⟩ : ∃ z, xs[j]? = some z := ⟨xs[j], List.getElem?_eq_getElem hjl⟩
      obtain ⟨y, hy⟩ : ∃ z, ys[j]? = some z := ⟨ys[j], List.getElem?_eq_getElem hjy⟩
      have HU := Lib.hid (HUN.out j x y hx hy)
      have HS := Lib.hid (HSM.out x (List.mem_of_getElem? hx))
      obtain ⟨g, o, cs, ha, -, hgl, hlen, hcell, hd⟩ := HRX.out.el j (Sd.Td.d x) (by rw [List.getElem?_map, hx]; rfl)
      obtain ⟨g', o', cs', hb, -, hgl', hlen', hcell', hd'⟩ := HRY.out.el j (Sd.Td.d y) (by rw [List.getElem?_map, hy]; rfl)
      obtain ⟨u1, u2, u3, u4, u5, u6, u7, u8, rfl, hqx, -, -, -⟩ := Td_open hd
      obtain ⟨v1, v2, v3, v4, v5, v6, v7, v8, rfl, hqy, -, -, -⟩ := Td_open hd'
      clear hqx hqy
      have k0 : wr.cell? ⟨g, o + j * 7, none⟩ = _ := (HBE.out.cell (p := ⟨g, o + j * 7, none⟩) hgl).trans (hcell 0 _ rfl)
      have k1 : wr.cell? ⟨g, o + j * 7 + 1, none⟩ = _ := (HBE.out.cell (p := ⟨g, o + j * 7 + 1, none⟩) hgl).trans (hcell 1 _ rfl)
      have k2 : wr.cell? ⟨g, o + j * 7 + 2, none⟩ = _ := (HBE.out.cell (p := ⟨g, o + j * 7 + 2, none⟩) hgl).trans (hcell 2 _ rfl)
      have k3 : wr.cell? ⟨g, o + j * 7 + 3, none⟩ = _ := (HBE.out.cell (p := ⟨g, o + j * 7 + 3, none⟩) hgl).trans (hcell 3 _ rfl)
      have k4 : wr.cell? ⟨g, o + j * 7 + 4, none⟩ = _ := (HBE.out.cell (p := ⟨g, o + j * 7 + 4, none⟩) hgl).trans (hcell 4 _ rfl)
      have k5 : wr.cell? ⟨g, o + j * 7 + 5, none⟩ = _ := (HBE.out.cell (p := ⟨g, o + j * 7 + 5, none⟩) hgl).trans (hcell 5 _ rfl)
      have k6 : wr.cell? ⟨g, o + j * 7 + 6, none⟩ = _ := (HBE.out.cell (p := ⟨g, o + j * 7 + 6, none⟩) hgl).trans (hcell 6 _ rfl)
      obtain ⟨wb, hwb⟩ : ∃ z, z = wr.alloc (.cells #[.int .i64 x.kind, .string ⟨x.name.toArray⟩, .slice u1 x.impl.length u5, .slice u2 x.fields.length u6, .slice u3 x.members.length u7, .slice u4 x.inputs.length u8, .int .i64 x.at_] 38) := ⟨_, rfl⟩
      have hbw : Below w.heap.size w wb := by rw [hwb]; exact HBE.out.alloc HBE.out.size _
      have m0 : wb.cell? ⟨g', o' + j * 7, none⟩ = _ := (hbw.cell (p := ⟨g', o' + j * 7, none⟩) hgl').trans (hcell' 0 _ rfl)
      have m1 : wb.cell? ⟨g', o' + j * 7 + 1, none⟩ = _ := (hbw.cell (p := ⟨g', o' + j * 7 + 1, none⟩) hgl').trans (hcell' 1 _ rfl)
      have m2 : wb.cell? ⟨g', o' + j * 7 + 2, none⟩ = _ := (hbw.cell (p := ⟨g', o' + j * 7 + 2, none⟩) hgl').trans (hcell' 2 _ rfl)
      have m3 : wb.cell? ⟨g', o' + j * 7 + 3, none⟩ = _ := (hbw.cell (p := ⟨g', o' + j * 7 + 3, none⟩) hgl').trans (hcell' 3 _ rfl)
      have m4 : wb.cell? ⟨g', o' + j * 7 + 4, none⟩ = _ := (hbw.cell (p := ⟨g', o' + j * 7 + 4, none⟩) hgl').trans (hcell' 4 _ rfl)
      have m5 : wb.cell? ⟨g', o' + j * 7 + 5, none⟩ = _ := (hbw.cell (p := ⟨g', o' + j * 7 + 5, none⟩) hgl').trans (hcell' 5 _ rfl)
      have m6 : wb.cell? ⟨g', o' + j * 7 + 6, none⟩ = _ := (hbw.cell (p := ⟨g', o' + j * 7 + 6, none⟩) hgl').trans (hcell' 6 _ rfl)
      rw [hwb] at m0 m1 m2 m3 m4 m5 m6
      subst ha
      subst hb
      obtain ⟨wc, hwc⟩ : ∃ z, z = (wr.alloc (.cells #[.int .i64 x.kind, .string ⟨x.name.toArray⟩, .slice u1 x.impl.length u5, .slice u2 x.fields.length u6, .slice u3 x.members.length u7, .slice u4 x.inputs.length u8, .int .i64 x.at_] 38)).alloc (.cells #[.int .i64 y.kind, .string ⟨y.name.toArray⟩, .slice v1 y.impl.length v5, .slice v2 y.fields.length v6, .slice v3 y.members.length v7, .slice v4 y.inputs.length v8, .int .i64 y.at_] 38) := ⟨_, rfl⟩
      have hbc : Below w.heap.size w wc := by rw [hwc, ← hwb]; exact hbw.alloc hbw.size _
      have HBC := Lib.hid hbc
      have HCALL := Lib.hid (sameTd1 x y HU.out HS.out u1 u2 u3 u4 u5 u6 u7 u8 v1 v2 v3 v4 v5 v6 v7 v8 wc P (hd.to (Stands.below hbc)) (hd'.to (Stands.below hbc)))
      rw [hwc] at HCALL
      have HWC := Lib.hid hwc
      clear hx hy hlen hlen' hcell hcell' hd hd' hbw hbc hwb hwc
      go_wp2_with fail
      refine HCALL.out.mono ?_
      rintro r w2 ⟨rfl, hb2⟩
      rw [← HWC.out] at hb2
      have HB2 := Lib.hid (HBC.out.trans (hb2.mono HBC.out.size))
      clear hb2 k0 k1 k2 k3 k4 k5 k6 m0 m1 m2 m3 m4 m5 m6 HCALL
      go_wp2_with fail
      go_roundg (xs.length + 1 - (j + 1))
      case measure => rw [HK.out]; omega
      case rel => exact ⟨j + 1, rfl, hjl, by go_num, HB2.out⟩
    · have e1 : decide (j < xs.length) = false := decide_eq_false hjl
      go_wp2_with fail
      go_ret
      exact ⟨rfl, HBE.out⟩
set_option maxRecDepth 100000 in
theorem sdSame_eq (xs ys : List Sd.Td) (hun : xs.map Sd.Td.un = ys.map Sd.Td.un) (hsm : ∀ x ∈ xs, SmTd x) (a b : Option Addr) (c d : Nat) (w : World) (P : Nat → Prop) (hlx : xs.length ≤ 9223372036854775807)
    (hrx : Reads w P (.seq 7 (xs.map Sd.Td.d)) [.slice a xs.length c]) (hry : Reads w P (.seq 7 (ys.map Sd.Td.d)) [.slice b ys.length d]) :
    Calls Tryz.prog 13 #[.slice a xs.length c, .slice b ys.length d] w (fun r w' => r = .returned (.bool true) ∧ Below w.heap.size w w') := by
  have HC := Lib.hid (eqfTd_eq xs ys hun hsm a b c d w P hlx hrx hry)
  clear hun hsm hrx hry
  go_enter Tryz.func13, Tryz.ntmps13
  go_wp2_with fail
  refine HC.out.mono ?_
  rintro r w2 ⟨rfl, hb2⟩
  go_wp2_with fail
  go_ret
  exact ⟨rfl, hb2⟩
end Go.Proofs.YtabcaljnpahgpaaGreatDoor
