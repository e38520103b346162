/-
  What is told of a value at [Int!], walked. The problems of a value, and whether there is none, walked. What is told of what is parsed at [Int!]: numbers, nulls, lists of them; 'awake' of the coercers' law, walked. 'awake' of the coercers' law, walked.
-/
import Derived.Test.YtmgoebfcfgilfaaGreatDoorZi17
namespace Go.Proofs.YtmgoebfcfgilfaaGreatDoor
set_option linter.unusedSimpArgs false
set_option linter.unusedVariables false
open Go Go.RowKit
open Go.Maps Go.WideMaps

/-- A number, or null; what is told of it at Int!. -/
def LeafP (z : Vl.Z) (p : List Cp.Pb) : Prop :=
  ∃ k s a, z = .mk k s [] [] a ∧ s.length ≤ 100000 ∧ ((k = 6 ∧ p = [(130, a)]) ∨ (k = 2 ∧ ∃ ok, Num32 ⟨s.toArray⟩ ok ∧ p = if ok then [] else [(130, a)]))
/-- .. of several, one behind the other. -/
inductive LeafsP : List Vl.Z → List Cp.Pb → Prop
  | nil : LeafsP [] []
  | cons {z : Vl.Z} {zs : List Vl.Z} {p q : List Cp.Pb} : LeafP z p → LeafsP zs q → LeafsP (z :: zs) (p ++ q)
theorem LeafP.len {z : Vl.Z} {p : List Cp.Pb} (h : LeafP z p) : p.length ≤ 1 := by
  obtain ⟨k, s, a, _, _, ⟨_, rfl⟩ | ⟨_, ok, _, rfl⟩⟩ := h
  · simp
  · cases ok <;> simp
theorem LeafsP.len {zs : List Vl.Z} {q : List Cp.Pb} (h : LeafsP zs q) : q.length ≤ zs.length := by
  induction h with
  | nil => simp
  | cons h1 _ ih => have := h1.len; rw [List.length_append, List.length_cons]; omega
/-- At Int!. -/
theorem value_bang (base xb tb : Nat) (fv : Value) (l p : List Cp.Pb) (k : Int) (s : List UInt8) (a1 a2 : Option Addr) (l1 c1 l2 c2 : Nat) (at_ : Int) (w : World) (h : LkAt w base xb tb fv l) (hl : l.length ≤ 1000000) (hT : TypesAt w tb) (hR : RangeVar w)
    (hp : LeafP (.mk k s [] [] at_) p) :
    Calls Tryz.prog 109 #[.pointer (some ⟨xb, 0, none⟩), .string ⟨#[73, 110, 116, 33]⟩, .agg #[.int .i64 k, .string ⟨s.toArray⟩, .slice a1 l1 c1, .slice a2 l2 c2, .int .i64 at_]] w fun e w' => e = .returned (.tuple #[]) ∧ ∃ fv', LkAt w' base xb tb fv' (l ++ p) ∧ LkTo w w' xb fv fv' := by
  obtain ⟨k', s', a', hz, hsl, hc⟩ := hp
  simp only [Vl.Z.mk.injEq] at hz
  obtain ⟨rfl, rfl, -, -, rfl⟩ := hz
  rcases hc with ⟨rfl, rfl⟩ | ⟨rfl, ok, hn, rfl⟩
  · exact value_null base xb tb fv l _ _ true a1 a2 l1 c1 l2 c2 at_ w h hl (by decide) (by kernel_rfl)
  · refine (value_num base xb tb fv l _ ⟨#[73, 110, 116]⟩ ⟨s.toArray⟩ ok a1 a2 l1 c1 l2 c2 at_ w h hl hT (by decide) (by decide) (by kernel_rfl) (by kernel_rfl) (by kernel_rfl) (by simp [Tp.names]) (fun w' hb => scalar_int ⟨s.toArray⟩ ok a1 a2 l1 c1 l2 c2 at_ w' hn (by show s.toArray.size ≤ _; simpa using hsl) (hR.below hb))).mono ?_
    rintro e w' ⟨rfl, fv', hk, hb⟩
    refine ⟨rfl, fv', ?_, hb⟩
    cases ok
    · exact hk
    · simpa using hk
theorem LkTo.box {W w2 : World} {base xb tb : Nat} {fv fv' : Value} {l : List Cp.Pb} (h : LkTo W w2 xb fv fv') (hk : LkAt W base xb tb fv l) {b q : Nat} {v : Value} (hb : b < W.heap.size) (hbx : b ≠ xb) (hf : fv.ownBlock ≠ some b) (hc : W.cell? ⟨b, q, none⟩ = some v) : w2.cell? ⟨b, q, none⟩ = some v := by
  rw [h.cell (p := ⟨b, q, none⟩) hb hbx hf]; exact hc
/-- The five types, below a place. -/
structure TypesB (w : World) (base b : Nat) : Prop where
  box : ∃ mb, w.heap[b]? = some (.cells #[.map (some mb), .slice none 0 0] 113 (0, 0)) ∧ w.ownsMap Tryz.prog 9 kindR mb 5 (Tp.data 5) ∧ b < base ∧ mb < base
theorem TypesB.types {w : World} {base b : Nat} (h : TypesB w base b) : TypesAt w b := by
  obtain ⟨mb, h1, h2, _⟩ := h.box
  exact ⟨⟨mb, h1, h2⟩⟩
theorem TypesB.keep {w w' : World} {base b : Nat} (h : TypesB w base b) (hb : Below base w w') : TypesB w' base b := by
  obtain ⟨mb, h1, ⟨es, clock, h2, r⟩, h3, h4⟩ := h.box
  exact ⟨⟨mb, by rw [hb.block b h3]; exact h1, ⟨es, clock, by rw [hb.block mb h4]; exact h2, r⟩, h3, h4⟩⟩
theorem TypesAt.under {w : World} {b base : Nat} (h : TypesAt w b) (hb : w.heap.size ≤ base) : TypesB w base b := by
  obtain ⟨mb, h1, h2⟩ := h.box
  exact ⟨⟨mb, h1, h2, Nat.lt_of_lt_of_le (block_lt h1) hb, Nat.lt_of_lt_of_le h2.lt hb⟩⟩
theorem RangeVar.keep {w w' : World} {base : Nat} (h : RangeVar w) (hb : Below base w w') (h0 : 4 < base) : RangeVar w' := by
  obtain ⟨te, pe, h1⟩ := h
  exact ⟨te, pe, by rw [hb.cell (by exact h0)]; exact h1⟩
set_option maxHeartbeats 1000000 in
set_option maxRecDepth 100000 in
theorem value_one (base xb tb : Nat) (fv : Value) (l p : List Cp.Pb) (s : List UInt8) (a1 a2 : Option Addr) (c1 l2 c2 : Nat) (at_ : Int) (w : World) (h : LkAt w base xb tb fv l) (hl : l.length ≤ 1000000) (hT : TypesAt w tb) (hR : RangeVar w)
    (hp : LeafP (.mk 2 s [] [] at_) p) :
    Calls Tryz.prog 109 #[.pointer (some ⟨xb, 0, none⟩), .string ⟨#[91, 73, 110, 116, 33, 93]⟩, .agg #[.int .i64 2, .string ⟨s.toArray⟩, .slice a1 0 c1, .slice a2 l2 c2, .int .i64 at_]] w fun e w' => e = .returned (.tuple #[]) ∧ ∃ fv', LkAt w' base xb tb fv' (l ++ p) ∧ LkTo w w' xb fv fv' := by
  obtain ⟨W, hW⟩ : ∃ W, W = w.alloc (.cells #[.int .i64 2, .string ⟨s.toArray⟩, .slice a1 0 c1, .slice a2 l2 c2, .int .i64 at_] 49) := ⟨_, rfl⟩
  have hb0 : Below w.heap.size w W := by rw [hW]; exact (Below.refl _ _).alloc (Nat.le_refl _) _
  have x0 : W.cell? ⟨w.heap.size, 0, none⟩ = some (.int .i64 2) := by rw [hW]; exact cell_at_new w _ _ (0, 0) 0 _ rfl
  have x1 : W.cell? ⟨w.heap.size, 1, none⟩ = some (.string ⟨s.toArray⟩) := by rw [hW]; exact cell_at_new w _ _ (0, 0) 1 _ rfl
  have x2 : W.cell? ⟨w.heap.size, 2, none⟩ = some (.slice a1 0 c1) := by rw [hW]; exact cell_at_new w _ _ (0, 0) 2 _ rfl
  have x3 : W.cell? ⟨w.heap.size, 3, none⟩ = some (.slice a2 l2 c2) := by rw [hW]; exact cell_at_new w _ _ (0, 0) 3 _ rfl
  have x4 : W.cell? ⟨w.heap.size, 4, none⟩ = some (.int .i64 at_) := by rw [hW]; exact cell_at_new w _ _ (0, 0) 4 _ rfl
  have hsz : w.heap.size < W.heap.size := by rw [hW]; simp
  have HB0 := Lib.hid hb0
  have HK0 := Lib.hid (h.keep hb0)
  have HXB := Lib.hid h.lt
  have HFB : Hid (∀ g, fv.ownBlock = some g → g < w.heap.size) := Lib.hid (fun g hg => (h.own.lt g hg).2)
  have hw2 := hW.symm
  have hNu := fun w => nullable_any ⟨#[91, 73, 110, 116, 33, 93]⟩ ⟨#[91, 73, 110, 116, 33, 93]⟩ (by decide) (by kernel_rfl) w
  have hIt := fun w => item_list ⟨#[91, 73, 110, 116, 33, 93]⟩ ⟨#[73, 110, 116, 33]⟩ (by decide) (by kernel_rfl) (by kernel_rfl) (by kernel_rfl) (by decide) w
  clear hW
  have HV := Lib.hid (value_bang base xb tb fv l p 2 s a1 a2 0 c1 l2 c2 at_ W HK0.out hl (hT.keep hb0) (hR.below hb0) hp)
  have X2 := Lib.hid x2
  clear hb0 h hT hR hp
  go_enter Tryz.func109, Tryz.ntmps109
  go_wp2_with fail
  clear hw2
  refine (hNu _).mono ?_
  rintro e w1 ⟨rfl, rfl⟩
  go_wp2_with fail
  refine (hIt _).mono ?_
  rintro e w1 ⟨rfl, rfl⟩
  go_wp2_with fail
  refine HV.out.mono ?_
  rintro e w2 ⟨rfl, fv', hk, ht⟩
  have x2 : w2.cell? ⟨w.heap.size, 2, none⟩ = some (.slice a1 0 c1) := ht.box HK0.out hsz (by have := HXB.out; omega) (fun e => by have := HFB.out _ e; omega) X2.out
  have HK := Lib.hid hk
  have HTo := Lib.hid ((LkTo.of_below HB0.out).trans ht)
  clear x0 x1 x3 x4 hk ht hNu hIt HV
  go_wp2_with fail
  go_loopg [9, 42] 1 (fun m s9 s42 wq => m = 1 ∧ s42 = .int .i64 0 ∧ wq = w2)
  case atStart => exact ⟨rfl, rfl, rfl⟩
  case round =>
    obtain ⟨hk9, rfl, hw9⟩ := hrel
    subst hw9
    clear hk9
    go_wp2_with fail
    refine bodyPost_ret (v := .tuple #[]) (by simp [results, Tryz.results109, go_sem]) rfl ?_
    exact ⟨rfl, fv', HK.out, HTo.out⟩
set_option maxHeartbeats 2000000 in
set_option maxRecDepth 100000 in
theorem value_list (base xb tb : Nat) (fv : Value) (l q : List Cp.Pb) (zs : List Vl.Z) (P : Nat → Prop) (s : List UInt8) (a1 a2 : Option Addr) (c1 l2 c2 : Nat) (at_ : Int) (w : World) (h : LkAt w base xb tb fv l) (hl : l.length + zs.length ≤ 1000000) (hT : TypesB w base tb) (hR : RangeVar w) (hR0 : 4 < base)
    (hp : LeafsP zs q) (hr : Reads w P (.seq 5 (zs.map Vl.Z.d)) [.slice a1 zs.length c1]) (hP : ∀ g, P g → g < base) :
    Calls Tryz.prog 109 #[.pointer (some ⟨xb, 0, none⟩), .string ⟨#[91, 73, 110, 116, 33, 93]⟩, .agg #[.int .i64 8, .string ⟨s.toArray⟩, .slice a1 zs.length c1, .slice a2 l2 c2, .int .i64 at_]] w fun e w' => e = .returned (.tuple #[]) ∧ ∃ fv', LkAt w' base xb tb fv' (l ++ q) ∧ LkTo w w' xb fv fv' := by
  obtain ⟨W, hW⟩ : ∃ W, W = w.alloc (.cells #[.int .i64 8, .string ⟨s.toArray⟩, .slice a1 zs.length c1, .slice a2 l2 c2, .int .i64 at_] 49) := ⟨_, rfl⟩
  have hb0 : Below w.heap.size w W := by rw [hW]; exact (Below.refl _ _).alloc (Nat.le_refl _) _
  have x0 : W.cell? ⟨w.heap.size, 0, none⟩ = some (.int .i64 8) := by rw [hW]; exact cell_at_new w _ _ (0, 0) 0 _ rfl
  have x1 : W.cell? ⟨w.heap.size, 1, none⟩ = some (.string ⟨s.toArray⟩) := by rw [hW]; exact cell_at_new w _ _ (0, 0) 1 _ rfl
  have x2 : W.cell? ⟨w.heap.size, 2, none⟩ = some (.slice a1 zs.length c1) := by rw [hW]; exact cell_at_new w _ _ (0, 0) 2 _ rfl
  have x3 : W.cell? ⟨w.heap.size, 3, none⟩ = some (.slice a2 l2 c2) := by rw [hW]; exact cell_at_new w _ _ (0, 0) 3 _ rfl
  have x4 : W.cell? ⟨w.heap.size, 4, none⟩ = some (.int .i64 at_) := by rw [hW]; exact cell_at_new w _ _ (0, 0) 4 _ rfl
  have hsz : w.heap.size < W.heap.size := by rw [hW]; simp
  have HB0 := Lib.hid hb0
  have HK0 := Lib.hid (h.keep hb0)
  have HXB := Lib.hid h.lt
  have HFB : Hid (∀ g, fv.ownBlock = some g → g < w.heap.size) := Lib.hid (fun g hg => (h.own.lt g hg).2)
  have hw2 := hW.symm
  have hNu := fun w => nullable_any ⟨#[91, 73, 110, 116, 33, 93]⟩ ⟨#[91, 73, 110, 116, 33, 93]⟩ (by decide) (by kernel_rfl) w
  have hIt := fun w => item_list ⟨#[91, 73, 110, 116, 33, 93]⟩ ⟨#[73, 110, 116, 33]⟩ (by decide) (by kernel_rfl) (by kernel_rfl) (by kernel_rfl) (by decide) w
  clear hW
  have X0 := Lib.hid x0
  have HRD := Lib.hid hr
  have HPS := Lib.hid hp
  have HBX := Lib.hid h.hx
  have HBL : Hid (base ≤ w.heap.size) := Lib.hid (by have := h.hx; have := h.lt; omega)
  have HT := Lib.hid (hT.keep (hb0.mono HBL.out))
  have HR := Lib.hid (hR.keep (hb0.mono HBL.out) hR0)
  have HP := Lib.hid hP
  clear h hT hR hp hr hP
  go_enter Tryz.func109, Tryz.ntmps109
  go_wp2_with fail
  clear hw2
  refine (hNu _).mono ?_
  rintro e w1 ⟨rfl, rfl⟩
  go_wp2_with fail
  refine (hIt _).mono ?_
  rintro e w1 ⟨rfl, rfl⟩
  go_wp2_with fail
  go_loopg [9, 42] zs.length (fun m s9 s42 wq => ∃ (j : Nat) (fvj : Value) (q1 q2 : List Cp.Pb), j ≤ zs.length ∧ m = zs.length - j ∧ s42 = .int .i64 (j : Nat) ∧ q = q1 ++ q2 ∧ LeafsP (zs.drop j) q2 ∧ q1.length ≤ j ∧ LkAt wq base xb tb fvj (l ++ q1) ∧ LkTo w1 wq xb fv fvj)
  case atStart => exact ⟨0, fv, [], q, Nat.zero_le _, rfl, rfl, rfl, HPS.out, Nat.le_refl _, by rw [List.append_nil]; exact HK0.out, LkTo.of_below (Below.refl _ _)⟩
  case round =>
    obtain ⟨j, fvj, q1, q2, hj, hm, rfl, hq, hls, hql, hk, hto⟩ := hrel
    have HMM := Lib.hid hm
    have HQ := Lib.hid hq
    have hj0 : (0 : Int) ≤ (j : Int) := Int.natCast_nonneg _
    clear hm hq
    by_cases hjn : j < zs.length
    · have hjn1 : (j : Int) < (zs.length : Int) := by omega
      obtain ⟨z, hz⟩ : ∃ z, zs[j]? = some z := ⟨_, List.getElem?_eq_getElem hjn⟩
      have hdrop : zs.drop j = z :: zs.drop (j + 1) := by
        rw [List.drop_eq_getElem_cons hjn]
        rw [List.getElem?_eq_getElem hjn] at hz
        rw [Option.some.inj hz]
      rw [hdrop] at hls
      cases hls with
      | cons hp1 hls2 =>
      rename_i p3 q3
      obtain ⟨g, o, cs, rfl, hPg, hg, hcl, hcc, hrd⟩ := HRD.out.el j z.d (by rw [List.getElem?_map, hz]; rfl)
      obtain ⟨b1, b2, d1, d2, rfl, _, _⟩ := Z_open hrd
      have HLP := Lib.hid hp1
      obtain ⟨kz, sz, az, rfl, hszl, hkz⟩ := hp1
      have hbl : Below base w1 wr := hto.below HK0.out
      have hgb := HP.out g hPg
      have hcw : ∀ (q : Nat) v, (w1.cell? ⟨g, o + j * 5 + q, none⟩ = some v → wr.cell? ⟨g, o + j * 5 + q, none⟩ = some v) := fun q v hv => by rw [hbl.cell (p := ⟨g, o + j * 5 + q, none⟩) hgb]; exact hv
      have hcb : ∀ (q : Nat) v, (w.cell? ⟨g, o + j * 5 + q, none⟩ = some v → wr.cell? ⟨g, o + j * 5 + q, none⟩ = some v) := fun q v hv => hcw q v (by rw [HB0.out.cell (p := ⟨g, o + j * 5 + q, none⟩) hg]; exact hv)
      have e0 : wr.cell? ⟨g, o + j * 5, none⟩ = some (.int .i64 kz) := hcb 0 _ (hcc 0 _ rfl)
      have e1 : wr.cell? ⟨g, o + j * 5 + 1, none⟩ = some (.string ⟨sz.toArray⟩) := hcb 1 _ (hcc 1 _ rfl)
      have e2 : wr.cell? ⟨g, o + j * 5 + 2, none⟩ = some (.slice b1 0 d1) := hcb 2 _ (hcc 2 _ rfl)
      have e3 : wr.cell? ⟨g, o + j * 5 + 3, none⟩ = some (.slice b2 0 d2) := hcb 3 _ (hcc 3 _ rfl)
      have e4 : wr.cell? ⟨g, o + j * 5 + 4, none⟩ = some (.int .i64 az) := hcb 4 _ (hcc 4 _ rfl)
      obtain ⟨V, hV⟩ : ∃ V, V = wr.alloc (.cells #[.int .i64 kz, .string ⟨sz.toArray⟩, .slice b1 0 d1, .slice b2 0 d2, .int .i64 az] 49) := ⟨_, rfl⟩
      have hbv : Below wr.heap.size wr V := by rw [hV]; exact (Below.refl _ _).alloc (Nat.le_refl _) _
      have f0 : V.cell? ⟨wr.heap.size, 0, none⟩ = some (.int .i64 kz) := by rw [hV]; exact cell_at_new wr _ _ (0, 0) 0 _ rfl
      have f1 : V.cell? ⟨wr.heap.size, 1, none⟩ = some (.string ⟨sz.toArray⟩) := by rw [hV]; exact cell_at_new wr _ _ (0, 0) 1 _ rfl
      have f2 : V.cell? ⟨wr.heap.size, 2, none⟩ = some (.slice b1 0 d1) := by rw [hV]; exact cell_at_new wr _ _ (0, 0) 2 _ rfl
      have f3 : V.cell? ⟨wr.heap.size, 3, none⟩ = some (.slice b2 0 d2) := by rw [hV]; exact cell_at_new wr _ _ (0, 0) 3 _ rfl
      have f4 : V.cell? ⟨wr.heap.size, 4, none⟩ = some (.int .i64 az) := by rw [hV]; exact cell_at_new wr _ _ (0, 0) 4 _ rfl
      have x0r : wr.cell? ⟨w.heap.size, 0, none⟩ = some (.int .i64 8) := hto.box HK0.out hsz (by have := HXB.out; omega) (fun e => by have := HFB.out _ e; omega) X0.out
      have x0v : V.cell? ⟨w.heap.size, 0, none⟩ = some (.int .i64 8) := by rw [hbv.cell (p := ⟨w.heap.size, 0, none⟩) (cellLtP x0r)]; exact x0r
      have hbV : Below base w1 V := hbl.trans (hbv.mono (by have := hk.hx; have := hk.lt; omega))
      have HCV := Lib.hid (value_bang base xb tb fvj (l ++ q1) p3 kz sz b1 b2 0 d1 0 d2 az V (hk.keep hbv) (by rw [List.length_append]; omega) (HT.out.keep hbV).types (HR.out.keep hbV hR0) HLP.out)
      have HTO := Lib.hid (hto.trans (LkTo.of_below hbv))
      have hv2 := hV.symm
      have HLS := Lib.hid hls2
      have HPL := Lib.hid HLP.out.len
      clear hV hbv hbV hbl hto hk hls2 hcc hcw hcb hrd hkz hszl hdrop hz hPg x0r x0 x1 x2 x3 x4 hNu hIt
      go_wp2_with fail
      clear hv2 e0 e1 e2 e3 e4
      refine HCV.out.mono ?_
      rintro e w5 ⟨rfl, fv5, hk5, ht5⟩
      have HK5 := Lib.hid hk5
      have HT5 := Lib.hid (HTO.out.trans ht5)
      clear f0 f1 f2 f3 f4 x0v hk5 ht5
      go_wp2_with fail
      go_roundg (zs.length - (j + 1))
      case measure => rw [HMM.out]; omega
      case rel => exact ⟨j + 1, fv5, q1 ++ p3, q3, by omega, rfl, by simp, by rw [HQ.out, List.append_assoc], HLS.out, by rw [List.length_append]; have := HPL.out; omega, by rw [← List.append_assoc]; exact HK5.out, HT5.out⟩
    · have hjn1 : (zs.length : Int) ≤ (j : Int) := by omega
      have hend : zs.drop j = [] := List.drop_eq_nil_of_le (by omega)
      rw [hend] at hls
      cases hls
      have HK := Lib.hid hk
      have HTO := Lib.hid ((LkTo.of_below HB0.out).trans hto)
      clear hk hto
      go_wp2_with fail
      refine bodyPost_ret (v := .tuple #[]) (by simp [results, Tryz.results109, go_sem]) rfl ?_
      rw [HQ.out, List.append_nil]
      exact ⟨rfl, fvj, HK.out, HTO.out⟩
end Go.Proofs.YtmgoebfcfgilfaaGreatDoor
namespace Go.Proofs.YtmgoebfcfgilfaaGreatDoor
set_option linter.unusedSimpArgs false
set_option linter.unusedVariables false
open Go Go.RowKit
open Go.Maps Go.WideMaps

set_option maxHeartbeats 1000000 in
set_option maxRecDepth 100000 in
theorem doubles_list (xb : Nat) (zs : List Vl.Z) (q : List Cp.Pb) (P : Nat → Prop) (s : ByteArray) (a1 a2 : Option Addr) (c1 c2 : Nat) (at_ : Int) (w : World) (hp : LeafsP zs q) (hl : zs.length ≤ 1000000) (hr : Reads w P (.seq 5 (zs.map Vl.Z.d)) [.slice a1 zs.length c1]) :
    Calls Tryz.prog 110 #[.pointer (some ⟨xb, 0, none⟩), .agg #[.int .i64 8, .string s, .slice a1 zs.length c1, .slice a2 0 c2, .int .i64 at_]] w fun e w' => e = .returned (.tuple #[]) ∧ Below w.heap.size w w' := by
  have hmm := @run_makeMap Tryz.prog
  obtain ⟨W, hW⟩ : ∃ W, W = (w.alloc (.cells #[.int .i64 8, .string s, .slice a1 zs.length c1, .slice a2 0 c2, .int .i64 at_] 49)).alloc (.map #[] 0) := ⟨_, rfl⟩
  have hb1 : Below w.heap.size w W := by rw [hW]; exact ((Below.refl _ _).alloc (Nat.le_refl _) _).alloc (by simp) _
  have x2 : W.cell? ⟨w.heap.size, 2, none⟩ = some (.slice a1 zs.length c1) := by
    rw [hW, ((Below.refl _ _).alloc (Nat.le_refl _) _).cell (B := (w.alloc (.cells #[.int .i64 8, .string s, .slice a1 zs.length c1, .slice a2 0 c2, .int .i64 at_] 49)).heap.size) (by simp)]; exact cell_at_new w _ _ (0, 0) 2 _ rfl
  have x3 : W.cell? ⟨w.heap.size, 3, none⟩ = some (.slice a2 0 c2) := by
    rw [hW, ((Below.refl _ _).alloc (Nat.le_refl _) _).cell (B := (w.alloc (.cells #[.int .i64 8, .string s, .slice a1 zs.length c1, .slice a2 0 c2, .int .i64 at_] 49)).heap.size) (by simp)]; exact cell_at_new w _ _ (0, 0) 3 _ rfl
  have HB1 := Lib.hid hb1
  have HRD := Lib.hid hr
  have HPS := Lib.hid hp
  have hw2 := hW.symm
  clear hb1 hW hr hp
  go_enter Tryz.func110, Tryz.ntmps110
  go_wp2_with fail
  clear hw2
  go_loopg [13] 1 (fun m s13 wq => m = 1 ∧ s13 = .int .i64 0 ∧ wq = W)
  case atStart => exact ⟨rfl, rfl, rfl⟩
  case round =>
    obtain ⟨hk9, rfl, hw9⟩ := hrel
    subst hw9
    clear hk9
    go_wp2_with fail
    go_loopg [8, 39] zs.length (fun m s8 s39 wq => ∃ (j : Nat) (q2 : List Cp.Pb), j ≤ zs.length ∧ m = zs.length - j ∧ s39 = .int .i64 (j : Nat) ∧ LeafsP (zs.drop j) q2 ∧ Below w.heap.size w wq)
    case atStart => exact ⟨0, q, Nat.zero_le _, rfl, rfl, HPS.out, HB1.out⟩
    case round =>
      obtain ⟨j, q2, hj, hm, rfl, hls, hbl⟩ := hrel
      have HMM := Lib.hid hm
      have hj0 : (0 : Int) ≤ (j : Int) := Int.natCast_nonneg _
      clear hm
      by_cases hjn : j < zs.length
      · have hjn1 : (j : Int) < (zs.length : Int) := by omega
        obtain ⟨z, hz⟩ : ∃ z, zs[j]? = some z := ⟨_, List.getElem?_eq_getElem hjn⟩
        have hdrop : zs.drop j = z :: zs.drop (j + 1) := by
          rw [List.drop_eq_getElem_cons hjn]
          rw [List.getElem?_eq_getElem hjn] at hz
          rw [Option.some.inj hz]
        rw [hdrop] at hls
        cases hls with
        | cons hp1 hls2 =>
        obtain ⟨g, o, cs, rfl, hPg, hg, hcl, hcc, hrd⟩ := HRD.out.el j z.d (by rw [List.getElem?_map, hz]; rfl)
        obtain ⟨b1, b2, d1, d2, rfl, _, _⟩ := Z_open hrd
        obtain ⟨kz, sz, az, rfl, hszl, hkz⟩ := hp1
        have hcb : ∀ (q : Nat) v, (w.cell? ⟨g, o + j * 5 + q, none⟩ = some v → wr.cell? ⟨g, o + j * 5 + q, none⟩ = some v) := fun q v hv => by rw [hbl.cell (p := ⟨g, o + j * 5 + q, none⟩) hg]; exact hv
        have e0 : wr.cell? ⟨g, o + j * 5, none⟩ = some (.int .i64 kz) := hcb 0 _ (hcc 0 _ rfl)
        have e1 : wr.cell? ⟨g, o + j * 5 + 1, none⟩ = some (.string ⟨sz.toArray⟩) := hcb 1 _ (hcc 1 _ rfl)
        have e2 : wr.cell? ⟨g, o + j * 5 + 2, none⟩ = some (.slice b1 0 d1) := hcb 2 _ (hcc 2 _ rfl)
        have e3 : wr.cell? ⟨g, o + j * 5 + 3, none⟩ = some (.slice b2 0 d2) := hcb 3 _ (hcc 3 _ rfl)
        have e4 : wr.cell? ⟨g, o + j * 5 + 4, none⟩ = some (.int .i64 az) := hcb 4 _ (hcc 4 _ rfl)
        obtain ⟨V, hV⟩ : ∃ V, V = wr.alloc (.cells #[.int .i64 kz, .string ⟨sz.toArray⟩, .slice b1 0 d1, .slice b2 0 d2, .int .i64 az] 49) := ⟨_, rfl⟩
        have hbv : Below wr.heap.size wr V := by rw [hV]; exact (Below.refl _ _).alloc (Nat.le_refl _) _
        have f0 : V.cell? ⟨wr.heap.size, 0, none⟩ = some (.int .i64 kz) := by rw [hV]; exact cell_at_new wr _ _ (0, 0) 0 _ rfl
        have f1 : V.cell? ⟨wr.heap.size, 1, none⟩ = some (.string ⟨sz.toArray⟩) := by rw [hV]; exact cell_at_new wr _ _ (0, 0) 1 _ rfl
        have f2 : V.cell? ⟨wr.heap.size, 2, none⟩ = some (.slice b1 0 d1) := by rw [hV]; exact cell_at_new wr _ _ (0, 0) 2 _ rfl
        have f3 : V.cell? ⟨wr.heap.size, 3, none⟩ = some (.slice b2 0 d2) := by rw [hV]; exact cell_at_new wr _ _ (0, 0) 3 _ rfl
        have f4 : V.cell? ⟨wr.heap.size, 4, none⟩ = some (.int .i64 az) := by rw [hV]; exact cell_at_new wr _ _ (0, 0) 4 _ rfl
        have hv2 := hV.symm
        have HBV := Lib.hid (hbl.trans (hbv.mono hbl.size))
        have HLS := Lib.hid hls2
        have HCV := Lib.hid (doubles_leaf xb ⟨sz.toArray⟩ kz b1 b2 d1 d2 az V)
        clear hV hbv hbl hls2 hcc hcb hrd hkz hszl hdrop hz hPg x2 x3
        go_wp2_with fail
        clear hv2 e0 e1 e2 e3 e4
        refine HCV.out.mono ?_
        rintro e w5 ⟨rfl, hb5⟩
        have HB5 := Lib.hid (HBV.out.trans (hb5.mono HBV.out.size))
        clear f0 f1 f2 f3 f4 hb5
        go_wp2_with fail
        go_roundg (zs.length - (j + 1))
        case measure => rw [HMM.out]; omega
        case rel => exact ⟨j + 1, _, by omega, rfl, by simp, HLS.out, HB5.out⟩
      · have hjn1 : (zs.length : Int) ≤ (j : Int) := by omega
        go_wp2_with fail
        go_end0
        exact ⟨rfl, hbl⟩
/-- What is asked of a value at a type: what is told of it, whatever looks. -/
def TellC (w0 : World) (tb : Nat) (typ : ByteArray) (v : Value) (q : List Cp.Pb) : Prop := ∀ w : World, Below w0.heap.size w0 w →
  (∀ (W : World) (xb : Nat), Below w.heap.size w W → LkAt W w.heap.size xb tb (.slice none 0 0) [] →
    Calls Tryz.prog 109 #[.pointer (some ⟨xb, 0, none⟩), .string typ, v] W fun e w' => e = .returned (.tuple #[]) ∧ ∃ fv', LkAt w' w.heap.size xb tb fv' q ∧ LkTo W w' xb (.slice none 0 0) fv') ∧
  (∀ (W : World) (xb : Nat), Below w.heap.size w W → Calls Tryz.prog 110 #[.pointer (some ⟨xb, 0, none⟩), v] W fun e w' => e = .returned (.tuple #[]) ∧ Below W.heap.size W w')
theorem TellC.later {w w1 : World} {tb : Nat} {typ : ByteArray} {v : Value} {q : List Cp.Pb} (h : TellC w tb typ v q) (hb : Below w.heap.size w w1) : TellC w1 tb typ v q :=
  fun w2 hb2 => h w2 (hb.trans (hb2.mono hb.size))
set_option maxHeartbeats 1000000 in
set_option maxRecDepth 100000 in
theorem problems_any (tb : Nat) (typ : ByteArray) (k : Int) (s : ByteArray) (a1 a2 : Option Addr) (l1 c1 l2 c2 : Nat) (at_ : Int) (q : List Cp.Pb) (w : World) (hq : q.length ≤ 1000000)
    (h : TellC w tb typ (.agg #[.int .i64 k, .string s, .slice a1 l1 c1, .slice a2 l2 c2, .int .i64 at_]) q) :
    Calls Tryz.prog 48 #[.pointer (some ⟨tb, 0, none⟩), .string typ, .agg #[.int .i64 k, .string s, .slice a1 l1 c1, .slice a2 l2 c2, .int .i64 at_]] w fun e w' => ∃ v', e = .returned v' ∧ HasP w' w.heap.size v' (Cp.sorted q) ∧ Below w.heap.size w w' := by
  obtain ⟨hv, hd⟩ := h w (Below.refl _ _)
  obtain ⟨V, hV⟩ : ∃ V, V = w.alloc (.cells #[.int .i64 k, .string s, .slice a1 l1 c1, .slice a2 l2 c2, .int .i64 at_] 49) := ⟨_, rfl⟩
  obtain ⟨W, hW⟩ : ∃ W, W = V.alloc (.cells #[.pointer (some ⟨tb, 0, none⟩), .slice none 0 0] 169) := ⟨_, rfl⟩
  have hvs : V.heap.size = w.heap.size + 1 := by rw [hV]; simp
  have hws : W.heap.size = w.heap.size + 2 := by rw [hW]; simp [hvs]
  have hbV : Below V.heap.size V W := by rw [hW]; exact (Below.refl _ _).alloc (Nat.le_refl _) _
  have hb0 : Below w.heap.size w W := by rw [hW, hV]; exact ((Below.refl _ _).alloc (Nat.le_refl _) _).alloc (by simp) _
  have hcell : ∀ (i : Nat) v, (#[.int .i64 k, .string s, .slice a1 l1 c1, .slice a2 l2 c2, .int .i64 at_] : Array Value)[i]? = some v → W.cell? ⟨w.heap.size, i, none⟩ = some v := fun i v hi => by
    rw [hbV.cell (p := ⟨w.heap.size, i, none⟩) (by rw [hvs]; exact Nat.lt_succ_self _), hV]; exact cell_at_new w _ _ (0, 0) i v hi
  have x0 := hcell 0 _ rfl
  have x1 := hcell 1 _ rfl
  have x2 := hcell 2 _ rfl
  have x3 := hcell 3 _ rfl
  have x4 := hcell 4 _ rfl
  have hlk : LkAt W w.heap.size (w.heap.size + 1) tb (.slice none 0 0) [] := by
    refine ⟨?_, OwnP.nil _ _, (fun g hg => by cases hg), Nat.le_succ _⟩
    rw [hW, ← hvs]
    exact heap_at_new V _
  have HLK := Lib.hid hlk
  have HC := Lib.hid (hv W (w.heap.size + 1) hb0 hlk)
  have HD : Hid (∀ (W : World), Below w.heap.size w W → Calls Tryz.prog 110 #[.pointer (some ⟨w.heap.size + 1, 0, none⟩), .agg #[.int .i64 k, .string s, .slice a1 l1 c1, .slice a2 l2 c2, .int .i64 at_]] W fun e w' => e = .returned (.tuple #[]) ∧ Below W.heap.size W w') := Lib.hid (fun W hb => hd W _ hb)
  have HB0 := Lib.hid hb0
  have HCE := Lib.hid hcell
  have HWS := Lib.hid hws
  have hw2 : (w.alloc (.cells #[.int .i64 k, .string s, .slice a1 l1 c1, .slice a2 l2 c2, .int .i64 at_] 49)).alloc (.cells #[.pointer (some ⟨tb, 0, none⟩), .slice none 0 0] 169) = W := by rw [hW, hV]
  clear hv hd hb0 hbV hvs hws hV hW hlk hcell
  go_enter Tryz.func48, Tryz.ntmps48
  go_wp2_with fail
  clear hw2
  refine HC.out.mono ?_
  rintro e w3 ⟨rfl, fv, hk3, ht3⟩
  have hcell3 : ∀ (i : Nat) v, (#[.int .i64 k, .string s, .slice a1 l1 c1, .slice a2 l2 c2, .int .i64 at_] : Array Value)[i]? = some v → w3.cell? ⟨w.heap.size, i, none⟩ = some v := fun i v hi =>
    ht3.box HLK.out (by rw [HWS.out]; omega) (by omega) (fun e => by cases e) (HCE.out i v hi)
  clear x0 x1 x2 x3 x4
  have x0 := hcell3 0 _ rfl
  have x1 := hcell3 1 _ rfl
  have x2 := hcell3 2 _ rfl
  have x3 := hcell3 3 _ rfl
  have x4 := hcell3 4 _ rfl
  have HB3 := Lib.hid (HB0.out.trans (ht3.below HLK.out))
  have HK3 := Lib.hid hk3
  have HD3 := Lib.hid (HD.out w3 HB3.out)
  clear hcell3 hk3 ht3 HC
  go_wp2_with fail
  refine HD3.out.mono ?_
  rintro e w4 ⟨rfl, hb4⟩
  have HK4 := Lib.hid (HK3.out.keep hb4)
  have HB4 := Lib.hid (HB3.out.trans (hb4.mono HB3.out.size))
  obtain ⟨fa, fn, fc, hf, HF⟩ := OwnP.form HK4.out.own
  subst hf
  have y1 := HK4.out.c1
  have HPR : Hid (Prp (w4.alloc (.cells #[.slice fa fn fc] 37)) (.slice (some ⟨w4.heap.size, 0, none⟩) 1 1) [q]) := by
    refine Lib.hid ⟨_, _, rfl, fun i l hi => ?_⟩
    match i, hi with
    | 0, hi =>
      simp at hi
      subst hi
      have hba : Below w4.heap.size w4 (w4.alloc (.cells #[.slice fa fn fc] 37)) := (Below.refl _ _).alloc (Nat.le_refl _) _
      exact ⟨_, 0, _, _, rfl, by simp, cell_at_new w4 #[.slice fa fn fc] _ (0, 0) 0 _ rfl, HK4.out.own.nilCap, HK4.out.own.pbs.to (Stands.below hba)⟩
    | i + 1, hi => simp at hi
  have HSO := Lib.hid (sortedP_any _ _ _ HPR.out (by simp) (by simpa using hq))
  have hfl : [q].flatten = q := by simp
  rw [hfl] at HSO
  have HBA : Hid (Below w.heap.size w (w4.alloc (.cells #[.slice fa fn fc] 37))) := Lib.hid (HB4.out.alloc HB4.out.size _)
  clear x0 x1 x2 x3 x4 hb4 HD3 HPR hfl
  go_wp2_with fail
  refine HSO.out.mono ?_
  rintro e w5 ⟨v5, rfl, hh, hb5⟩
  have HH := Lib.hid (hh.mono HBA.out.size)
  have HB5 := Lib.hid (HBA.out.trans (hb5.mono HBA.out.size))
  obtain ⟨a5, n5, c5, hv5, HN5⟩ := HasP.form hh
  subst hv5
  clear hh hb5 HSO
  go_wp2_with fail
  go_ret
  exact ⟨_, rfl, HH.out, HB5.out⟩
theorem sorted_nil (q : List Cp.Pb) : ((Cp.sorted q).length = 0) ↔ q = [] := by
  constructor
  · intro h
    cases q with
    | nil => rfl
    | cons p r =>
      have : p ∈ Cp.sorted (p :: r) := (Cp.mem_sorted _ _).2 List.mem_cons_self
      rw [List.eq_nil_of_length_eq_zero h] at this
      cases this
  · rintro rfl; rfl
set_option maxHeartbeats 1000000 in
set_option maxRecDepth 100000 in
theorem right_any (tb : Nat) (typ : ByteArray) (k : Int) (s : ByteArray) (a1 a2 : Option Addr) (l1 c1 l2 c2 : Nat) (at_ : Int) (q : List Cp.Pb) (B : Bool) (w : World) (hq : q.length ≤ 1000000)
    (h : TellC w tb typ (.agg #[.int .i64 k, .string s, .slice a1 l1 c1, .slice a2 l2 c2, .int .i64 at_]) q) (hB : B = decide (q = [])) :
    Calls Tryz.prog 21 #[.pointer (some ⟨tb, 0, none⟩), .string typ, .agg #[.int .i64 k, .string s, .slice a1 l1 c1, .slice a2 l2 c2, .int .i64 at_]] w fun e w' => e = .returned (.bool B) ∧ Below w.heap.size w w' := by
  obtain ⟨W, hW⟩ : ∃ W, W = w.alloc (.cells #[.int .i64 k, .string s, .slice a1 l1 c1, .slice a2 l2 c2, .int .i64 at_] 49) := ⟨_, rfl⟩
  have hb0 : Below w.heap.size w W := by rw [hW]; exact (Below.refl _ _).alloc (Nat.le_refl _) _
  have x0 : W.cell? ⟨w.heap.size, 0, none⟩ = some (.int .i64 k) := by rw [hW]; exact cell_at_new w _ _ (0, 0) 0 _ rfl
  have x1 : W.cell? ⟨w.heap.size, 1, none⟩ = some (.string s) := by rw [hW]; exact cell_at_new w _ _ (0, 0) 1 _ rfl
  have x2 : W.cell? ⟨w.heap.size, 2, none⟩ = some (.slice a1 l1 c1) := by rw [hW]; exact cell_at_new w _ _ (0, 0) 2 _ rfl
  have x3 : W.cell? ⟨w.heap.size, 3, none⟩ = some (.slice a2 l2 c2) := by rw [hW]; exact cell_at_new w _ _ (0, 0) 3 _ rfl
  have x4 : W.cell? ⟨w.heap.size, 4, none⟩ = some (.int .i64 at_) := by rw [hW]; exact cell_at_new w _ _ (0, 0) 4 _ rfl
  have HC := Lib.hid (problems_any tb typ k s a1 a2 l1 c1 l2 c2 at_ q W hq (h.later hb0))
  have HB0 := Lib.hid hb0
  have hw2 := hW.symm
  have HBB : Hid ((decide ((Cp.sorted q).length = 0)) = B) := Lib.hid (by
    rw [hB]
    by_cases hq0 : q = []
    · rw [decide_eq_true hq0, decide_eq_true ((sorted_nil q).2 hq0)]
    · rw [decide_eq_false hq0, decide_eq_false (fun e => hq0 ((sorted_nil q).1 e))])
  clear hb0 hW h hB
  go_enter Tryz.func21, Tryz.ntmps21
  go_wp2_with fail
  clear hw2
  refine HC.out.mono ?_
  rintro e w5 ⟨v5, rfl, hh, hb5⟩
  obtain ⟨a5, n5, c5, hv5, HN5⟩ := HasP.form hh
  subst hv5
  have HB5 := Lib.hid (HB0.out.trans (hb5.mono HB0.out.size))
  have ht : ((n5 : Int) == 0) = B := by
    rw [← HBB.out, ← HN5.out]
    by_cases h0 : n5 = 0
    · subst h0; rfl
    · rw [decide_eq_false h0, beq_eq_false_iff_ne]; omega
  clear hh hb5 HC x0 x1 x2 x3 x4
  go_wp2_with fail
  go_ret
  exact ⟨rfl, HB5.out⟩
end Go.Proofs.YtmgoebfcfgilfaaGreatDoor
namespace Go.Proofs.YtmgoebfcfgilfaaGreatDoor
set_option linter.unusedSimpArgs false
set_option linter.unusedVariables false
open Go Go.RowKit
open Go.Maps Go.WideMaps

/-- What is told of a value at [Int!]. -/
inductive AtL : Vl.Z → List Cp.Pb → Prop
  | null (s : List UInt8) (a : Int) : AtL (.mk 6 s [] [] a) []
  | one {s : List UInt8} {a : Int} {p : List Cp.Pb} : LeafP (.mk 2 s [] [] a) p → AtL (.mk 2 s [] [] a) p
  | list {s : List UInt8} {a : Int} {zs : List Vl.Z} {q : List Cp.Pb} : LeafsP zs q → zs.length ≤ 1000 → AtL (.mk 8 s zs [] a) q
theorem tellc_any {z : Vl.Z} {q : List Cp.Pb} (h : AtL z q) {w : World} {P : Nat → Prop} {tb : Nat} {a1 a2 : Option Addr} {c1 c2 : Nat} (hT : TypesAt w tb) (hR : RangeVar w)
    (hr : Reads w P z.d [.int .i64 z.kind, .string ⟨z.text.toArray⟩, .slice a1 z.items.length c1, .slice a2 z.fields.length c2, .int .i64 z.at_]) :
    TellC w tb ⟨#[91, 73, 110, 116, 33, 93]⟩ (.agg #[.int .i64 z.kind, .string ⟨z.text.toArray⟩, .slice a1 z.items.length c1, .slice a2 z.fields.length c2, .int .i64 z.at_]) q := by
  intro w1 hb1
  have hT1 := hT.keep hb1
  have hR1 := hR.below hb1
  have hr1 := hr.to (Stands.below (P := P) hb1)
  cases h with
  | null s a =>
    refine ⟨fun W xb hb hk => ?_, fun W xb hb => doubles_leaf xb _ _ a1 a2 c1 c2 a W⟩
    refine (value_null w1.heap.size xb tb (.slice none 0 0) [] _ _ false a1 a2 0 c1 0 c2 a W hk (by simp) (by decide) (by kernel_rfl)).mono ?_
    rintro e w' ⟨rfl, fv', h1, h2⟩
    exact ⟨rfl, fv', h1, h2⟩
  | one hp =>
    rename_i s a
    refine ⟨fun W xb hb hk => ?_, fun W xb hb => doubles_leaf xb _ _ a1 a2 c1 c2 a W⟩
    exact value_one w1.heap.size xb tb (.slice none 0 0) [] q s a1 a2 c1 0 c2 a W hk (by simp) (hT1.keep hb) (hR1.below hb) hp
  | list hp hl =>
    rename_i s a zs
    have hrr : Reads w1 P (.seq 5 (zs.map Vl.Z.d)) [.slice a1 zs.length c1] := by
      obtain ⟨b1, b2, d1, d2, e, h1, _⟩ := Z_open hr1
      simp only [List.cons.injEq, Value.slice.injEq] at e
      obtain ⟨_, _, ⟨rfl, _, rfl⟩, _⟩ := e
      exact h1
    refine ⟨fun W xb hb hk => ?_, fun W xb hb => doubles_list xb zs q P _ a1 a2 c1 c2 a W hp (by omega) (hrr.to (Stands.below hb))⟩
    have hr0 : 4 < w1.heap.size := by
      obtain ⟨te, pe, h1⟩ := hR1
      exact cellLtP h1
    have hrb : Reads W (fun g => g < w1.heap.size) (.seq 5 (zs.map Vl.Z.d)) [.slice a1 zs.length c1] := by
      refine hrr.to ⟨hb.size, fun g hg _ => ⟨hg, hb.block g hg⟩⟩
    exact value_list w1.heap.size xb tb (.slice none 0 0) [] q zs _ s a1 a2 c1 0 c2 a W hk (by simp; omega) ((hT1.under (Nat.le_refl _)).keep hb) (hR1.below hb) hr0 hp hrb (fun g hg => hg)
theorem aparse_any (s : ByteArray) (q : List Cp.Pb) (tb : Nat) (w : World) (hs : s.size ≤ 1000) (he : (Vl.parse s.data.toList true).1.err = 0) (hq : AtL (Vl.ofV (Vl.parse s.data.toList true).2) q) (hE : Env w) (h3 : 3 ≤ w.heap.size) (hT : TypesAt w tb) (hR : RangeVar w) :
    Calls Tryz.prog 47 #[.string s, .bool true] w fun e w' => ∃ (k : Int) (t : ByteArray) (a1 a2 : Option Addr) (l1 c1 l2 c2 : Nat) (at_ : Int), e = .returned (.tuple #[.agg #[.int .i64 k, .string t, .slice a1 l1 c1, .slice a2 l2 c2, .int .i64 at_], .int .i64 0, .int .i64 0]) ∧ Below w.heap.size w w' ∧
      TellC w' tb ⟨#[91, 73, 110, 116, 33, 93]⟩ (.agg #[.int .i64 k, .string t, .slice a1 l1 c1, .slice a2 l2 c2, .int .i64 at_]) q := by
  refine (vparse_any s true w (by omega) hE h3).mono ?_
  rintro e w' ⟨hb, -, hres⟩
  rcases hres with ⟨z, a1, a2, c1, c2, hz, -, rfl, hrd⟩ | ⟨h, -⟩
  · rw [← hz] at hq
    exact ⟨_, _, a1, a2, _, c1, _, c2, _, rfl, hb, tellc_any hq (hT.keep hb) (hR.below hb) hrd⟩
  · exact absurd he h
namespace Vl
def at1 : List UInt8 := [49]
def at2 : List UInt8 := [91, 49, 44, 32, 50, 93]
def at3 : List UInt8 := [110, 117, 108, 108]
def at4 : List UInt8 := [91, 93]
def at5 : List UInt8 := [91, 49, 44, 32, 110, 117, 108, 108, 93]
def at6 : List UInt8 := [50, 49, 52, 55, 52, 56, 51, 54, 52, 56]
set_option maxRecDepth 100000 in
theorem parse_at1 : (parse at1 true).1.err = 0 ∧ ofV (parse at1 true).2 = .mk 2 [49] [] [] 0 := ⟨by kernel_rfl, by kernel_rfl⟩
set_option maxRecDepth 100000 in
theorem parse_at2 : (parse at2 true).1.err = 0 ∧ ofV (parse at2 true).2 = .mk 8 [] [.mk 2 [49] [] [] 1, .mk 2 [50] [] [] 4] [] 0 := ⟨by kernel_rfl, by kernel_rfl⟩
set_option maxRecDepth 100000 in
theorem parse_at3 : (parse at3 true).1.err = 0 ∧ ofV (parse at3 true).2 = .mk 6 [] [] [] 0 := ⟨by kernel_rfl, by kernel_rfl⟩
set_option maxRecDepth 100000 in
theorem parse_at4 : (parse at4 true).1.err = 0 ∧ ofV (parse at4 true).2 = .mk 8 [] [] [] 0 := ⟨by kernel_rfl, by kernel_rfl⟩
set_option maxRecDepth 100000 in
theorem parse_at5 : (parse at5 true).1.err = 0 ∧ ofV (parse at5 true).2 = .mk 8 [] [.mk 2 [49] [] [] 1, .mk 6 [] [] [] 4] [] 0 := ⟨by kernel_rfl, by kernel_rfl⟩
set_option maxRecDepth 100000 in
theorem parse_at6 : (parse at6 true).1.err = 0 ∧ ofV (parse at6 true).2 = .mk 2 [50, 49, 52, 55, 52, 56, 51, 54, 52, 56] [] [] 0 := ⟨by kernel_rfl, by kernel_rfl⟩
end Vl
theorem leaf_num (s : List UInt8) (a : Int) (v : Int) (hs : s.length ≤ 100000) (h : Lib.parseIntB 32 s = .ok v) : LeafP (.mk 2 s [] [] a) [] :=
  ⟨2, s, a, rfl, hs, .inr ⟨rfl, true, .inl ⟨rfl, v, h⟩, rfl⟩⟩
theorem leaf_far (s : List UInt8) (a : Int) (hs : s.length ≤ 100000) (h : Lib.parseIntB 32 s = .range) : LeafP (.mk 2 s [] [] a) [(130, a)] :=
  ⟨2, s, a, rfl, hs, .inr ⟨rfl, false, .inr ⟨rfl, h⟩, rfl⟩⟩
theorem leaf_null (s : List UInt8) (a : Int) (hs : s.length ≤ 100000) : LeafP (.mk 6 s [] [] a) [(130, a)] :=
  ⟨6, s, a, rfl, hs, .inl ⟨rfl, rfl⟩⟩
theorem atl1 : AtL (.mk 2 [49] [] [] 0) [] := .one (leaf_num _ _ 1 (by decide) (by kernel_rfl))
theorem atl2 : AtL (.mk 8 [] [.mk 2 [49] [] [] 1, .mk 2 [50] [] [] 4] [] 0) [] := .list (.cons (p := []) (leaf_num _ _ 1 (by decide) (by kernel_rfl)) (.cons (p := []) (leaf_num _ _ 2 (by decide) (by kernel_rfl)) .nil)) (by decide)
theorem atl4 : AtL (.mk 8 [] [] [] 0) [] := .list .nil (by decide)
theorem atl5 : AtL (.mk 8 [] [.mk 2 [49] [] [] 1, .mk 6 [] [] [] 4] [] 0) [(130, 4)] := .list (.cons (p := []) (leaf_num _ _ 1 (by decide) (by kernel_rfl)) (.cons (p := [(130, 4)]) (leaf_null _ _ (by decide)) .nil)) (by decide)
theorem atl6 : AtL (.mk 2 [50, 49, 52, 55, 52, 56, 51, 54, 52, 56] [] [] 0) [(130, 0)] := .one (leaf_far _ _ (by decide) (by kernel_rfl))
end Go.Proofs.YtmgoebfcfgilfaaGreatDoor
namespace Go.Proofs.YtmgoebfcfgilfaaGreatDoor
set_option linter.unusedSimpArgs false
set_option linter.unusedVariables false
open Go Go.RowKit
open Go.Maps Go.WideMaps

/-- The texts that are right. -/
def aTexts : List ByteArray := [⟨#[49]⟩, ⟨#[91, 49, 44, 32, 50, 93]⟩, ⟨#[110, 117, 108, 108]⟩, ⟨#[91, 93]⟩]
theorem aTexts_ok (s : ByteArray) (h : s ∈ aTexts) : s.size ≤ 1000 ∧ (Vl.parse s.data.toList true).1.err = 0 ∧ AtL (Vl.ofV (Vl.parse s.data.toList true).2) [] := by
  simp only [aTexts, List.mem_cons, List.not_mem_nil, or_false] at h
  rcases h with rfl | rfl | rfl | rfl
  · exact ⟨by decide, Vl.parse_at1.1, by rw [show Vl.ofV (Vl.parse (ByteArray.data ⟨#[49]⟩).toList true).2 = _ from Vl.parse_at1.2]; exact atl1⟩
  · exact ⟨by decide, Vl.parse_at2.1, by rw [show Vl.ofV (Vl.parse (ByteArray.data ⟨#[91, 49, 44, 32, 50, 93]⟩).toList true).2 = _ from Vl.parse_at2.2]; exact atl2⟩
  · exact ⟨by decide, Vl.parse_at3.1, by rw [show Vl.ofV (Vl.parse (ByteArray.data ⟨#[110, 117, 108, 108]⟩).toList true).2 = _ from Vl.parse_at3.2]; exact .null _ _⟩
  · exact ⟨by decide, Vl.parse_at4.1, by rw [show Vl.ofV (Vl.parse (ByteArray.data ⟨#[91, 93]⟩).toList true).2 = _ from Vl.parse_at4.2]; exact atl4⟩
/-- What stands while the coercers' law looks at its examples. -/
structure AwS (w0 w : World) (tb : Nat) : Prop where
  env : Env w
  three : 3 ≤ w.heap.size
  types : TypesAt w tb
  range : RangeVar w
  bel : Below w0.heap.size w0 w
theorem AwS.below {w0 w w' : World} {tb : Nat} (h : AwS w0 w tb) (hb : Below w.heap.size w w') : AwS w0 w' tb :=
  ⟨h.env.below hb, Nat.le_trans h.three hb.size, h.types.keep hb, h.range.below hb, h.bel.trans (hb.mono h.bel.size)⟩
set_option maxHeartbeats 4000000 in
set_option maxRecDepth 100000 in
theorem cawake_any (w : World) (hE : Env w) (h3 : 3 ≤ w.heap.size) (hR : RangeVar w) :
    Calls Tryz.prog 16 #[] w fun e w' => e = .returned (.bool true) ∧ Below w.heap.size w w' ∧ Env w' ∧ RangeVar w' := by
  have HE := Lib.hid hE
  have HR := Lib.hid hR
  clear hE hR
  go_enter Tryz.func16, Tryz.ntmps16
  go_wp2_with fail
  refine (tnew_any w).mono ?_
  rintro e w1 ⟨tb, rfl, htb, hT, hb1⟩
  have HS1 : Hid (AwS w w1 tb) := Lib.hid ⟨HE.out.below hb1, Nat.le_trans h3 hb1.size, hT, HR.out.below hb1, hb1⟩
  obtain ⟨W, hW⟩ : ∃ W, W = w1.alloc (.cells #[.string ⟨#[49]⟩, .string ⟨#[91, 49, 44, 32, 50, 93]⟩, .string ⟨#[110, 117, 108, 108]⟩, .string ⟨#[91, 93]⟩] 9) := ⟨_, rfl⟩
  have hbW : Below w1.heap.size w1 W := by rw [hW]; exact (Below.refl _ _).alloc (Nat.le_refl _) _
  have HC0 : Hid (∀ i s, aTexts[i]? = some s → W.cell? ⟨w1.heap.size, i, none⟩ = some (.string s)) := by
    refine Lib.hid (fun i s hi => ?_)
    rw [hW]
    refine cell_at_new w1 _ _ (0, 0) i _ ?_
    match i, hi with
    | 0, hi => simp [aTexts] at hi; subst hi; rfl
    | 1, hi => simp [aTexts] at hi; subst hi; rfl
    | 2, hi => simp [aTexts] at hi; subst hi; rfl
    | 3, hi => simp [aTexts] at hi; subst hi; rfl
    | i + 4, hi => simp [aTexts] at hi
  have HSW := Lib.hid (HS1.out.below hbW)
  have HLW : Hid (w1.heap.size < W.heap.size) := Lib.hid (by rw [hW]; simp)
  have hw2 := hW.symm
  clear hW hbW hb1 hT htb
  go_wp2_with fail
  clear hw2
  go_loopg [3, 4, 5, 6, 18] 4 (fun m s3 s4 s5 s6 s18 wq => ∃ i : Nat, i ≤ 4 ∧ m = 4 - i ∧ s18 = .int .i64 (i : Nat) ∧ AwS w wq tb ∧ Below W.heap.size W wq)
  case atStart => exact ⟨0, Nat.zero_le _, rfl, rfl, HSW.out, Below.refl _ _⟩
  case round =>
    obtain ⟨i, hi, hm, rfl, hs, hbw⟩ := hrel
    have HM := Lib.hid hm
    have hi0 : (0 : Int) ≤ (i : Int) := Int.natCast_nonneg _
    clear hm
    by_cases hin : i < 4
    · have hin1 : (i : Int) < 4 := by omega
      obtain ⟨s, hsi⟩ : ∃ s, aTexts[i]? = some s := ⟨_, List.getElem?_eq_getElem (by simpa [aTexts] using hin)⟩
      have hc := HC0.out i s hsi
      have hcr : wr.cell? ⟨w1.heap.size, i, none⟩ = some (.string s) := by rw [hbw.cell (p := ⟨w1.heap.size, i, none⟩) HLW.out]; exact hc
      obtain ⟨t1, t2, t3⟩ := aTexts_ok s (List.mem_of_getElem? hsi)
      have HP := Lib.hid (aparse_any s [] tb wr t1 t2 t3 hs.env hs.three hs.types hs.range)
      have HSR := Lib.hid hs
      have HBW := Lib.hid hbw
      clear hs hbw hc hsi t1 t2 t3
      go_wp2_with fail
      clear hcr
      refine HP.out.mono ?_
      rintro e w3 ⟨k, t, a1, a2, l1, c1, l2, c2, at_, rfl, hb3, htc⟩
      obtain ⟨V, hV⟩ : ∃ V, V = w3.alloc (.cells #[.int .i64 k, .string t, .slice a1 l1 c1, .slice a2 l2 c2, .int .i64 at_] 49) := ⟨_, rfl⟩
      have hbV : Below w3.heap.size w3 V := by rw [hV]; exact (Below.refl _ _).alloc (Nat.le_refl _) _
      have f0 : V.cell? ⟨w3.heap.size, 0, none⟩ = some (.int .i64 k) := by rw [hV]; exact cell_at_new w3 _ _ (0, 0) 0 _ rfl
      have f1 : V.cell? ⟨w3.heap.size, 1, none⟩ = some (.string t) := by rw [hV]; exact cell_at_new w3 _ _ (0, 0) 1 _ rfl
      have f2 : V.cell? ⟨w3.heap.size, 2, none⟩ = some (.slice a1 l1 c1) := by rw [hV]; exact cell_at_new w3 _ _ (0, 0) 2 _ rfl
      have f3 : V.cell? ⟨w3.heap.size, 3, none⟩ = some (.slice a2 l2 c2) := by rw [hV]; exact cell_at_new w3 _ _ (0, 0) 3 _ rfl
      have f4 : V.cell? ⟨w3.heap.size, 4, none⟩ = some (.int .i64 at_) := by rw [hV]; exact cell_at_new w3 _ _ (0, 0) 4 _ rfl
      have HRI := Lib.hid (right_any tb _ k t a1 a2 l1 c1 l2 c2 at_ [] true V (by simp) (htc.later hbV) rfl)
      have HBV := Lib.hid (hb3.trans (hbV.mono hb3.size))
      have hv2 := hV.symm
      clear hV hbV hb3 htc HP
      go_wp2_with fail
      clear hv2
      refine HRI.out.mono ?_
      rintro e w5 ⟨rfl, hb5⟩
      have HB5 := Lib.hid (HBV.out.trans (hb5.mono HBV.out.size))
      clear f0 f1 f2 f3 f4 hb5
      go_wp2_with fail
      go_roundg (4 - (i + 1))
      case measure => rw [HM.out]; omega
      case rel => exact ⟨i + 1, by omega, rfl, by simp, HSR.out.below HB5.out, HBW.out.trans (HB5.out.mono HBW.out.size)⟩
    · have hin1 : (4 : Int) ≤ (i : Int) := by omega
      have HP5 := Lib.hid (aparse_any ⟨#[91, 49, 44, 32, 110, 117, 108, 108, 93]⟩ [(130, 4)] tb wr (by decide) Vl.parse_at5.1 (by rw [show Vl.ofV (Vl.parse (ByteArray.data ⟨#[91, 49, 44, 32, 110, 117, 108, 108, 93]⟩).toList true).2 = _ from Vl.parse_at5.2]; exact atl5) hs.env hs.three hs.types hs.range)
      have HSR := Lib.hid hs
      clear hs hbw
      go_wp2_with fail
      refine HP5.out.mono ?_
      rintro e w3 ⟨k, t, a1, a2, l1, c1, l2, c2, at_, rfl, hb3, htc⟩
      obtain ⟨V, hV⟩ : ∃ V, V = w3.alloc (.cells #[.int .i64 k, .string t, .slice a1 l1 c1, .slice a2 l2 c2, .int .i64 at_] 49) := ⟨_, rfl⟩
      have hbV : Below w3.heap.size w3 V := by rw [hV]; exact (Below.refl _ _).alloc (Nat.le_refl _) _
      have HCV : Hid (∀ (i : Nat) v, (#[.int .i64 k, .string t, .slice a1 l1 c1, .slice a2 l2 c2, .int .i64 at_] : Array Value)[i]? = some v → V.cell? ⟨w3.heap.size, i, none⟩ = some v) := Lib.hid (fun i v hi => by rw [hV]; exact cell_at_new w3 _ _ (0, 0) i v hi)
      have HLV : Hid (w3.heap.size < V.heap.size) := Lib.hid (by rw [hV]; simp)
      have HTV := Lib.hid (htc.later hbV)
      have HSV := Lib.hid ((HSR.out.below hb3).below hbV)
      have HP6 := Lib.hid (aparse_any ⟨#[50, 49, 52, 55, 52, 56, 51, 54, 52, 56]⟩ [(130, 0)] tb V (by decide) Vl.parse_at6.1 (by rw [show Vl.ofV (Vl.parse (ByteArray.data ⟨#[50, 49, 52, 55, 52, 56, 51, 54, 52, 56]⟩).toList true).2 = _ from Vl.parse_at6.2]; exact atl6) HSV.out.env HSV.out.three HSV.out.types HSV.out.range)
      have hv2 := hV.symm
      clear hV hbV hb3 htc HP5
      go_wp2_with fail
      clear hv2
      refine HP6.out.mono ?_
      rintro e w4 ⟨k', t', b1, b2, m1, d1, m2, d2, bt_, rfl, hb4, htc4⟩
      obtain ⟨U, hU⟩ : ∃ U, U = w4.alloc (.cells #[.int .i64 k', .string t', .slice b1 m1 d1, .slice b2 m2 d2, .int .i64 bt_] 49) := ⟨_, rfl⟩
      have hbU : Below w4.heap.size w4 U := by rw [hU]; exact (Below.refl _ _).alloc (Nat.le_refl _) _
      have HCU : Hid (∀ (i : Nat) v, (#[.int .i64 k', .string t', .slice b1 m1 d1, .slice b2 m2 d2, .int .i64 bt_] : Array Value)[i]? = some v → U.cell? ⟨w4.heap.size, i, none⟩ = some v) := Lib.hid (fun i v hi => by rw [hU]; exact cell_at_new w4 _ _ (0, 0) i v hi)
      have HLU : Hid (w4.heap.size < U.heap.size) := Lib.hid (by rw [hU]; simp)
      have hbVU : Below V.heap.size V U := hb4.trans (hbU.mono hb4.size)
      have HTU := Lib.hid (htc4.later hbU)
      have HTV2 := Lib.hid (HTV.out.later hbVU)
      have HSU := Lib.hid (HSV.out.below hbVU)
      have HCV2 : Hid (∀ (i : Nat) v, (#[.int .i64 k, .string t, .slice a1 l1 c1, .slice a2 l2 c2, .int .i64 at_] : Array Value)[i]? = some v → U.cell? ⟨w3.heap.size, i, none⟩ = some v) := Lib.hid (fun i v hi => by rw [hbVU.cell (p := ⟨w3.heap.size, i, none⟩) HLV.out]; exact HCV.out i v hi)
      have hu2 := hU.symm
      have f0 := HCV2.out 0 _ rfl
      have f1 := HCV2.out 1 _ rfl
      have f2 := HCV2.out 2 _ rfl
      have f3 := HCV2.out 3 _ rfl
      have f4 := HCV2.out 4 _ rfl
      have HPR := Lib.hid (problems_any tb _ k t a1 a2 l1 c1 l2 c2 at_ [(130, 4)] U (by simp) HTV2.out)
      clear hU hbU hb4 htc4 hbVU HP6 HTV
      go_wp2_with fail
      clear hu2
      refine HPR.out.mono ?_
      rintro e w5 ⟨v5, rfl, hh5, hb5⟩
      obtain ⟨W5, hW5⟩ : ∃ W5, W5 = w5.alloc (.cells #[.int .i64 130, .int .i64 4] 42) := ⟨_, rfl⟩
      have hbW5 : Below w5.heap.size w5 W5 := by rw [hW5]; exact (Below.refl _ _).alloc (Nat.le_refl _) _
      have hlit : Pbs W5 (fun _ => True) (.slice (some ⟨w5.heap.size, 0, none⟩) 1 1) [((130, 4) : Cp.Pb)] := by
        have h9 : ReadsS W5 (fun _ => True) 2 (some ⟨w5.heap.size, 0, none⟩) 0 ([((130, 4) : Cp.Pb)].map Cp.d) :=
          reads_row trivial (by rw [hW5]; simp) _ 0 (fun j p hp => by
            match j, hp with
            | 0, hp =>
              simp at hp
              subst hp
              rw [hW5]
              exact ⟨cell_at_new w5 _ _ (0, 0) 0 _ rfl, cell_at_new w5 _ _ (0, 0) 1 _ rfl⟩
            | j + 1, hp => simp at hp)
        exact .seq h9
      have HSA := Lib.hid (rsame_any v5 _ (Cp.sorted [(130, 4)]) [(130, 4)] W5 _ _ (by decide) (hh5.pbs.to (Stands.below hbW5)) hlit)
      rw [show decide (Cp.sorted [(130, 4)] = [(130, 4)]) = true by decide] at HSA
      obtain ⟨a5, n5, c5, hv5, HN5⟩ := HasP.form hh5
      subst hv5
      have HB5 := Lib.hid (hb5.trans (hbW5.mono hb5.size))
      have hw52 := hW5.symm
      clear hW5 hbW5 hh5 hb5 hlit HPR f0 f1 f2 f3 f4
      go_wp2_with fail
      clear hw52
      refine HSA.out.mono ?_
      rintro e w6 ⟨rfl, n6, rfl⟩
      have HB6 := Lib.hid (Below.drewN HB5.out n6)
      have HCU2 : Hid (∀ (i : Nat) v, (#[.int .i64 k', .string t', .slice b1 m1 d1, .slice b2 m2 d2, .int .i64 bt_] : Array Value)[i]? = some v → (W5.drewN n6).cell? ⟨w4.heap.size, i, none⟩ = some v) := Lib.hid (fun i v hi => by rw [HB6.out.cell (p := ⟨w4.heap.size, i, none⟩) HLU.out]; exact HCU.out i v hi)
      have f0 := HCU2.out 0 _ rfl
      have f1 := HCU2.out 1 _ rfl
      have f2 := HCU2.out 2 _ rfl
      have f3 := HCU2.out 3 _ rfl
      have f4 := HCU2.out 4 _ rfl
      have HRI := Lib.hid (right_any tb _ k' t' b1 b2 m1 d1 m2 d2 bt_ [(130, 0)] false (W5.drewN n6) (by simp) (HTU.out.later HB6.out) (by decide))
      clear HSA
      go_wp2_with fail
      refine HRI.out.mono ?_
      rintro e w7 ⟨rfl, hb7⟩
      have HS7 := Lib.hid ((HSU.out.below HB6.out).below hb7)
      clear f0 f1 f2 f3 f4 hb7
      go_wp2_with fail
      go_ret
      exact ⟨rfl, HS7.out.bel, HS7.out.env, HS7.out.range⟩
end Go.Proofs.YtmgoebfcfgilfaaGreatDoor
