/-
  Segments: the fixed fact (awake), walked.
-/
import Derived.Test.YtcimobbppmpmgaaDoorSg8
namespace Go.Proofs.YtcimobbppmpmgaaDoor
set_option linter.unusedSimpArgs false
set_option linter.unusedVariables false
open Go Go.RowKit
open Go.Maps Go.WideMaps

namespace Sg
theorem name12 : nameB 12 = [115, 101, 103, 45, 49, 50] ∧ nameE 12 = 0 := by
  refine ⟨?_, by decide⟩
  have h := Lib.itoa_nonneg 12
  rw [Lib.decDigits_two (by omega) (by omega)] at h
  unfold nameB
  rw [if_neg (by decide), show ((12 : Int)) = ((12 : Nat) : Int) from rfl, h]
  rfl
theorem id012 : idOf [115, 101, 103, 45, 48, 49, 50] = 0 := by
  rw [id_ref]
  unfold refId
  have h1 : dval (([115, 101, 103, 45, 48, 49, 50] : List UInt8).drop 4) = 12 := rfl
  rw [if_neg (by decide), if_neg (by decide), h1]
  rw [if_pos (.inr (by
    show nameB 12 ≠ _
    rw [name12.1]
    decide))]
end Sg
theorem enCells_get : ∀ (ps : List (Sg.En × Value)) (i : Nat) (p : Sg.En × Value), ps[i]? = some p → (enCells ps)[i * 3]? = some (.int .i64 p.1.1) ∧ (enCells ps)[i * 3 + 1]? = some (.int .i64 p.1.2.1) ∧ (enCells ps)[i * 3 + 2]? = some p.2
  | [], i, p, h => by simp at h
  | q :: ps, 0, p, h => by
    simp at h; subst h
    exact ⟨rfl, rfl, rfl⟩
  | q :: ps, i + 1, p, h => by
    have := enCells_get ps i p (by simpa using h)
    rw [show (i + 1) * 3 = i * 3 + 1 + 1 + 1 by omega]
    exact this
theorem EnAt.at {w : World} {base g n cap : Nat} {ps : List (Sg.En × Value)} (h : EnAt w base (.slice (some ⟨g, 0, none⟩) n cap) ps) {i : Nat} {p : Sg.En × Value} (hi : ps[i]? = some p) :
    w.cell? ⟨g, i * 3, none⟩ = some (.int .i64 p.1.1) ∧ w.cell? ⟨g, i * 3 + 1, none⟩ = some (.int .i64 p.1.2.1) ∧ w.cell? ⟨g, i * 3 + 2, none⟩ = some p.2 := by
  obtain ⟨h1, h2, h3⟩ := enCells_get ps i p hi
  have c1 := World.ownsRow.cells h.row (g := g) rfl _ _ h1
  have c2 := World.ownsRow.cells h.row (g := g) rfl _ _ h2
  have c3 := World.ownsRow.cells h.row (g := g) rfl _ _ h3
  rw [addr_add] at c1 c2 c3
  exact ⟨c1, c2, c3⟩
theorem byts_lit {w : World} (l : List UInt8) (cs : Array Value) (fz : Nat × Nat) (hc : cs = (u8Cells l).toArray) : Byts (w.alloc (.cells cs 5 fz)) (.slice (some ⟨w.heap.size, 0, none⟩) l.length l.length) l := by
  subst hc
  refine ⟨_, _, rfl, Nat.le_refl _, (fun e => by cases e), fun i x hi => ⟨w.heap.size, 0, rfl, by simp, ?_⟩⟩
  rw [Nat.zero_add, cell_of_row _ _ _ _ _ _ (heap_new w _)]
  simp [u8Cells, hi]
theorem ints_lit {w : World} (l : List Int) (cs : Array Value) (hc : cs = (l.map fun x => Value.int .i64 x).toArray) : Ints (w.alloc (.cells cs 3)) (.slice (some ⟨w.heap.size, 0, none⟩) l.length l.length) l := by
  subst hc
  refine ⟨_, _, rfl, fun i x hi => ⟨w.heap.size, 0, rfl, by simp, ?_⟩⟩
  rw [Nat.zero_add]
  exact cell_new w _ _ i _ (by simp [hi])

set_option maxHeartbeats 1000000 in
set_option maxRecDepth 100000 in
theorem awake_any (w : World) (B : Nat) (hE : SgEnv B w) (hB : B ≤ w.heap.size) :
    Calls Tryd.prog 6 #[] w fun e w' => e = .returned (.bool true) ∧ Below w.heap.size w w' := by
  have HE := Lib.hid hE
  clear hE
  go_enter Tryd.func6, Tryd.ntmps6
  go_wp2_with fail
  refine (name_any 12 w B HE.out).mono ?_
  rintro e w1 ⟨rfl, hb1⟩
  rw [Sg.name12.1, Sg.name12.2]
  have HB1 := Lib.hid hb1
  clear hb1
  go_wp2_with fail
  refine (id_any ⟨#[115, 101, 103, 45, 48, 49, 50]⟩ w1 B (HE.out.below (HB1.out.mono hB)) (Nat.le_trans hB HB1.out.size) (by show (7 : Nat) ≤ _; omega)).mono ?_
  rintro e w2 ⟨rfl, hb2⟩
  have h012 : Sg.idOf (⟨#[115, 101, 103, 45, 48, 49, 50]⟩ : ByteArray).data.toList = 0 := Sg.id012
  rw [h012]
  have HB2 := Lib.hid (HB1.out.trans (hb2.mono HB1.out.size))
  clear hb2 h012
  go_wp2_with fail
  refine (new_any 1000 w2).mono ?_
  rintro e w3 ⟨hb3, hres⟩
  have HB3 := Lib.hid (HB2.out.trans (hb3.mono HB2.out.size))
  have hs23 := hb3.size
  clear hb3
  rcases hres with ⟨h, rfl⟩ | ⟨_, rfl, V, hok⟩
  · omega
  · obtain ⟨base, hbase⟩ : ∃ b, b = w2.heap.size := ⟨_, rfl⟩
    obtain ⟨BB, hBB⟩ : ∃ b, b = w2.heap.size + 2 := ⟨_, rfl⟩
    rw [← hBB, ← hbase] at hok
    rw [← hBB]
    have HOK := Lib.hid hok
    have hw2 : w.heap.size ≤ base := by rw [hbase]; exact HB2.out.size
    have hbb : base ≤ w3.heap.size := by rw [hbase]; exact hs23
    have HE3 := Lib.hid ((HE.out.below (HB3.out.mono hB)).mono (Nat.le_trans hB hw2))
    clear hok hbase hBB
    obtain ⟨st0, hst0⟩ : ∃ s, s = Fs.new 1000 := ⟨_, rfl⟩
    rw [← hst0] at HOK
    have HR0 : Hid (Sg.RepS st0 [] ∧ st0.room = 1000 ∧ st0.changes.length = 0) := by rw [hst0]; exact Lib.hid ⟨⟨Fs.Rep.new 1000, fun s h => by simp at h, fun s h => by simp at h⟩, rfl, rfl⟩
    clear hst0
    have HS0 := Lib.hid (HR0.out.1.rep.small (by decide) (by rw [HR0.out.2.2]; omega) (fun s h => by simp [Sg.segs] at h) (by rw [HR0.out.2.1]; omega))
    have HC1 := Lib.hid (HR0.out.1.create (id := 1) (by decide) (fun s h => by simp at h) (by decide))
    go_wp2_with fail
    refine (segCreate_any base BB st0 V _ 1 w3 HOK.out HE3.out hbb HS0.out).mono ?_
    rintro e w4 ⟨rfl, hp4⟩
    rw [HC1.out.1]
    have hb4 := hp4.below0 HOK.out hbb
    obtain ⟨V4, own4, h4, _, _⟩ := hp4
    have H4 := Lib.hid h4
    have HB4 := Lib.hid (HB3.out.trans (hb4.mono hw2))
    have HE4 := Lib.hid (HE3.out.below hb4)
    have hs4 := hb4.size
    clear h4 hb4
    obtain ⟨st1, hst1⟩ : ∃ s, s = (Sg.create st0 1).1 := ⟨_, rfl⟩
    rw [← hst1] at H4 HC1
    clear hst1
    have HS1 := Lib.hid (HC1.out.2.1.rep.small (by decide) (by rw [HC1.out.2.2.2]; simp) (fun s h => by simp [Sg.segs, Fr.flat] at h; subst h; simp) (by rw [HC1.out.2.2.1, HR0.out.2.1]; omega))
    have hcv := Joins.run_convert_bytes_const_at (P := Tryd.prog) w4 32 5 #[.int .u8 120] 1 1 w4.heap.size rfl Tryd.underlying32 Tryd.underlying5
    have hbA : Below w4.heap.size w4 (w4.alloc (.cells #[.int .u8 120] 5 (1, 2))) := (Below.refl _ _).alloc (Nat.le_refl _) _
    have hpa := prts_lit1 32 (byts_lit (w := w4) [120] #[.int .u8 120] (1, 2) rfl)
    rw [show (w4.alloc (.cells #[.int .u8 120] 5 (1, 2))).heap.size = w4.heap.size + 1 by simp] at hpa
    have HPA := Lib.hid hpa
    clear hpa
    have hbA2 : Below w4.heap.size w4 ((w4.alloc (.cells #[.int .u8 120] 5 (1, 2))).alloc (.cells #[.slice (some ⟨w4.heap.size, 0, none⟩) 1 1] 32)) := hbA.alloc (by simp) _
    have HBA := Lib.hid hbA2
    clear hbA hbA2
    go_wp2_with fail
    refine (segAppend_any base BB st1 V4 own4 1 2 _ [[120]] _ (H4.out.kept (kept_below HBA.out)) (HE4.out.below (HBA.out.mono (by omega))) (by have := HBA.out.size; omega) HS1.out HPA.out (by simp) (by simp) HC1.out.2.1.rep.how).mono ?_
    rintro e w5 ⟨rfl, hp5⟩
    have HC2 := Lib.hid (HC1.out.2.1.append (i := 0) (s := (1, [])) rfl (k := 2) (p := [120]) (by decide) (by simp [Fr.flat]) (by rw [HC1.out.2.2.1, HR0.out.2.1]; simp [Sg.size, Fr.flat]))
    have hfl : ([[120]] : List (List UInt8)).flatten = [120] := rfl
    rw [hfl] at hp5 ⊢
    rw [show (Sg.append st1 1 2 [120]).2 = 0 from HC2.out.1]
    have hbw4 : base ≤ w4.heap.size := by omega
    have hb5 := hp5.below0 (H4.out.kept (kept_below HBA.out)) (Nat.le_trans hbw4 HBA.out.size)
    obtain ⟨V5, own5, h5, _, _⟩ := hp5
    have H5 := Lib.hid h5
    have HB5 := Lib.hid (HB4.out.trans ((HBA.out.mono HB4.out.size).trans (hb5.mono hw2)))
    have HE5 := Lib.hid ((HE4.out.below (HBA.out.mono hbw4)).below hb5)
    have hs5 : base ≤ w5.heap.size := Nat.le_trans (Nat.le_trans hbw4 HBA.out.size) hb5.size
    clear h5 hb5 hfl hcv
    obtain ⟨st2, hst2⟩ : ∃ s, s = (Sg.append st1 1 2 [120]).1 := ⟨_, rfl⟩
    have HC3 : Hid (Sg.RepS st2 [(1, [(2, [120])])] ∧ st2.room = st1.room ∧ st2.changes = st1.changes) := by rw [hst2]; exact Lib.hid HC2.out.2
    rw [← hst2] at H5
    clear hst2 HC2
    have HS2 := Lib.hid (HC3.out.1.rep.small (by decide) (by rw [HC3.out.2.2, HC1.out.2.2.2]; simp) (fun s h => by simp [Sg.segs, Fr.flat] at h; subst h; rw [Fr.bytes_len]; simp) (by rw [HC3.out.2.1, HC1.out.2.2.1, HR0.out.2.1]; omega))
    have HRD : Hid (Sg.read st2 [1] = ([(1, (2, [120]))], true, 0)) := Lib.hid HC3.out.1.read
    have hb5A : Below w5.heap.size w5 (w5.alloc (.cells #[.int .i64 1] 3)) := (Below.refl _ _).alloc (Nat.le_refl _) _
    have HB5A := Lib.hid hb5A
    have HIN := Lib.hid (ints_lit (w := w5) [1] #[.int .i64 1] rfl)
    clear hb5A
    go_wp2_with fail
    refine (segRead_any base BB st2 V5 own5 _ [1] _ (H5.out.kept (kept_below HB5A.out)) (HE5.out.below (HB5A.out.mono hs5)) (Nat.le_trans hs5 HB5A.out.size) HS2.out HIN.out (by simp)).mono ?_
    rintro e w6 ⟨hb6, lv, ps, rfl, hEN, hps⟩
    rw [HRD.out] at hps ⊢
    have HB6 := Lib.hid ((HB5.out.trans (HB5A.out.mono HB5.out.size)).trans (hb6.mono (Nat.le_trans HB5.out.size HB5A.out.size)))
    clear hb6
    match ps, hps with
    | [((sg, kd, pl), pv)], hps =>
      simp only [List.map_cons, List.map_nil, List.cons.injEq, and_true, Prod.mk.injEq] at hps
      obtain ⟨rfl, rfl, rfl⟩ := hps
      obtain ⟨g, c, hlv⟩ := row_form hEN.row (by simp)
      simp only [List.length_singleton] at hlv
      subst hlv
      obtain ⟨c0, c1, c2⟩ := hEN.at (i := 0) (p := ((1, 2, [120]), pv)) rfl
      have hpay := hEN.pay _ List.mem_cons_self
      obtain ⟨pa, pn, pc, hpv, HPN⟩ := OwnB.form3 hpay
      simp only at hpv c0 c1 c2 hpay
      subst hpv
      have hcv := convB hpay.byts
      simp only [Nat.zero_mul, Nat.zero_add] at c0 c1 c2
      have HH := Lib.hid hpay
      clear hEN hpay
      go_wp2_with fail
      go_ret
      exact ⟨rfl, HB6.out⟩
end Go.Proofs.YtcimobbppmpmgaaDoor
