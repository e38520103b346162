/-
  'Few' of package rubriclaw08, walked: what it lets by is small.
-/
import Derived.Test.YtabcaljnpahgpaaGreatDoorDz
import Derived.Test.YtabcaljnpahgpaaGreatDoorVsh
namespace Go.Proofs.YtabcaljnpahgpaaGreatDoor
set_option linter.unusedSimpArgs false
set_option linter.unusedVariables false
open Go Go.RowKit

namespace Vl
-- How many values there are in one.
mutual
def Z.vals : Z → Nat
  | .mk _ _ i f _ => 1 + (Z.valss i + ZA.valss f)
def Z.valss : List Z → Nat
  | [] => 0
  | x :: r => Z.vals x + Z.valss r
def ZA.valss : List ZA → Nat
  | [] => 0
  | .mk _ v _ :: r => Z.vals v + ZA.valss r
end
theorem Z.vals_eq (z : Z) : z.vals = 1 + (Z.valss z.items + ZA.valss z.fields) := by cases z; rw [Z.vals]; rfl
theorem ZA.valss_cons (x : ZA) (r : List ZA) : ZA.valss (x :: r) = x.v.vals + ZA.valss r := by cases x; rw [ZA.valss]; rfl
mutual
theorem n_vals : ∀ z : Z, z.n + 1 ≤ 2 * z.vals
  | .mk k t i f a => by
    have h1 := ns_vals i
    have h2 := nsA_vals f
    rw [Z.n, Z.vals]; omega
theorem ns_vals : ∀ l : List Z, Z.ns l ≤ 2 * Z.valss l
  | [] => by rw [Z.ns]; omega
  | x :: r => by
    have h1 := n_vals x
    have h2 := ns_vals r
    rw [Z.ns, Z.valss]; omega
theorem nsA_vals : ∀ l : List ZA, ZA.ns l ≤ 2 * ZA.valss l
  | [] => by rw [ZA.ns]; omega
  | .mk n v a :: r => by
    have h1 := n_vals v
    have h2 := nsA_vals r
    rw [ZA.ns, ZA.n, ZA.valss]; omega
end
theorem valss_drop : ∀ (l : List Z) (j : Nat), Z.valss (l.drop j) ≤ Z.valss l
  | [], j => by rw [List.drop_nil]; exact Nat.le_refl _
  | x :: r, 0 => Nat.le_refl _
  | x :: r, j + 1 => by
    have := valss_drop r j
    rw [List.drop_succ_cons, Z.valss]; omega
theorem valssA_drop : ∀ (l : List ZA) (j : Nat), ZA.valss (l.drop j) ≤ ZA.valss l
  | [], j => by rw [List.drop_nil]; exact Nat.le_refl _
  | x :: r, 0 => Nat.le_refl _
  | x :: r, j + 1 => by
    have := valssA_drop r j
    rw [List.drop_succ_cons, ZA.valss_cons]; omega
end Vl
/-- One block holds a number, the others stand. -/
structure OneI (g : Nat) (L : Int) (w0 w : World) : Prop where
  but : But (fun x => x = g) w0 w
  lt : g < w0.heap.size
  cell : w.heap[g]? = some (.cells #[.int .i64 L] 3 (0, 0))
theorem OneI.trans {g : Nat} {L L' : Int} {a b c : World} (h : OneI g L a b) (k : OneI g L' b c) : OneI g L' a c := ⟨h.but.trans k.but, h.lt, k.cell⟩
theorem OneI.stands {g : Nat} {L : Int} {w0 w : World} (h : OneI g L w0 w) : Stands w0 (fun x => x ≠ g) w (fun x => x ≠ g) := Stands.but h.but (fun _ h => h)
def FewPost (n c g : Nat) (L : Int) (w : World) (r : Ending) (w' : World) : Prop := ∃ (b : Bool) (L' : Int), r = .returned (.bool b) ∧ OneI g L' w w' ∧ L' ≤ 400 ∧ (b = true → L' = L - n ∧ 0 ≤ L' ∧ c + 200 ≤ 3300 * n)
/-- 'few', of values no greater than N. -/
def FewC (N : Nat) : Prop := ∀ (x : Vl.Z), x.n ≤ N → x.fits → ∀ (a1 a2 : Option Addr) (c1 c2 : Nat) (w : World) (g : Nat) (L deep : Int), 0 ≤ L → L ≤ 400 → w.heap[g]? = some (.cells #[.int .i64 L] 3 (0, 0)) →
  Reads w (fun k => k ≠ g) x.d (zcells x a1 a2 c1 c2).toList →
  Calls Tryz.prog 51 #[.agg (zcells x a1 a2 c1 c2), .pointer (some ⟨g, 0, none⟩), .int .i64 deep] w
    (FewPost x.vals x.cost g L w)
theorem fz_of {w : World} {b : Nat} {cs : Array Value} {T : TypeId} (h : w.heap[b]? = some (.cells cs T (0, 0))) (k : Nat) : w.frozen? ⟨b, k, none⟩ = false := by
  simp [World.frozen?, h]
set_option maxHeartbeats 2000000 in
set_option maxRecDepth 100000 in
theorem few_step (N : Nat) (IH : FewC N) : FewC (N + 1) := by
  intro x hN hfit a1 a2 c1 c2 w g L deep hL0 hL4 hg hR
  obtain ⟨x1, x2, x3, x4, ex, hxi, hxf⟩ := Z_open hR
  have ex' : zcells x a1 a2 c1 c2 = zcells x x1 x2 x3 x4 := by simpa [zcells] using congrArg List.toArray ex
  obtain ⟨rfl, rfl, rfl, rfl⟩ : a1 = x1 ∧ c1 = x3 ∧ a2 = x2 ∧ c2 = x4 := by simpa [zcells, and_assoc] using ex'
  clear ex ex' hR
  unfold zcells
  have hn := Vl.Z.n_eq x
  rw [Vl.Z.fits_eq] at hfit
  obtain ⟨-, hft, hfi, hff, hfis, hffs⟩ := hfit
  unfold maxLen at hft hfi hff
  have hgl : g < w.heap.size := block_lt hg
  obtain ⟨wb, hwb⟩ : ∃ q, q = w.alloc (.cells #[.int .i64 x.kind, .string ⟨x.text.toArray⟩, .slice a1 x.items.length c1, .slice a2 x.fields.length c2, .int .i64 x.at_] 55) := ⟨_, rfl⟩
  have hgb : wb.heap[g]? = some (.cells #[.int .i64 L] 3 (0, 0)) := by rw [hwb, Lib.alloc_old _ _ _ hgl]; exact hg
  obtain ⟨ws, hws⟩ : ∃ q, q = w.setCell ⟨g, 0, none⟩ (.int .i64 (L - 1)) := ⟨_, rfl⟩
  have hss : ws.heap.size = w.heap.size := by rw [hws, size_set]
  have hgs : ws.heap[g]? = some (.cells #[.int .i64 (L - 1)] 3 (0, 0)) := by rw [hws]; exact heap_set1 hg
  obtain ⟨w1, hw1⟩ : ∃ q, q = ws.alloc (.cells #[.int .i64 x.kind, .string ⟨x.text.toArray⟩, .slice a1 x.items.length c1, .slice a2 x.fields.length c2, .int .i64 x.at_] 55) := ⟨_, rfl⟩
  have hg1 : w1.heap[g]? = some (.cells #[.int .i64 (L - 1)] 3 (0, 0)) := by rw [hw1, Lib.alloc_old _ _ _ (by omega)]; exact hgs
  have hX1 : w1.heap[w.heap.size]? = some (.cells #[.int .i64 x.kind, .string ⟨x.text.toArray⟩, .slice a1 x.items.length c1, .slice a2 x.fields.length c2, .int .i64 x.at_] 55 (0, 0)) := by rw [hw1, ← hss]; exact heap_at_new _ _
  have hO1 : OneI g (L - 1) w w1 := by
    refine ⟨?_, hgl, hg1⟩
    rw [hw1, hws]
    exact But.alloc (But.setCell (X := fun x => x = g) (But.refl _ _) (p := ⟨g, 0, none⟩) (.inl rfl) _) _
  have f0 := blk_cell hgb 0 (.int .i64 L) rfl
  have f1 := fz_of hgb 0
  have f2 := blk_cell hg1 0 (.int .i64 (L - 1)) rfl
  have f3 := blk_cell hX1 1 (.string ⟨x.text.toArray⟩) rfl
  have f4 := blk_cell hX1 2 (.slice a1 x.items.length c1) rfl
  have f5 := blk_cell hX1 3 (.slice a2 x.fields.length c2) rfl
  have hs1 : w1.heap.size = w.heap.size + 1 := by rw [hw1, ← hss]; simp
  have hst : Stands w (fun k => k ≠ g) w1 (fun k => k ≠ g) := hO1.stands
  have HXI := Lib.hid (hxi.to hst)
  have HXF := Lib.hid (hxf.to hst)
  have HO1 := Lib.hid hO1
  have HX1 := Lib.hid hX1
  have HNF : Hid (∀ z ∈ x.fields, z.v.n ≤ N ∧ z.fits) := Lib.hid (fun z hz => ⟨by have := Vl.ZA.ns_mem hz; have := Vl.ZA.n_eq z; omega, Vl.ZA.fitss_mem hffs z hz⟩)
  have HNI : Hid (∀ z ∈ x.items, z.n ≤ N ∧ z.fits) := Lib.hid (fun z hz => ⟨by have := Vl.Z.ns_mem hz; omega, Vl.Z.fitss_mem hfis z hz⟩)
  have HIH := Lib.hid IH
  have HVS := Lib.hid (Vl.Z.vals_eq x)
  have HCE := Lib.hid (Vl.Z.cost_eq x)
  have HW1 := Lib.hid hw1
  rw [hw1] at f2 f3 f4 f5 HO1
  rw [hws] at f2 f3 f4 f5 HO1 HW1
  rw [hwb] at f0 f1
  have hgne : g ≠ w.heap.size := by omega
  clear hxi hxf IH hn hg hgb hgs hss hg1 hX1 hO1 hst hwb hws hw1 hfis hffs
  have hL1 : -1 ≤ L - 1 := by omega
  go_enter Tryz.func51, Tryz.ntmps51
  by_cases h1 : L - 1 < 0
  · have e1 : decide ((L - 1 : Int) < 0) = true := decide_eq_true (by omega)
    clear h1
    go_wp2_with fail
    go_ret
    exact ⟨false, L - 1, rfl, HO1.out, by omega, fun h => by cases h⟩
  have e1 : decide ((L - 1 : Int) < 0) = false := decide_eq_false (by omega)
  by_cases h2 : 20 < deep
  · have e2 : decide ((20 : Int) < deep) = true := decide_eq_true (by omega)
    clear h2
    go_wp2_with fail
    go_ret
    exact ⟨false, L - 1, rfl, HO1.out, by omega, fun h => by cases h⟩
  have e2 : decide ((20 : Int) < deep) = false := decide_eq_false (by omega)
  by_cases h3 : 500 < x.text.length
  · have e3 : decide ((500 : Int) < (x.text.length : Int)) = true := decide_eq_true (by omega)
    clear h3
    go_wp2_with fail
    go_ret
    exact ⟨false, L - 1, rfl, HO1.out, by omega, fun h => by cases h⟩
  have e3 : decide ((500 : Int) < (x.text.length : Int)) = false := decide_eq_false (by omega)
  by_cases h4 : 300 < x.items.length
  · have e4 : decide ((300 : Int) < (x.items.length : Int)) = true := decide_eq_true (by omega)
    clear h4
    go_wp2_with fail
    go_ret
    exact ⟨false, L - 1, rfl, HO1.out, by omega, fun h => by cases h⟩
  have e4 : decide ((300 : Int) < (x.items.length : Int)) = false := decide_eq_false (by omega)
  by_cases h5 : 300 < x.fields.length
  · have e5 : decide ((300 : Int) < (x.fields.length : Int)) = true := decide_eq_true (by omega)
    clear h5
    go_wp2_with fail
    go_ret
    exact ⟨false, L - 1, rfl, HO1.out, by omega, fun h => by cases h⟩
  have e5 : decide ((300 : Int) < (x.fields.length : Int)) = false := decide_eq_false (by omega)
  go_wp2_with fail
  rw [← HW1.out]
  rw [← HW1.out] at HO1
  clear f0 f1 f2 f3 f4 f5
  go_loopg [43] (x.items.length + 1) (fun k i wr => ∃ (j : Nat) (Lr : Int), k = x.items.length + 1 - j ∧ j ≤ x.items.length ∧ i = .int .i64 j ∧ (Lr = L - 1 - Vl.Z.valss x.items + Vl.Z.valss (x.items.drop j) ∧ Vl.Z.costs x.items + 3300 * Vl.Z.valss (x.items.drop j) ≤ 3300 * Vl.Z.valss x.items + Vl.Z.costs (x.items.drop j)) ∧ 0 ≤ Lr ∧ OneI g Lr w1 wr)
  case atStart => exact ⟨0, L - 1, rfl, Nat.zero_le _, rfl, by rw [List.drop_zero]; omega, by omega, But.refl _ _, by omega, HO1.out.cell⟩
  case round =>
    obtain ⟨j, Lr, hk, hj, rfl, hLr, hLr0, ho⟩ := hrel
    have HK := Lib.hid hk
    have HLR := Lib.hid hLr
    have HO := Lib.hid ho
    have HX2 : Hid (wr.heap[w.heap.size]? = _) := Lib.hid ((ho.but.block w.heap.size (by omega) (fun e => hgne e.symm)).trans HX1.out)
    have HOW := Lib.hid (HO1.out.trans ho)
    clear hk hLr ho
    by_cases hjl : j < x.items.length
    · have e6 : decide (j < x.items.length) = true := decide_eq_true hjl
      obtain ⟨p, hp⟩ : ∃ z, x.items[j]? = some z := ⟨x.items[j], List.getElem?_eq_getElem hjl⟩
      have hdx : x.items.drop j = p :: x.items.drop (j + 1) := by rw [List.drop_eq_getElem_cons hjl]; rw [List.getElem?_eq_getElem hjl] at hp; rw [Option.some.inj hp]
      have HL2 : Hid (Lr = L - 1 - Vl.Z.valss x.items + (p.vals + Vl.Z.valss (x.items.drop (j + 1)) : Nat) ∧ Vl.Z.costs x.items + 3300 * (p.vals + Vl.Z.valss (x.items.drop (j + 1))) ≤ 3300 * Vl.Z.valss x.items + (2 + p.cost + Vl.Z.costs (x.items.drop (j + 1)))) := by have := HLR.out; rw [hdx, Vl.Z.valss, Vl.Z.costs] at this; exact Lib.hid this
      obtain ⟨hpn, hpf⟩ := HNI.out p (List.mem_of_getElem? hp)
      obtain ⟨gi, o, cs, ha, hgx, hgl, hlen, hcell, hd⟩ := HXI.out.el j p.d (by rw [List.getElem?_map, hp]; rfl)
      obtain ⟨p1, p2, u1, u2, rfl, -, -⟩ := Z_open hd
      have k0 : wr.cell? ⟨gi, o + j * 5, none⟩ = _ := (HO.out.but.cell (p := ⟨gi, o + j * 5, none⟩) hgl hgx).trans (hcell 0 _ rfl)
      have k1 : wr.cell? ⟨gi, o + j * 5 + 1, none⟩ = _ := (HO.out.but.cell (p := ⟨gi, o + j * 5 + 1, none⟩) hgl hgx).trans (hcell 1 _ rfl)
      have k2 : wr.cell? ⟨gi, o + j * 5 + 2, none⟩ = _ := (HO.out.but.cell (p := ⟨gi, o + j * 5 + 2, none⟩) hgl hgx).trans (hcell 2 _ rfl)
      have k3 : wr.cell? ⟨gi, o + j * 5 + 3, none⟩ = _ := (HO.out.but.cell (p := ⟨gi, o + j * 5 + 3, none⟩) hgl hgx).trans (hcell 3 _ rfl)
      have k4 : wr.cell? ⟨gi, o + j * 5 + 4, none⟩ = _ := (HO.out.but.cell (p := ⟨gi, o + j * 5 + 4, none⟩) hgl hgx).trans (hcell 4 _ rfl)
      have z1 := blk_cell HX2.out 2 (.slice a1 x.items.length c1) rfl
      subst ha
      have hLr4 : Lr ≤ 400 := by have := HL2.out.1; have h2 := congrArg Vl.Z.valss hdx; rw [Vl.Z.valss] at h2; have h3 : Vl.Z.valss (x.items.drop j) ≤ Vl.Z.valss x.items := Vl.valss_drop _ _; omega
      have HCALL := Lib.hid (fun d => HIH.out p hpn hpf p1 p2 u1 u2 wr g Lr d hLr0 hLr4 HO.out.cell (hd.to HO.out.stands))
      unfold zcells at HCALL
      clear hp hdx hlen hcell hd hpn hpf HLR
      go_wp2_with fail
      refine (HCALL.out _).mono ?_
      rintro r w2 ⟨b, L', rfl, ho2, hL'4, hb⟩
      have HB := Lib.hid hb
      have HO2 := Lib.hid (HO.out.trans ho2)
      have HOW2 := Lib.hid (HOW.out.trans ho2)
      clear hb ho2 k0 k1 k2 k3 k4 z1 HCALL
      cases b
      · go_wp2_with fail
        go_ret
        exact ⟨false, L', rfl, HOW2.out, hL'4, fun h => by cases h⟩
      · go_wp2_with fail
        go_roundg (x.items.length + 1 - (j + 1))
        case measure => rw [HK.out]; omega
        case rel => exact ⟨j + 1, L', rfl, hjl, by go_num, by have := HL2.out; have := HB.out (by trivial); omega, (HB.out (by trivial)).2.1, HO2.out⟩
    · have e6 : decide (j < x.items.length) = false := decide_eq_false hjl
      have HL2 : Hid (Lr = L - 1 - Vl.Z.valss x.items ∧ Vl.Z.costs x.items ≤ 3300 * Vl.Z.valss x.items) := by
        have := HLR.out
        rw [List.drop_eq_nil_of_le (by omega), Vl.Z.valss, Vl.Z.costs] at this
        exact Lib.hid (by omega)
      have z2 := blk_cell HX2.out 3 (.slice a2 x.fields.length c2) rfl
      have HXF2 := Lib.hid (HXF.out.to HO.out.stands)
      have hszr := HO.out.but.size
      clear HLR
      go_wp2_with fail
      clear z2
      obtain ⟨wq, hwq⟩ : ∃ q, q = wr := ⟨_, rfl⟩
      rw [← hwq]
      rw [← hwq] at HX2 HOW HXF2 hszr HO
      clear hwq
      go_loopg [60] (x.fields.length + 1) (fun k i wr => ∃ (j : Nat) (Lf : Int), k = x.fields.length + 1 - j ∧ j ≤ x.fields.length ∧ i = .int .i64 j ∧ (Lf = Lr - Vl.ZA.valss x.fields + Vl.ZA.valss (x.fields.drop j) ∧ Vl.ZA.costs x.fields + 3300 * Vl.ZA.valss (x.fields.drop j) ≤ 3300 * Vl.ZA.valss x.fields + Vl.ZA.costs (x.fields.drop j)) ∧ 0 ≤ Lf ∧ OneI g Lf wq wr)
      case atStart => exact ⟨0, Lr, rfl, Nat.zero_le _, rfl, by rw [List.drop_zero]; omega, hLr0, But.refl _ _, by omega, HOW.out.cell⟩
      case round =>
        obtain ⟨j, Lf, hk, hj, rfl, hLf, hLf0, ho⟩ := hrel
        have HK2 := Lib.hid hk
        have HLF := Lib.hid hLf
        have HP := Lib.hid ho
        have HX3 : Hid (wr.heap[w.heap.size]? = _) := Lib.hid ((ho.but.block w.heap.size (by omega) (fun e => hgne e.symm)).trans HX2.out)
        have HPW := Lib.hid (HOW.out.trans ho)
        clear hk hLf ho
        by_cases hjl : j < x.fields.length
        · have e7 : decide (j < x.fields.length) = true := decide_eq_true hjl
          obtain ⟨p, hp⟩ : ∃ z, x.fields[j]? = some z := ⟨x.fields[j], List.getElem?_eq_getElem hjl⟩
          have hdx : x.fields.drop j = p :: x.fields.drop (j + 1) := by rw [List.drop_eq_getElem_cons hjl]; rw [List.getElem?_eq_getElem hjl] at hp; rw [Option.some.inj hp]
          have HL3 : Hid (Lf = Lr - Vl.ZA.valss x.fields + (p.v.vals + Vl.ZA.valss (x.fields.drop (j + 1)) : Nat) ∧ Vl.ZA.costs x.fields + 3300 * (p.v.vals + Vl.ZA.valss (x.fields.drop (j + 1))) ≤ 3300 * Vl.ZA.valss x.fields + (2 + (2 + p.name.length + p.v.cost) + Vl.ZA.costs (x.fields.drop (j + 1)))) := by have := HLF.out; rw [hdx, Vl.ZA.valss_cons, Vl.ZA.costs, Vl.ZA.cost_eq] at this; exact Lib.hid this
          obtain ⟨hpn, hpf⟩ := HNF.out p (List.mem_of_getElem? hp)
          rw [Vl.ZA.fits_eq] at hpf
          obtain ⟨gi, o, cs, ha, hgx, hgl, hlen, hcell, hd⟩ := HXF2.out.el j p.d (by rw [List.getElem?_map, hp]; rfl)
          obtain ⟨p1, p2, u1, u2, rfl, hdv⟩ := ZA_open hd
          have k0 : wr.cell? ⟨gi, o + j * 7, none⟩ = _ := (HP.out.but.cell (p := ⟨gi, o + j * 7, none⟩) hgl hgx).trans (hcell 0 _ rfl)
          have k1 : wr.cell? ⟨gi, o + j * 7 + 1, none⟩ = _ := (HP.out.but.cell (p := ⟨gi, o + j * 7 + 1, none⟩) hgl hgx).trans (hcell 1 _ rfl)
          have k2 : wr.cell? ⟨gi, o + j * 7 + 2, none⟩ = _ := (HP.out.but.cell (p := ⟨gi, o + j * 7 + 2, none⟩) hgl hgx).trans (hcell 2 _ rfl)
          have k3 : wr.cell? ⟨gi, o + j * 7 + 3, none⟩ = _ := (HP.out.but.cell (p := ⟨gi, o + j * 7 + 3, none⟩) hgl hgx).trans (hcell 3 _ rfl)
          have k4 : wr.cell? ⟨gi, o + j * 7 + 4, none⟩ = _ := (HP.out.but.cell (p := ⟨gi, o + j * 7 + 4, none⟩) hgl hgx).trans (hcell 4 _ rfl)
          have k5 : wr.cell? ⟨gi, o + j * 7 + 5, none⟩ = _ := (HP.out.but.cell (p := ⟨gi, o + j * 7 + 5, none⟩) hgl hgx).trans (hcell 5 _ rfl)
          have k6 : wr.cell? ⟨gi, o + j * 7 + 6, none⟩ = _ := (HP.out.but.cell (p := ⟨gi, o + j * 7 + 6, none⟩) hgl hgx).trans (hcell 6 _ rfl)
          have z1 := blk_cell HX3.out 3 (.slice a2 x.fields.length c2) rfl
          subst ha
          have hLf4 : Lf ≤ 400 := by have := HL3.out.1; have := HL2.out.1; have h2 := congrArg Vl.ZA.valss hdx; rw [Vl.ZA.valss_cons] at h2; have h3 : Vl.ZA.valss (x.fields.drop j) ≤ Vl.ZA.valss x.fields := Vl.valssA_drop _ _; omega
          have HCALL := Lib.hid (fun d => HIH.out p.v hpn hpf.2 p1 p2 u1 u2 wr g Lf d hLf0 hLf4 HP.out.cell (hdv.to HP.out.stands))
          have hpl := hpf.1
          unfold maxLen at hpl
          unfold zcells at HCALL
          clear hp hdx hlen hcell hd hdv hpn hpf HLF
          by_cases hnm : 100 < p.name.length
          · have e8 : decide ((100 : Int) < (p.name.length : Int)) = true := decide_eq_true (by omega)
            go_wp2_with fail
            go_ret
            exact ⟨false, Lf, rfl, HPW.out, hLf4, fun h => by cases h⟩
          have e8 : decide ((100 : Int) < (p.name.length : Int)) = false := decide_eq_false (by omega)
          go_wp2_with fail
          refine (HCALL.out _).mono ?_
          rintro r w2 ⟨b, L', rfl, ho2, hL'4, hb⟩
          have HB := Lib.hid hb
          have HP2 := Lib.hid (HP.out.trans ho2)
          have HPW2 := Lib.hid (HPW.out.trans ho2)
          clear hb ho2 k0 k1 k2 k3 k4 k5 k6 z1 HCALL
          cases b
          · go_wp2_with fail
            go_ret
            exact ⟨false, L', rfl, HPW2.out, hL'4, fun h => by cases h⟩
          · go_wp2_with fail
            go_roundg (x.fields.length + 1 - (j + 1))
            case measure => rw [HK2.out]; omega
            case rel => exact ⟨j + 1, L', rfl, hjl, by go_num, by have := HL3.out; have := HB.out (by trivial); omega, (HB.out (by trivial)).2.1, HP2.out⟩
        · have e7 : decide (j < x.fields.length) = false := decide_eq_false hjl
          have hLf4 : Lf = L - x.vals ∧ x.cost + 200 ≤ 3300 * x.vals := by
            have := HLF.out
            rw [List.drop_eq_nil_of_le (by omega), Vl.ZA.valss, Vl.ZA.costs] at this
            have h1 := HL2.out
            have h2 := HVS.out
            have h3 := HCE.out
            omega
          go_wp2_with fail
          go_ret
          exact ⟨true, Lf, rfl, HPW.out, by omega, fun _ => ⟨hLf4.1, hLf0, hLf4.2⟩⟩
theorem below_one {w w1 w2 : World} {g : Nat} {L : Int} (hb : Below w.heap.size w w1) (ho : OneI g L w1 w2) (hg : w.heap.size ≤ g) : Below w.heap.size w w2 :=
  ⟨ho.but.os.trans hb.os, ho.but.tape.trans hb.tape, ho.but.output.trans hb.output, Nat.le_trans hb.size ho.but.size, fun k hk => (ho.but.block k (by have := hb.size; omega) (fun e => by have e : k = g := e; omega)).trans (hb.block k hk)⟩
theorem few_all : ∀ N : Nat, FewC N
  | 0 => fun x hN => by have := Vl.Z.n_pos x; omega
  | N + 1 => few_step N (few_all N)
set_option maxRecDepth 100000 in
/-- 'Few' lets by what has at most 400 values. -/
theorem few_any (x : Vl.Z) (hfit : x.fits) (a1 a2 : Option Addr) (c1 c2 : Nat) (w : World) (hR : Reads w (fun _ => True) x.d (zcells x a1 a2 c1 c2).toList) :
    Calls Tryz.prog 25 #[.agg (zcells x a1 a2 c1 c2)] w (fun r w' => ∃ b : Bool, r = .returned (.bool b) ∧ Below w.heap.size w w' ∧ (b = true → x.vals ≤ 400 ∧ x.cost ≤ 3300 * 400)) := by
  obtain ⟨wb, hwb⟩ : ∃ q, q = w.alloc (.cells (zcells x a1 a2 c1 c2) 55) := ⟨_, rfl⟩
  have hbb : Below w.heap.size w wb := by rw [hwb]; exact (Below.refl _ _).alloc (Nat.le_refl _) _
  obtain ⟨w1, hw1⟩ : ∃ q, q = wb.alloc (.cells #[.int .i64 400] 3) := ⟨_, rfl⟩
  have hb1 : Below w.heap.size w w1 := by rw [hw1]; exact hbb.alloc hbb.size _
  have hs : wb.heap.size = w.heap.size + 1 := by rw [hwb]; simp
  have hg : w1.heap[w.heap.size + 1]? = some (.cells #[.int .i64 400] 3 (0, 0)) := by rw [hw1, ← hs]; exact heap_at_new _ _
  have hR1 : Reads w1 (fun k => k ≠ w.heap.size + 1) x.d (zcells x a1 a2 c1 c2).toList := (hR.to (Stands.sub _ (Q := fun k => k < w.heap.size) (fun g hg _ => hg))).to ⟨hb1.size, fun g hg hp => ⟨by show g ≠ _; omega, hb1.block g hg⟩⟩
  have HC := Lib.hid (few_all x.n x (Nat.le_refl _) hfit a1 a2 c1 c2 w1 (w.heap.size + 1) 400 0 (by omega) (by omega) hg hR1)
  have HB1 := Lib.hid hb1
  have HW1 := Lib.hid (hw1.trans (by rw [hwb]))
  rw [HW1.out] at HC
  unfold zcells at HC HW1 ⊢
  clear hw1 hwb hbb hb1 hs hg hR1 hR
  go_enter Tryz.func25, Tryz.ntmps25
  go_wp2_with fail
  refine HC.out.mono ?_
  rintro r w2 ⟨b, L', rfl, ho, -, hb⟩
  have hle : b = true → x.vals ≤ 400 ∧ x.cost ≤ 3300 * 400 := fun h => by have := hb h; omega
  rw [← HW1.out] at ho
  have HB2 := Lib.hid (below_one HB1.out ho (by omega))
  clear ho hb
  go_wp2_with fail
  go_ret
  exact ⟨b, rfl, HB2.out, hle⟩
end Go.Proofs.YtabcaljnpahgpaaGreatDoor
