/-
  'args', 'dirs', 'sels' of package rubriclaw09, walked: what they let by is small.
-/
import Derived.Test.YtabcaljnpahgpaaGreatDoorDq
import Derived.Test.YtabcaljnpahgpaaGreatDoorFw
namespace Go.Proofs.YtabcaljnpahgpaaGreatDoor
set_option linter.unusedSimpArgs false
set_option linter.unusedVariables false
open Go Go.RowKit

namespace Dq
/-- A small argument. -/
def smA (x : Vl.ZA) : Prop := x.name.length ≤ 200 ∧ x.v.vals ≤ 400 ∧ x.v.cost ≤ 3300 * 400
def cntA : List Vl.ZA → Nat := List.length
def cntD : List Dir → Nat
  | [] => 0
  | x :: r => 1 + x.args.length + cntD r
def smD (x : Dir) : Prop := x.name.length ≤ 200 ∧ ∀ a ∈ x.args, smA a
mutual
def Sel.cnt : Sel → Nat
  | .mk _ _ _ a d s _ => 1 + a.length + cntD d + Sel.cntl s
def Sel.cntl : List Sel → Nat
  | [] => 0
  | x :: r => Sel.cnt x + Sel.cntl r
end
theorem Sel.cnt_eq (x : Sel) : x.cnt = 1 + x.args.length + cntD x.dirs + Sel.cntl x.sels := by cases x; rw [Sel.cnt]; rfl
mutual
def Sel.sm : Sel → Prop
  | .mk _ al n a d s _ => al.length ≤ 200 ∧ n.length ≤ 200 ∧ (∀ x ∈ a, smA x) ∧ (∀ x ∈ d, smD x) ∧ Sel.sml s
def Sel.sml : List Sel → Prop
  | [] => True
  | x :: r => Sel.sm x ∧ Sel.sml r
end
theorem Sel.sml_iff : ∀ {l : List Sel}, Sel.sml l ↔ ∀ x ∈ l, x.sm
  | [] => by rw [Sel.sml]; simp
  | x :: r => by rw [Sel.sml, Sel.sml_iff (l := r)]; simp
theorem Sel.sm_eq (x : Sel) : x.sm ↔ (x.nick.length ≤ 200 ∧ x.name.length ≤ 200 ∧ (∀ y ∈ x.args, smA y) ∧ (∀ y ∈ x.dirs, smD y) ∧ ∀ y ∈ x.sels, y.sm) := by
  cases x; rw [Sel.sm, Sel.sml_iff]; rfl
theorem cntD_drop : ∀ (l : List Dir) (j : Nat), cntD (l.drop j) ≤ cntD l
  | [], j => by rw [List.drop_nil]; exact Nat.le_refl _
  | x :: r, 0 => Nat.le_refl _
  | x :: r, j + 1 => by
    have := cntD_drop r j
    rw [List.drop_succ_cons, cntD]; omega
theorem cntl_drop : ∀ (l : List Sel) (j : Nat), Sel.cntl (l.drop j) ≤ Sel.cntl l
  | [], j => by rw [List.drop_nil]; exact Nat.le_refl _
  | x :: r, 0 => Nat.le_refl _
  | x :: r, j + 1 => by
    have := cntl_drop r j
    rw [List.drop_succ_cons, Sel.cntl]; omega
theorem cntA_drop (l : List Vl.ZA) (j : Nat) : cntA (l.drop j) ≤ cntA l := by unfold cntA; rw [List.length_drop]; omega
theorem cntA_cons (x : Vl.ZA) (r : List Vl.ZA) : cntA (x :: r) = 1 + cntA r := by unfold cntA; rw [List.length_cons]; omega
theorem cntD_cons (x : Dir) (r : List Dir) : cntD (x :: r) = (1 + x.args.length) + cntD r := by rw [cntD]
theorem cntl_cons (x : Sel) (r : List Sel) : Sel.cntl (x :: r) = (1 + x.args.length + cntD x.dirs + Sel.cntl x.sels) + Sel.cntl r := by rw [Sel.cntl, Sel.cnt_eq]
theorem cntl_mem : ∀ {l : List Sel} {x : Sel}, x ∈ l → x.cnt ≤ Sel.cntl l
  | y :: r, x, h => by
    rw [Sel.cntl]
    rcases List.mem_cons.1 h with rfl | h
    · omega
    · have := cntl_mem h; omega
/-- What is left behind a list. -/
def Post (n g : Nat) (S : Prop) (L : Int) (w : World) (r : Ending) (w' : World) : Prop := ∃ (b : Bool) (L' : Int), r = .returned (.bool b) ∧ OneI g L' w w' ∧ L' ≤ 400 ∧ (b = true → L' = L - n ∧ 0 ≤ L' ∧ S)
end Dq
theorem OneI.of_below {g : Nat} {L : Int} {w0 w w' : World} (h : OneI g L w0 w) (hb : Below w.heap.size w w') : OneI g L w0 w' :=
  ⟨h.but.trans (But.of_below hb), h.lt, (hb.block g (Nat.lt_of_lt_of_le h.lt h.but.size)).trans h.cell⟩
theorem take_mem {α : Type} {l : List α} {j : Nat} {p : α} {q : α → Prop} (hp : l[j]? = some p) (h : ∀ x ∈ l.take j, q x) (hq : q p) : ∀ x ∈ l.take (j + 1), q x := by
  rw [List.take_add_one, hp]
  intro x hx
  rcases List.mem_append.1 hx with hx | hx
  · exact h x hx
  · rw [List.mem_singleton.1 hx]; exact hq
set_option maxHeartbeats 4000000 in
set_option maxRecDepth 100000 in
theorem dqArgs_any (l : List Vl.ZA) (hf : ∀ x ∈ l, x.fits) (a : Option Addr) (c : Nat) (w : World) (g : Nat) (L : Int) (hL0 : 0 ≤ L) (hL4 : L ≤ 400) (hlen : l.length ≤ 9223372036854775807) (hg : w.heap[g]? = some (.cells #[.int .i64 L] 3 (0, 0)))
    (hR : Reads w (fun x => x ≠ g) (.seq 7 (l.map Vl.ZA.d)) [.slice a l.length c]) :
    Calls Tryz.prog 87 #[.slice a l.length c, .pointer (some ⟨g, 0, none⟩)] w (Dq.Post (Dq.cntA l) g (∀ x ∈ l, Dq.smA x) L w) := by
  have HF := Lib.hid hf
  have HR := Lib.hid hR
  have HG : Hid (OneI g L w w) := Lib.hid ⟨But.refl _ _, block_lt hg, hg⟩
  have hgl := block_lt hg
  
  
  clear hf hR hg
  go_enter Tryz.func87, Tryz.ntmps87
  go_wp2_with fail
  go_loopg [9] (l.length + 1) (fun k i wr => ∃ (j : Nat) (Lr : Int), k = l.length + 1 - j ∧ j ≤ l.length ∧ i = .int .i64 j ∧ Lr = L - Dq.cntA l + Dq.cntA (l.drop j) ∧ 0 ≤ Lr ∧ (∀ x ∈ l.take j, Dq.smA x) ∧ OneI g Lr w wr)
  case atStart => exact ⟨0, L, rfl, Nat.zero_le _, rfl, by rw [List.drop_zero]; omega, hL0, by simp, HG.out⟩
  case round =>
    obtain ⟨j, Lr, hk, hj, rfl, hLr, hLr0, hsm, ho⟩ := hrel
    have HK := Lib.hid hk
    have HLR := Lib.hid hLr
    have HSM := Lib.hid hsm
    have HO := Lib.hid ho
    have hszr := ho.but.size
    clear hk hLr hsm ho
    by_cases hjl : j < l.length
    · have e6 : decide (j < l.length) = true := decide_eq_true hjl
      obtain ⟨p, hp⟩ : ∃ z, l[j]? = some z := ⟨l[j], List.getElem?_eq_getElem hjl⟩
      have hdx : l.drop j = p :: l.drop (j + 1) := by rw [List.drop_eq_getElem_cons hjl]; rw [List.getElem?_eq_getElem hjl] at hp; rw [Option.some.inj hp]
      have HL2 : Hid (Lr = L - Dq.cntA l + ((1) + Dq.cntA (l.drop (j + 1)) : Nat)) := by have := HLR.out; rw [hdx, Dq.cntA_cons] at this; exact Lib.hid this
      have hLr4 : Lr ≤ 400 := by have := HLR.out; have h3 := Dq.cntA_drop l j; omega
      have HMEM := Lib.hid (List.mem_of_getElem? hp)
      have HPF := Lib.hid (HF.out p HMEM.out)
      obtain ⟨gi, o, cs, ha, hgx, hgil, hlen', hcell, hd⟩ := HR.out.el j p.d (by rw [List.getElem?_map, hp]; rfl)
      obtain ⟨s1, s2, u1, u2, rfl, hdv⟩ := ZA_open hd
      have k0 : wr.cell? ⟨gi, o + j * 7, none⟩ = _ := (HO.out.but.cell (p := ⟨gi, o + j * 7, none⟩) hgil hgx).trans (hcell 0 _ rfl)
      have k1 : wr.cell? ⟨gi, o + j * 7 + 1, none⟩ = _ := (HO.out.but.cell (p := ⟨gi, o + j * 7 + 1, none⟩) hgil hgx).trans (hcell 1 _ rfl)
      have k2 : wr.cell? ⟨gi, o + j * 7 + 2, none⟩ = _ := (HO.out.but.cell (p := ⟨gi, o + j * 7 + 2, none⟩) hgil hgx).trans (hcell 2 _ rfl)
      have k3 : wr.cell? ⟨gi, o + j * 7 + 3, none⟩ = _ := (HO.out.but.cell (p := ⟨gi, o + j * 7 + 3, none⟩) hgil hgx).trans (hcell 3 _ rfl)
      have k4 : wr.cell? ⟨gi, o + j * 7 + 4, none⟩ = _ := (HO.out.but.cell (p := ⟨gi, o + j * 7 + 4, none⟩) hgil hgx).trans (hcell 4 _ rfl)
      have k5 : wr.cell? ⟨gi, o + j * 7 + 5, none⟩ = _ := (HO.out.but.cell (p := ⟨gi, o + j * 7 + 5, none⟩) hgil hgx).trans (hcell 5 _ rfl)
      have k6 : wr.cell? ⟨gi, o + j * 7 + 6, none⟩ = _ := (HO.out.but.cell (p := ⟨gi, o + j * 7 + 6, none⟩) hgil hgx).trans (hcell 6 _ rfl)
      subst ha
      obtain ⟨wb, hwb⟩ : ∃ q, q = wr.alloc (.cells #[.string ⟨p.name.toArray⟩, .int .i64 p.v.kind, .string ⟨p.v.text.toArray⟩, .slice s1 p.v.items.length u1, .slice s2 p.v.fields.length u2, .int .i64 p.v.at_, .int .i64 p.at_] 116) := ⟨_, rfl⟩
      have hgb : wb.heap[g]? = some (.cells #[.int .i64 Lr] 3 (0, 0)) := by rw [hwb, Lib.alloc_old _ _ _ (by omega)]; exact HO.out.cell
      have hXb : wb.heap[wr.heap.size]? = some (.cells #[.string ⟨p.name.toArray⟩, .int .i64 p.v.kind, .string ⟨p.v.text.toArray⟩, .slice s1 p.v.items.length u1, .slice s2 p.v.fields.length u2, .int .i64 p.v.at_, .int .i64 p.at_] 116 (0, 0)) := by rw [hwb]; exact heap_at_new _ _
      have hsb : wb.heap.size = wr.heap.size + 1 := by rw [hwb]; simp
      have hgne : g ≠ wr.heap.size := by omega
      obtain ⟨w1, hw1⟩ : ∃ q, q = wb.setCell ⟨g, 0, none⟩ (.int .i64 (Lr - 1)) := ⟨_, rfl⟩
      have hg1 : w1.heap[g]? = some (.cells #[.int .i64 (Lr - 1)] 3 (0, 0)) := by rw [hw1]; exact heap_set1 hgb
      have hX1 : w1.heap[wr.heap.size]? = some (.cells #[.string ⟨p.name.toArray⟩, .int .i64 p.v.kind, .string ⟨p.v.text.toArray⟩, .slice s1 p.v.items.length u1, .slice s2 p.v.fields.length u2, .int .i64 p.v.at_, .int .i64 p.at_] 116 (0, 0)) := by rw [hw1, heap_set_ne (fun e => hgne e.symm)]; exact hXb
      have hs1 : w1.heap.size = wr.heap.size + 1 := by rw [hw1, size_set]; exact hsb
      have hO1 : OneI g (Lr - 1) wr w1 := by
        refine ⟨?_, by omega, hg1⟩
        rw [hw1, hwb]
        exact But.setCell (X := fun x => x = g) (But.alloc (But.refl _ _) _) (p := ⟨g, 0, none⟩) (.inl rfl) _
      have f0 := blk_cell hgb 0 (.int .i64 Lr) rfl
      have f1 := fz_of hgb 0
      rw [hwb] at f0 f1
      have f9 := blk_cell hg1 0 (.int .i64 (Lr - 1)) rfl
      have HST := Lib.hid ((HO.out.trans hO1).stands)
      have HX1 := Lib.hid hX1
      have HO1 := Lib.hid (HO.out.trans hO1)
      have HW1 := Lib.hid hw1
      rw [hwb] at HW1
      have HP := Lib.hid hp
      clear hp hdx hlen' hcell hw1 hg1 hX1 hO1 hgb hwb hXb hsb
      have z0 := blk_cell HX1.out 0 (.string ⟨p.name.toArray⟩) rfl
      have z1 := blk_cell HX1.out 1 (.int .i64 p.v.kind) rfl
      have z2 := blk_cell HX1.out 2 (.string ⟨p.v.text.toArray⟩) rfl
      have z3 := blk_cell HX1.out 3 (.slice s1 p.v.items.length u1) rfl
      have z4 := blk_cell HX1.out 4 (.slice s2 p.v.fields.length u2) rfl
      have z5 := blk_cell HX1.out 5 (.int .i64 p.v.at_) rfl
      rw [HW1.out] at f9 z0 z1 z2 z3 z4 z5
      by_cases h20 : Lr - 1 < 0
      · have e20 : decide ((Lr - 1 : Int) < 0) = true := decide_eq_true (by omega)
        clear h20
        go_wp2_with fail
        go_ret
        exact ⟨false, Lr - 1, rfl, by rw [← HW1.out]; exact HO1.out, by omega, fun h => by cases h⟩
      have e20 : decide ((Lr - 1 : Int) < 0) = false := decide_eq_false (by omega)
      by_cases h21 : 200 < p.name.length
      · have e21 : decide ((200 : Int) < (p.name.length : Int)) = true := decide_eq_true (by omega)
        clear h21
        go_wp2_with fail
        go_ret
        exact ⟨false, Lr - 1, rfl, by rw [← HW1.out]; exact HO1.out, by omega, fun h => by cases h⟩
      have e21 : decide ((200 : Int) < (p.name.length : Int)) = false := decide_eq_false (by omega)
      have hpf := HPF.out
      rw [Vl.ZA.fits_eq] at hpf
      have hpl := hpf.1
      unfold maxLen at hpl
      have HCALL := Lib.hid (few_any p.v hpf.2 s1 s2 u1 u2 w1 ((hdv.to HST.out).to (Stands.sub _ (fun _ _ _ => trivial))))
      clear hpf
      rw [HW1.out] at HCALL
      unfold zcells at HCALL
      go_wp2_with fail
      refine HCALL.out.mono ?_
      rw [← HW1.out]
      rintro r w2 ⟨b, rfl, hb2, hle⟩
      have HLE2 := Lib.hid hle
      have HO2 := Lib.hid (HO1.out.of_below hb2)
      have HX2 : Hid (w2.heap[wr.heap.size]? = _) := Lib.hid ((hb2.block wr.heap.size (by omega)).trans HX1.out)
      have hs2 := hb2.size
      clear hle hb2 z0 z1 z2 z3 z4 z5 HCALL f0 f1 f9 k0 k1 k2 k3 k4 k5 k6
      cases b
      · go_wp2_with fail
        go_ret
        exact ⟨false, Lr - 1, rfl, HO2.out, by omega, fun h => by cases h⟩
      have HS2 := Lib.hid (HLE2.out (by trivial))
      have hsmp : Dq.smA p := ⟨by omega, HS2.out.1, HS2.out.2⟩
      have hLL : Lr - 1 = L - Dq.cntA l + (Dq.cntA (l.drop (j + 1)) : Nat) := by
        have := HL2.out
        omega
      have HLL := Lib.hid hLL
      clear hLL
      go_wp2_with fail
      go_roundg (l.length + 1 - (j + 1))
      case measure => rw [HK.out]; omega
      case rel => exact ⟨j + 1, Lr - 1, rfl, hjl, by go_num, HLL.out, by omega, take_mem HP.out HSM.out hsmp, HO2.out⟩
    · have e6 : decide (j < l.length) = false := decide_eq_false hjl
      have hLL : Lr = L - Dq.cntA l := by
        have := HLR.out
        rw [List.drop_eq_nil_of_le (by omega)] at this
        have h0 : Dq.cntA ([] : List Vl.ZA) = 0 := by first | rfl | rw [Dq.cntA]
        omega
      have hsm2 : ∀ x ∈ l, Dq.smA x := by
        have := HSM.out
        rwa [List.take_of_length_le (by omega)] at this
      go_wp2_with fail
      go_ret
      exact ⟨true, Lr, rfl, HO.out, by omega, fun _ => ⟨hLL, hLr0, hsm2⟩⟩
set_option maxHeartbeats 4000000 in
set_option maxRecDepth 100000 in
theorem dqDirs_any (l : List Dq.Dir) (hf : ∀ x ∈ l, x.fits) (a : Option Addr) (c : Nat) (w : World) (g : Nat) (L : Int) (hL0 : 0 ≤ L) (hL4 : L ≤ 400) (hlen : l.length ≤ 9223372036854775807) (hg : w.heap[g]? = some (.cells #[.int .i64 L] 3 (0, 0)))
    (hR : Reads w (fun x => x ≠ g) (.seq 3 (l.map Dq.Dir.d)) [.slice a l.length c]) :
    Calls Tryz.prog 43 #[.slice a l.length c, .pointer (some ⟨g, 0, none⟩)] w (Dq.Post (Dq.cntD l) g (∀ x ∈ l, Dq.smD x) L w) := by
  have HF := Lib.hid hf
  have HR := Lib.hid hR
  have HG : Hid (OneI g L w w) := Lib.hid ⟨But.refl _ _, block_lt hg, hg⟩
  have hgl := block_lt hg
  
  
  clear hf hR hg
  go_enter Tryz.func43, Tryz.ntmps43
  go_wp2_with fail
  go_loopg [9] (l.length + 1) (fun k i wr => ∃ (j : Nat) (Lr : Int), k = l.length + 1 - j ∧ j ≤ l.length ∧ i = .int .i64 j ∧ Lr = L - Dq.cntD l + Dq.cntD (l.drop j) ∧ 0 ≤ Lr ∧ (∀ x ∈ l.take j, Dq.smD x) ∧ OneI g Lr w wr)
  case atStart => exact ⟨0, L, rfl, Nat.zero_le _, rfl, by rw [List.drop_zero]; omega, hL0, by simp, HG.out⟩
  case round =>
    obtain ⟨j, Lr, hk, hj, rfl, hLr, hLr0, hsm, ho⟩ := hrel
    have HK := Lib.hid hk
    have HLR := Lib.hid hLr
    have HSM := Lib.hid hsm
    have HO := Lib.hid ho
    have hszr := ho.but.size
    clear hk hLr hsm ho
    by_cases hjl : j < l.length
    · have e6 : decide (j < l.length) = true := decide_eq_true hjl
      obtain ⟨p, hp⟩ : ∃ z, l[j]? = some z := ⟨l[j], List.getElem?_eq_getElem hjl⟩
      have hdx : l.drop j = p :: l.drop (j + 1) := by rw [List.drop_eq_getElem_cons hjl]; rw [List.getElem?_eq_getElem hjl] at hp; rw [Option.some.inj hp]
      have HL2 : Hid (Lr = L - Dq.cntD l + ((1 + p.args.length) + Dq.cntD (l.drop (j + 1)) : Nat)) := by have := HLR.out; rw [hdx, Dq.cntD_cons] at this; exact Lib.hid this
      have hLr4 : Lr ≤ 400 := by have := HLR.out; have h3 := Dq.cntD_drop l j; omega
      have HMEM := Lib.hid (List.mem_of_getElem? hp)
      have HPF := Lib.hid (HF.out p HMEM.out)
      obtain ⟨gi, o, cs, ha, hgx, hgil, hlen', hcell, hd⟩ := HR.out.el j p.d (by rw [List.getElem?_map, hp]; rfl)
      obtain ⟨s1, u1, rfl, hda⟩ := Dq.Dir.opened hd
      have k0 : wr.cell? ⟨gi, o + j * 3, none⟩ = _ := (HO.out.but.cell (p := ⟨gi, o + j * 3, none⟩) hgil hgx).trans (hcell 0 _ rfl)
      have k1 : wr.cell? ⟨gi, o + j * 3 + 1, none⟩ = _ := (HO.out.but.cell (p := ⟨gi, o + j * 3 + 1, none⟩) hgil hgx).trans (hcell 1 _ rfl)
      have k2 : wr.cell? ⟨gi, o + j * 3 + 2, none⟩ = _ := (HO.out.but.cell (p := ⟨gi, o + j * 3 + 2, none⟩) hgil hgx).trans (hcell 2 _ rfl)
      subst ha
      obtain ⟨wb, hwb⟩ : ∃ q, q = wr.alloc (.cells #[.string ⟨p.name.toArray⟩, .slice s1 p.args.length u1, .int .i64 p.at_] 146) := ⟨_, rfl⟩
      have hgb : wb.heap[g]? = some (.cells #[.int .i64 Lr] 3 (0, 0)) := by rw [hwb, Lib.alloc_old _ _ _ (by omega)]; exact HO.out.cell
      have hXb : wb.heap[wr.heap.size]? = some (.cells #[.string ⟨p.name.toArray⟩, .slice s1 p.args.length u1, .int .i64 p.at_] 146 (0, 0)) := by rw [hwb]; exact heap_at_new _ _
      have hsb : wb.heap.size = wr.heap.size + 1 := by rw [hwb]; simp
      have hgne : g ≠ wr.heap.size := by omega
      obtain ⟨w1, hw1⟩ : ∃ q, q = wb.setCell ⟨g, 0, none⟩ (.int .i64 (Lr - 1)) := ⟨_, rfl⟩
      have hg1 : w1.heap[g]? = some (.cells #[.int .i64 (Lr - 1)] 3 (0, 0)) := by rw [hw1]; exact heap_set1 hgb
      have hX1 : w1.heap[wr.heap.size]? = some (.cells #[.string ⟨p.name.toArray⟩, .slice s1 p.args.length u1, .int .i64 p.at_] 146 (0, 0)) := by rw [hw1, heap_set_ne (fun e => hgne e.symm)]; exact hXb
      have hs1 : w1.heap.size = wr.heap.size + 1 := by rw [hw1, size_set]; exact hsb
      have hO1 : OneI g (Lr - 1) wr w1 := by
        refine ⟨?_, by omega, hg1⟩
        rw [hw1, hwb]
        exact But.setCell (X := fun x => x = g) (But.alloc (But.refl _ _) _) (p := ⟨g, 0, none⟩) (.inl rfl) _
      have f0 := blk_cell hgb 0 (.int .i64 Lr) rfl
      have f1 := fz_of hgb 0
      rw [hwb] at f0 f1
      have f9 := blk_cell hg1 0 (.int .i64 (Lr - 1)) rfl
      have HST := Lib.hid ((HO.out.trans hO1).stands)
      have HX1 := Lib.hid hX1
      have HO1 := Lib.hid (HO.out.trans hO1)
      have HW1 := Lib.hid hw1
      rw [hwb] at HW1
      have HP := Lib.hid hp
      clear hp hdx hlen' hcell hw1 hg1 hX1 hO1 hgb hwb hXb hsb
      have z0 := blk_cell HX1.out 0 (.string ⟨p.name.toArray⟩) rfl
      have z1 := blk_cell HX1.out 1 (.slice s1 p.args.length u1) rfl
      rw [HW1.out] at f9 z0 z1
      by_cases h20 : Lr - 1 < 0
      · have e20 : decide ((Lr - 1 : Int) < 0) = true := decide_eq_true (by omega)
        clear h20
        go_wp2_with fail
        go_ret
        exact ⟨false, Lr - 1, rfl, by rw [← HW1.out]; exact HO1.out, by omega, fun h => by cases h⟩
      have e20 : decide ((Lr - 1 : Int) < 0) = false := decide_eq_false (by omega)
      by_cases h21 : 200 < p.name.length
      · have e21 : decide ((200 : Int) < (p.name.length : Int)) = true := decide_eq_true (by omega)
        clear h21
        go_wp2_with fail
        go_ret
        exact ⟨false, Lr - 1, rfl, by rw [← HW1.out]; exact HO1.out, by omega, fun h => by cases h⟩
      have e21 : decide ((200 : Int) < (p.name.length : Int)) = false := decide_eq_false (by omega)
      have hpl : p.name.length ≤ 9223372036854775807 := HPF.out.1
      have HCALL := Lib.hid (dqArgs_any p.args HPF.out.2.2 s1 u1 w1 g (Lr - 1) (by omega) (by omega) (by have := HPF.out.2.1; unfold maxLen at this; omega) HO1.out.cell (hda.to HST.out))
      rw [HW1.out] at HCALL
      go_wp2_with fail
      refine HCALL.out.mono ?_
      rw [← HW1.out]
      rintro r w2 ⟨b, L2, rfl, ho2, hl2, hle⟩
      have HLE2 := Lib.hid hle
      have HO2 := Lib.hid (HO1.out.trans ho2)
      have HX2 : Hid (w2.heap[wr.heap.size]? = _) := Lib.hid ((ho2.but.block wr.heap.size (by omega) (fun e => hgne e.symm)).trans HX1.out)
      have hs2 := ho2.but.size
      clear hle ho2 z0 z1 HCALL f0 f1 f9 k0 k1 k2
      cases b
      · go_wp2_with fail
        go_ret
        exact ⟨false, L2, rfl, HO2.out, by omega, fun h => by cases h⟩
      obtain ⟨hq2, hq02, hqs2⟩ := HLE2.out (by trivial)
      have HQ2 := Lib.hid hq2
      have HS2 := Lib.hid hqs2
      have hl42 : L2 ≤ 400 := hl2
      clear hq2 hqs2
      have hsmp : Dq.smD p := ⟨by omega, HS2.out⟩
      have hLL : L2 = L - Dq.cntD l + (Dq.cntD (l.drop (j + 1)) : Nat) := by
        have := HL2.out
        have hA : Dq.cntA p.args = p.args.length := rfl; have q2 := HQ2.out; omega
      have HLL := Lib.hid hLL
      clear hLL
      go_wp2_with fail
      go_roundg (l.length + 1 - (j + 1))
      case measure => rw [HK.out]; omega
      case rel => exact ⟨j + 1, L2, rfl, hjl, by go_num, HLL.out, by omega, take_mem HP.out HSM.out hsmp, HO2.out⟩
    · have e6 : decide (j < l.length) = false := decide_eq_false hjl
      have hLL : Lr = L - Dq.cntD l := by
        have := HLR.out
        rw [List.drop_eq_nil_of_le (by omega)] at this
        have h0 : Dq.cntD ([] : List Dq.Dir) = 0 := by first | rfl | rw [Dq.cntD]
        omega
      have hsm2 : ∀ x ∈ l, Dq.smD x := by
        have := HSM.out
        rwa [List.take_of_length_le (by omega)] at this
      go_wp2_with fail
      go_ret
      exact ⟨true, Lr, rfl, HO.out, by omega, fun _ => ⟨hLL, hLr0, hsm2⟩⟩
/-- 'sels', of less than N in all. -/
def DqSelsC (N : Nat) : Prop := ∀ (l : List Dq.Sel), Dq.Sel.cntl l < N → (∀ x ∈ l, x.fits) → ∀ (a : Option Addr) (c : Nat) (w : World) (g : Nat) (L deep : Int), 0 ≤ L → L ≤ 400 → l.length ≤ 9223372036854775807 → w.heap[g]? = some (.cells #[.int .i64 L] 3 (0, 0)) →
  Reads w (fun x => x ≠ g) (.seq 7 (l.map Dq.Sel.d)) [.slice a l.length c] →
  Calls Tryz.prog 44 #[.slice a l.length c, .pointer (some ⟨g, 0, none⟩), .int .i64 deep] w (Dq.Post (Dq.Sel.cntl l) g (∀ x ∈ l, x.sm) L w)
set_option maxHeartbeats 4000000 in
set_option maxRecDepth 100000 in
theorem dqSels_step (l : List Dq.Sel) (N : Nat) (IH : DqSelsC N) (hN : Dq.Sel.cntl l < N + 1) (hf : ∀ x ∈ l, x.fits) (a : Option Addr) (c : Nat) (w : World) (g : Nat) (L deep : Int) (hL0 : 0 ≤ L) (hL4 : L ≤ 400) (hlen : l.length ≤ 9223372036854775807) (hg : w.heap[g]? = some (.cells #[.int .i64 L] 3 (0, 0)))
    (hR : Reads w (fun x => x ≠ g) (.seq 7 (l.map Dq.Sel.d)) [.slice a l.length c]) :
    Calls Tryz.prog 44 #[.slice a l.length c, .pointer (some ⟨g, 0, none⟩), .int .i64 deep] w (Dq.Post (Dq.Sel.cntl l) g (∀ x ∈ l, Dq.Sel.sm x) L w) := by
  have HF := Lib.hid hf
  have HR := Lib.hid hR
  have HG : Hid (OneI g L w w) := Lib.hid ⟨But.refl _ _, block_lt hg, hg⟩
  have hgl := block_lt hg
  have HIH := Lib.hid IH
  have HN := Lib.hid hN
  clear hf hR hg IH hN
  go_enter Tryz.func44, Tryz.ntmps44
  go_wp2_with fail
  go_loopg [11] (l.length + 1) (fun k i wr => ∃ (j : Nat) (Lr : Int), k = l.length + 1 - j ∧ j ≤ l.length ∧ i = .int .i64 j ∧ Lr = L - Dq.Sel.cntl l + Dq.Sel.cntl (l.drop j) ∧ 0 ≤ Lr ∧ (∀ x ∈ l.take j, Dq.Sel.sm x) ∧ OneI g Lr w wr)
  case atStart => exact ⟨0, L, rfl, Nat.zero_le _, rfl, by rw [List.drop_zero]; omega, hL0, by simp, HG.out⟩
  case round =>
    obtain ⟨j, Lr, hk, hj, rfl, hLr, hLr0, hsm, ho⟩ := hrel
    have HK := Lib.hid hk
    have HLR := Lib.hid hLr
    have HSM := Lib.hid hsm
    have HO := Lib.hid ho
    have hszr := ho.but.size
    clear hk hLr hsm ho
    by_cases hjl : j < l.length
    · have e6 : decide (j < l.length) = true := decide_eq_true hjl
      obtain ⟨p, hp⟩ : ∃ z, l[j]? = some z := ⟨l[j], List.getElem?_eq_getElem hjl⟩
      have hdx : l.drop j = p :: l.drop (j + 1) := by rw [List.drop_eq_getElem_cons hjl]; rw [List.getElem?_eq_getElem hjl] at hp; rw [Option.some.inj hp]
      have HL2 : Hid (Lr = L - Dq.Sel.cntl l + ((1 + p.args.length + Dq.cntD p.dirs + Dq.Sel.cntl p.sels) + Dq.Sel.cntl (l.drop (j + 1)) : Nat)) := by have := HLR.out; rw [hdx, Dq.cntl_cons] at this; exact Lib.hid this
      have hLr4 : Lr ≤ 400 := by have := HLR.out; have h3 := Dq.cntl_drop l j; omega
      have HMEM := Lib.hid (List.mem_of_getElem? hp)
      have HPF := Lib.hid (HF.out p HMEM.out)
      obtain ⟨gi, o, cs, ha, hgx, hgil, hlen', hcell, hd⟩ := HR.out.el j p.d (by rw [List.getElem?_map, hp]; rfl)
      obtain ⟨s1, s2, s3, u1, u2, u3, rfl, hda, hdd, hds⟩ := Dq.Sel.opened hd
      have k0 : wr.cell? ⟨gi, o + j * 7, none⟩ = _ := (HO.out.but.cell (p := ⟨gi, o + j * 7, none⟩) hgil hgx).trans (hcell 0 _ rfl)
      have k1 : wr.cell? ⟨gi, o + j * 7 + 1, none⟩ = _ := (HO.out.but.cell (p := ⟨gi, o + j * 7 + 1, none⟩) hgil hgx).trans (hcell 1 _ rfl)
      have k2 : wr.cell? ⟨gi, o + j * 7 + 2, none⟩ = _ := (HO.out.but.cell (p := ⟨gi, o + j * 7 + 2, none⟩) hgil hgx).trans (hcell 2 _ rfl)
      have k3 : wr.cell? ⟨gi, o + j * 7 + 3, none⟩ = _ := (HO.out.but.cell (p := ⟨gi, o + j * 7 + 3, none⟩) hgil hgx).trans (hcell 3 _ rfl)
      have k4 : wr.cell? ⟨gi, o + j * 7 + 4, none⟩ = _ := (HO.out.but.cell (p := ⟨gi, o + j * 7 + 4, none⟩) hgil hgx).trans (hcell 4 _ rfl)
      have k5 : wr.cell? ⟨gi, o + j * 7 + 5, none⟩ = _ := (HO.out.but.cell (p := ⟨gi, o + j * 7 + 5, none⟩) hgil hgx).trans (hcell 5 _ rfl)
      have k6 : wr.cell? ⟨gi, o + j * 7 + 6, none⟩ = _ := (HO.out.but.cell (p := ⟨gi, o + j * 7 + 6, none⟩) hgil hgx).trans (hcell 6 _ rfl)
      subst ha
      obtain ⟨wb, hwb⟩ : ∃ q, q = wr.alloc (.cells #[.int .i64 p.kind, .string ⟨p.nick.toArray⟩, .string ⟨p.name.toArray⟩, .slice s1 p.args.length u1, .slice s2 p.dirs.length u2, .slice s3 p.sels.length u3, .int .i64 p.at_] 92) := ⟨_, rfl⟩
      have hgb : wb.heap[g]? = some (.cells #[.int .i64 Lr] 3 (0, 0)) := by rw [hwb, Lib.alloc_old _ _ _ (by omega)]; exact HO.out.cell
      have hXb : wb.heap[wr.heap.size]? = some (.cells #[.int .i64 p.kind, .string ⟨p.nick.toArray⟩, .string ⟨p.name.toArray⟩, .slice s1 p.args.length u1, .slice s2 p.dirs.length u2, .slice s3 p.sels.length u3, .int .i64 p.at_] 92 (0, 0)) := by rw [hwb]; exact heap_at_new _ _
      have hsb : wb.heap.size = wr.heap.size + 1 := by rw [hwb]; simp
      have hgne : g ≠ wr.heap.size := by omega
      obtain ⟨w1, hw1⟩ : ∃ q, q = wb.setCell ⟨g, 0, none⟩ (.int .i64 (Lr - 1)) := ⟨_, rfl⟩
      have hg1 : w1.heap[g]? = some (.cells #[.int .i64 (Lr - 1)] 3 (0, 0)) := by rw [hw1]; exact heap_set1 hgb
      have hX1 : w1.heap[wr.heap.size]? = some (.cells #[.int .i64 p.kind, .string ⟨p.nick.toArray⟩, .string ⟨p.name.toArray⟩, .slice s1 p.args.length u1, .slice s2 p.dirs.length u2, .slice s3 p.sels.length u3, .int .i64 p.at_] 92 (0, 0)) := by rw [hw1, heap_set_ne (fun e => hgne e.symm)]; exact hXb
      have hs1 : w1.heap.size = wr.heap.size + 1 := by rw [hw1, size_set]; exact hsb
      have hO1 : OneI g (Lr - 1) wr w1 := by
        refine ⟨?_, by omega, hg1⟩
        rw [hw1, hwb]
        exact But.setCell (X := fun x => x = g) (But.alloc (But.refl _ _) _) (p := ⟨g, 0, none⟩) (.inl rfl) _
      have f0 := blk_cell hgb 0 (.int .i64 Lr) rfl
      have f1 := fz_of hgb 0
      rw [hwb] at f0 f1
      have f9 := blk_cell hg1 0 (.int .i64 (Lr - 1)) rfl
      have HST := Lib.hid ((HO.out.trans hO1).stands)
      have HX1 := Lib.hid hX1
      have HO1 := Lib.hid (HO.out.trans hO1)
      have HW1 := Lib.hid hw1
      rw [hwb] at HW1
      have HP := Lib.hid hp
      clear hp hdx hlen' hcell hw1 hg1 hX1 hO1 hgb hwb hXb hsb
      have z1 := blk_cell HX1.out 1 (.string ⟨p.nick.toArray⟩) rfl
      have z2 := blk_cell HX1.out 2 (.string ⟨p.name.toArray⟩) rfl
      have z3 := blk_cell HX1.out 3 (.slice s1 p.args.length u1) rfl
      have z4 := blk_cell HX1.out 4 (.slice s2 p.dirs.length u2) rfl
      have z5 := blk_cell HX1.out 5 (.slice s3 p.sels.length u3) rfl
      rw [HW1.out] at f9 z1 z2 z3 z4 z5
      by_cases h20 : Lr - 1 < 0
      · have e20 : decide ((Lr - 1 : Int) < 0) = true := decide_eq_true (by omega)
        clear h20
        go_wp2_with fail
        go_ret
        exact ⟨false, Lr - 1, rfl, by rw [← HW1.out]; exact HO1.out, by omega, fun h => by cases h⟩
      have e20 : decide ((Lr - 1 : Int) < 0) = false := decide_eq_false (by omega)
      by_cases h21 : 20 < deep
      · have e21 : decide ((20 : Int) < deep) = true := decide_eq_true (by omega)
        clear h21
        go_wp2_with fail
        go_ret
        exact ⟨false, Lr - 1, rfl, by rw [← HW1.out]; exact HO1.out, by omega, fun h => by cases h⟩
      have e21 : decide ((20 : Int) < deep) = false := decide_eq_false (by omega)
      by_cases h22 : 200 < p.name.length
      · have e22 : decide ((200 : Int) < (p.name.length : Int)) = true := decide_eq_true (by omega)
        clear h22
        go_wp2_with fail
        go_ret
        exact ⟨false, Lr - 1, rfl, by rw [← HW1.out]; exact HO1.out, by omega, fun h => by cases h⟩
      have e22 : decide ((200 : Int) < (p.name.length : Int)) = false := decide_eq_false (by omega)
      by_cases h23 : 200 < p.nick.length
      · have e23 : decide ((200 : Int) < (p.nick.length : Int)) = true := decide_eq_true (by omega)
        clear h23
        go_wp2_with fail
        go_ret
        exact ⟨false, Lr - 1, rfl, by rw [← HW1.out]; exact HO1.out, by omega, fun h => by cases h⟩
      have e23 : decide ((200 : Int) < (p.nick.length : Int)) = false := decide_eq_false (by omega)
      have hpf := (Dq.Sel.fits_eq p).1 HPF.out
      have hp1 := hpf.2.1
      have hp2 := hpf.2.2.1
      unfold maxLen at hp1 hp2
      have HCALL := Lib.hid (dqArgs_any p.args hpf.2.2.2.1.2 s1 u1 w1 g (Lr - 1) (by omega) (by omega) (by have := hpf.2.2.2.1.1; unfold maxLen at this; omega) HO1.out.cell (hda.to HST.out))
      clear hpf
      rw [HW1.out] at HCALL
      go_wp2_with fail
      refine HCALL.out.mono ?_
      rw [← HW1.out]
      rintro r w2 ⟨b, L2, rfl, ho2, hl2, hle⟩
      have HLE2 := Lib.hid hle
      have HO2 := Lib.hid (HO1.out.trans ho2)
      have HX2 : Hid (w2.heap[wr.heap.size]? = _) := Lib.hid ((ho2.but.block wr.heap.size (by omega) (fun e => hgne e.symm)).trans HX1.out)
      have hs2 := ho2.but.size
      clear hle ho2 z1 z2 z3 z4 z5 HCALL f0 f1 f9 k0 k1 k2 k3 k4 k5 k6
      cases b
      · go_wp2_with fail
        go_ret
        exact ⟨false, L2, rfl, HO2.out, by omega, fun h => by cases h⟩
      obtain ⟨hq2, hq02, hqs2⟩ := HLE2.out (by trivial)
      have HQ2 := Lib.hid hq2
      have HS2 := Lib.hid hqs2
      have hl42 : L2 ≤ 400 := hl2
      clear hq2 hqs2
      have z1 := blk_cell HX2.out 1 (.string ⟨p.nick.toArray⟩) rfl
      have z2 := blk_cell HX2.out 2 (.string ⟨p.name.toArray⟩) rfl
      have z3 := blk_cell HX2.out 3 (.slice s1 p.args.length u1) rfl
      have z4 := blk_cell HX2.out 4 (.slice s2 p.dirs.length u2) rfl
      have z5 := blk_cell HX2.out 5 (.slice s3 p.sels.length u3) rfl
      have hpf := (Dq.Sel.fits_eq p).1 HPF.out
      have HCALL := Lib.hid (dqDirs_any p.dirs hpf.2.2.2.2.1.2 s2 u2 w2 g L2 hq02 hl42 (by have := hpf.2.2.2.2.1.1; unfold maxLen at this; omega) HO2.out.cell (hdd.to HO2.out.stands))
      clear hpf
      go_wp2_with fail
      refine HCALL.out.mono ?_
      rintro r w3 ⟨b, L3, rfl, ho3, hl3, hle⟩
      have HLE3 := Lib.hid hle
      have HO3 := Lib.hid (HO2.out.trans ho3)
      have HX3 : Hid (w3.heap[wr.heap.size]? = _) := Lib.hid ((ho3.but.block wr.heap.size (by omega) (fun e => hgne e.symm)).trans HX2.out)
      have hs3 := ho3.but.size
      clear hle ho3 z1 z2 z3 z4 z5 HCALL
      cases b
      · go_wp2_with fail
        go_ret
        exact ⟨false, L3, rfl, HO3.out, by omega, fun h => by cases h⟩
      obtain ⟨hq3, hq03, hqs3⟩ := HLE3.out (by trivial)
      have HQ3 := Lib.hid hq3
      have HS3 := Lib.hid hqs3
      have hl43 : L3 ≤ 400 := hl3
      clear hq3 hqs3
      have z1 := blk_cell HX3.out 1 (.string ⟨p.nick.toArray⟩) rfl
      have z2 := blk_cell HX3.out 2 (.string ⟨p.name.toArray⟩) rfl
      have z3 := blk_cell HX3.out 3 (.slice s1 p.args.length u1) rfl
      have z4 := blk_cell HX3.out 4 (.slice s2 p.dirs.length u2) rfl
      have z5 := blk_cell HX3.out 5 (.slice s3 p.sels.length u3) rfl
      have hpf := (Dq.Sel.fits_eq p).1 HPF.out
      have hcn : Dq.Sel.cntl p.sels < N := by
        have h1 := Dq.cntl_mem HMEM.out
        have h2 := Dq.Sel.cnt_eq p
        have h3 := HN.out
        omega
      have HCALL := Lib.hid (fun dp => HIH.out p.sels hcn hpf.2.2.2.2.2.2 s3 u3 w3 g L3 dp hq03 hl43 (by have := hpf.2.2.2.2.2.1; unfold maxLen at this; omega) HO3.out.cell (hds.to HO3.out.stands))
      clear hpf
      go_wp2_with fail
      refine (HCALL.out _).mono ?_
      rintro r w4 ⟨b, L4, rfl, ho4, hl4, hle⟩
      have HLE4 := Lib.hid hle
      have HO4 := Lib.hid (HO3.out.trans ho4)
      have HX4 : Hid (w4.heap[wr.heap.size]? = _) := Lib.hid ((ho4.but.block wr.heap.size (by omega) (fun e => hgne e.symm)).trans HX3.out)
      have hs4 := ho4.but.size
      clear hle ho4 z1 z2 z3 z4 z5 HCALL
      cases b
      · go_wp2_with fail
        go_ret
        exact ⟨false, L4, rfl, HO4.out, by omega, fun h => by cases h⟩
      obtain ⟨hq4, hq04, hqs4⟩ := HLE4.out (by trivial)
      have HQ4 := Lib.hid hq4
      have HS4 := Lib.hid hqs4
      have hl44 : L4 ≤ 400 := hl4
      clear hq4 hqs4
      have hsmp : Dq.Sel.sm p := (Dq.Sel.sm_eq p).2 ⟨by omega, by omega, HS2.out, HS3.out, HS4.out⟩
      have hLL : L4 = L - Dq.Sel.cntl l + (Dq.Sel.cntl (l.drop (j + 1)) : Nat) := by
        have := HL2.out
        have hA : Dq.cntA p.args = p.args.length := rfl; have q2 := HQ2.out; have q3 := HQ3.out; have q4 := HQ4.out; omega
      have HLL := Lib.hid hLL
      clear hLL
      go_wp2_with fail
      go_roundg (l.length + 1 - (j + 1))
      case measure => rw [HK.out]; omega
      case rel => exact ⟨j + 1, L4, rfl, hjl, by go_num, HLL.out, by omega, take_mem HP.out HSM.out hsmp, HO4.out⟩
    · have e6 : decide (j < l.length) = false := decide_eq_false hjl
      have hLL : Lr = L - Dq.Sel.cntl l := by
        have := HLR.out
        rw [List.drop_eq_nil_of_le (by omega)] at this
        have h0 : Dq.Sel.cntl ([] : List Dq.Sel) = 0 := by first | rfl | rw [Dq.Sel.cntl]
        omega
      have hsm2 : ∀ x ∈ l, Dq.Sel.sm x := by
        have := HSM.out
        rwa [List.take_of_length_le (by omega)] at this
      go_wp2_with fail
      go_ret
      exact ⟨true, Lr, rfl, HO.out, by omega, fun _ => ⟨hLL, hLr0, hsm2⟩⟩
theorem dqSels_all : ∀ N : Nat, DqSelsC N
  | 0 => fun l h => by omega
  | N + 1 => fun l hN hf a c w g L deep h0 h4 hlen hg hR => dqSels_step l N (dqSels_all N) hN hf a c w g L deep h0 h4 hlen hg hR
end Go.Proofs.YtabcaljnpahgpaaGreatDoor
