/-
  The reader of documents: what is done for each selection, each variable (closures), walked. Documents as data: what their cells hold. The reader of documents: a selection set, walked, a selection's walk being given. A block that is filled field by field, its data beside it, other new blocks about it.
-/
import Derived.Test.YtabcaljnpahgpaaGreatDoorK20
namespace Go.Proofs.YtabcaljnpahgpaaGreatDoor
set_option linter.unusedSimpArgs false
set_option linter.unusedVariables false
open Go Go.RowKit

theorem infoSel : (Tryz.prog.info? 92).map (fun i => (i.zero, i.size, i.bytes)) = some (some (.agg #[.int .i64 0, .string ⟨#[]⟩, .string ⟨#[]⟩, .slice none 0 0, .slice none 0 0, .slice none 0 0, .int .i64 0]), 7, 120) := by kernel_rfl
theorem infoVd : (Tryz.prog.info? 97).map (fun i => (i.zero, i.size, i.bytes)) = some (some (.agg #[.string ⟨#[]⟩, .string ⟨#[]⟩, .bool false, .int .i64 0, .string ⟨#[]⟩, .slice none 0 0, .slice none 0 0, .int .i64 0, .int .i64 0]), 9, 128) := by kernel_rfl
def mkOpV (kd : Nat) (nm : ByteArray) (a : Nat) (v : Value) : Array Value := #[.int .i64 kd, .string nm, v, .slice none 0 0, .slice none 0 0, .int .i64 a]
theorem Sel_open {w : World} {P : Nat → Prop} {x : Qr.Sel} {cs : List Value} (h : Reads w P x.d cs) : ∃ (a1 a2 a3 : Option Addr) (c1 c2 c3 : Nat),
    cs = [.int .i64 x.kind, .string ⟨x.alias.toArray⟩, .string ⟨x.name.toArray⟩, .slice a1 x.args.length c1, .slice a2 x.dirs.length c2, .slice a3 x.sels.length c3, .int .i64 x.at_] ∧
    Reads w P (.seq 7 (x.args.map Rd.A.d)) [.slice a1 x.args.length c1] ∧ Reads w P (.seq 3 (x.dirs.map Qr.Dir.d)) [.slice a2 x.dirs.length c2] ∧ Reads w P (.seq 7 (x.sels.map Qr.Sel.d)) [.slice a3 x.sels.length c3] := by
  cases x with
  | mk k al nm ar ds ss a =>
    unfold Qr.Sel.d at h
    rw [Qr.Sel.dl_map] at h
    obtain ⟨x1, r1, rfl, e1, h1⟩ := h.obj_inv.cons_inv
    obtain ⟨x2, r2, rfl, e2, h2⟩ := h1.cons_inv
    obtain ⟨x3, r3, rfl, e3, h3⟩ := h2.cons_inv
    obtain ⟨x4, r4, rfl, e4, h4⟩ := h3.cons_inv
    obtain ⟨x5, r5, rfl, e5, h5⟩ := h4.cons_inv
    obtain ⟨x6, r6, rfl, e6, h6⟩ := h5.cons_inv
    obtain ⟨x7, r7, rfl, e7, h7⟩ := h6.cons_inv
    obtain rfl := e1.int_inv
    obtain rfl := e2.str_inv
    obtain rfl := e3.str_inv
    obtain ⟨b4, d4, rfl, _⟩ := e4.seq_inv
    obtain ⟨b5, d5, rfl, _⟩ := e5.seq_inv
    obtain ⟨b6, d6, rfl, _⟩ := e6.seq_inv
    obtain rfl := e7.int_inv
    obtain rfl := h7.nil_inv
    simp only [List.length_map] at e4 e5 e6 ⊢
    exact ⟨b4, b5, b6, d4, d5, d6, rfl, e4, e5, e6⟩
theorem Sel_cells {w : World} {P : Nat → Prop} {x : Qr.Sel} {cs : List Value} (h : Reads w P x.d cs) : ∃ (k a : Int) (al nm : ByteArray) (a1 a2 a3 : Option Addr) (n1 c1 n2 c2 n3 c3 : Nat), cs = [.int .i64 k, .string al, .string nm, .slice a1 n1 c1, .slice a2 n2 c2, .slice a3 n3 c3, .int .i64 a] := by
  obtain ⟨a1, a2, a3, c1, c2, c3, rfl, _⟩ := Sel_open h
  exact ⟨_, _, _, _, _, _, _, _, _, _, _, _, _, rfl⟩
theorem Vd_cells {w : World} {P : Nat → Prop} {x : Qr.Vd} {cs : List Value} (h : Reads w P x.d cs) : ∃ (nm ty t : ByteArray) (hb : Bool) (k a b' : Int) (a1 a2 : Option Addr) (n1 c1 n2 c2 : Nat), cs = [.string nm, .string ty, .bool hb, .int .i64 k, .string t, .slice a1 n1 c1, .slice a2 n2 c2, .int .i64 a, .int .i64 b'] :=
  In_cells (x := ⟨x.name, x.type, x.has, x.dflt, x.at_⟩) h
set_option maxHeartbeats 1000000 in
set_option maxRecDepth 100000 in
theorem selsC_any (w0 : World) (b g t6 : Nat) (bx : List Box) (t2 n kk : Nat) (hbx0 : (t2, Obj.cells #[(.pointer (some ⟨b, 0, none⟩))] 141 (0, 0)) ∈ bx) (s : Rd.St) (ds : List D) (w : World)
    (hval : ∀ w, RdAt w b g s → Calls Tryz.prog 149 #[(.pointer (some ⟨b, 0, none⟩))] w (Got b g w (Qr.sel n kk s).2.d (Qr.sel n kk s).1))
    (h : LI w0 b g t6 bx 47 mkOne 92 7 s ds w) (hl : ds.length ≤ 1000000) :
    Calls Tryz.prog 148 #[.pointer (some ⟨t6, 0, none⟩), .pointer (some ⟨t2, 0, none⟩)] w fun r w' => r = .returned (.tuple #[]) ∧ LI w0 b g t6 bx 47 mkOne 92 7 (Qr.sel n kk s).1 (ds ++ [(Qr.sel n kk s).2.d]) w' := by
  obtain ⟨i0, hi, hz0, hz1, hz2⟩ := info_parts infoSel
  obtain ⟨v, h6, hG⟩ := h.ex
  obtain ⟨va, vc, hv⟩ := hG.form
  subst hv
  obtain ⟨⟨xs, hx, hro⟩, hap⟩ := hG
  have hvl : ∀ x, (Value.slice va ds.length vc).ownBlock = some x → LB t6 bx ≤ x ∧ x < w.heap.size := hx.lt
  have hlb6 := LB_t6 t6 bx
  have hlt6 := block_lt h6
  have lb := h.lb
  have l6 := h.l6
  have hi0 : (0 : Int) ≤ (ds.length : Int) := Int.natCast_nonneg _
  have hi1 : (ds.length : Int) < (ds.length : Int) + 1 := by omega
  obtain ⟨s', hs'⟩ : ∃ x, x = (Qr.sel n kk s).1 := ⟨_, rfl⟩
  obtain ⟨d, hd'⟩ : ∃ x, x = (Qr.sel n kk s).2.d := ⟨_, rfl⟩
  obtain ⟨zs, hzs⟩ : ∃ x, x = [Value.int .i64 0, .string ⟨#[]⟩, .string ⟨#[]⟩, .slice none 0 0, .slice none 0 0, .slice none 0 0, .int .i64 0] := ⟨_, rfl⟩
  have HVC : Hid (∀ (w : World) (P : Nat → Prop) (cs : List Value), Reads w P d cs → ∃ (k' a' : Int) (al nm : ByteArray) (a1 a2 a3 : Option Addr) (n1 c1 n2 c2 n3 c3 : Nat), cs = [.int .i64 k', .string al, .string nm, .slice a1 n1 c1, .slice a2 n2 c2, .slice a3 n3 c3, .int .i64 a']) :=
    Lib.hid fun w P cs hh => Sel_cells (by rw [← hd']; exact hh)
  rw [← hs', ← hd'] at hval ⊢
  have H := Lib.hid h
  have HRS := Lib.hid hro
  have H6 := Lib.hid h6
  have HVL := Lib.hid hvl
  have HVAL := Lib.hid hval
  have HZS := Lib.hid hzs
  have HZL : Hid (zs.length = 1 * 7) := by rw [hzs]; exact Lib.hid rfl
  have HST : Hid (∀ w', Fr b w w' → Stands w (fun x => t6 < x ∧ (Value.slice va ds.length vc).ownBlock ≠ some x) w' (fun x => t6 < x ∧ (Value.slice va ds.length vc).ownBlock ≠ some x)) :=
    Lib.hid fun w' hf => ⟨hf.size, fun x hx2 hp => ⟨hp, hf.block x hx2 (by omega)⟩⟩
  have HROWS : Hid (∀ w', Fr b w w' → w'.ownsRow (LB t6 bx) 92 7 (.slice va ds.length vc) ds.length xs) := Lib.hid fun w' hf => row_to hx (fun x hx2 => hf.block x (hvl x hx2).2 (by have := (hvl x hx2).1; omega))
  have hS : w.cell? ⟨t6, 0, none⟩ = some (.slice va ds.length vc) ∧ w.cell? ⟨t2, 0, none⟩ = some (.pointer (some ⟨b, 0, none⟩)) :=
    ⟨by simp [World.cell?, h6, mkOne], h.cellx hbx0⟩
  have HSS := Lib.hid hS
  have HSF : Hid (∀ w', Fr b w w' → w'.cell? ⟨t6, 0, none⟩ = some (.slice va ds.length vc) ∧ w'.cell? ⟨t2, 0, none⟩ = some (.pointer (some ⟨b, 0, none⟩))) := by
    refine Lib.hid fun w' hf => ⟨?_, h.cellf hf hbx0⟩
    rw [hf.cell (p := ⟨t6, 0, none⟩) hlt6 (by show ¬ t6 = b; omega)]
    exact HSS.out.1
  clear h hx hro h6 hvl hval hs' hd' hzs hap
  go_enter Tryz.func148, Tryz.ntmps148
  go_wp2_with fail
  refine wp_region_phase (fun w' => w'.cell? ⟨t6, 0, none⟩ = some (.slice va ds.length vc) ∧ w'.cell? ⟨t2, 0, none⟩ = some (.pointer (some ⟨b, 0, none⟩))) 5 (by kernel_rfl) ?_
  refine wpAnyB_take (i := 0) (v := (.slice va ds.length vc)) (by kernel_rfl) (by decide) rfl (by kernel_rfl) (by kernel_rfl) (by kernel_rfl) (fun _ _ _ h => h) (Or.inl ⟨by rfl, fun w hSw => by obtain ⟨s0, s1⟩ := hSw; go_simp⟩) hS ?_; simp only [Act.put, List.setIfInBounds_toArray, List.set_cons_zero, List.set_cons_succ]
  refine wpAnyB_take (i := 1) (v := (.pointer (some ⟨b, 0, none⟩))) (by kernel_rfl) (by decide) rfl (by kernel_rfl) (by kernel_rfl) (by kernel_rfl) (fun _ _ _ h => h) (Or.inl ⟨by rfl, fun w hSw => by obtain ⟨s0, s1⟩ := hSw; go_simp⟩) hS ?_; simp only [Act.put, List.setIfInBounds_toArray, List.set_cons_zero, List.set_cons_succ]
  refine wpAnyB_take (i := 3) (v := (.int .i64 ds.length)) (by kernel_rfl) (by decide) rfl (by kernel_rfl) (by kernel_rfl) (by kernel_rfl) (fun _ _ _ h => h) (Or.inl ⟨by rfl, fun w hSw => by obtain ⟨s0, s1⟩ := hSw; go_simp⟩) hS ?_; simp only [Act.put, List.setIfInBounds_toArray, List.set_cons_zero, List.set_cons_succ]
  clear hS
  refine wpAnyB_two (i := 2) (k := 4) (by kernel_rfl) ?_ ?_
  · refine wpOp_intro (by decide) (fun K4 HK4 => ?_); simp only [List.drop_succ_cons, List.drop_zero, List.take_succ_cons, List.take_zero]
    go_wp2_with fail
    refine (HVAL.out w.drew (H.out.rd.to (Nat.le_refl _) rfl rfl)).mono ?_
    rintro r w2 ⟨cs, rfl, hrd, hr2, hf2⟩
    have hf : Fr b w w2 := ⟨hf2.os, hf2.tape, hf2.output, hf2.size, hf2.block⟩
    obtain ⟨k', a', al, nm, a1, a2, a3, n1, c1, n2, c2, n3, c3, rfl⟩ := HVC.out _ _ _ hrd
    have HRD := Lib.hid hrd
    have HF := Lib.hid hf
    have HR2 := Lib.hid hr2
    clear hrd hr2 hf2 hf
    go_wp2_with fail
    refine HK4.out _ _ ⟨fun _ => HSF.out _ HF.out, ?_⟩
    clear HK4
    refine wpAnyB_one (i := 4) (by kernel_rfl) ?_
    refine wpOp_intro (by decide) (fun K6 HK6 => ?_); simp only [List.drop_succ_cons, List.drop_zero, List.take_succ_cons, List.take_zero]
    go_wp2_with fail
    have HBA : Hid (Below w2.heap.size w2 (w2.alloc (.cells #[.int .i64 0, .string ⟨#[]⟩, .string ⟨#[]⟩, .slice none 0 0, .slice none 0 0, .slice none 0 0, .int .i64 0] 92))) := Lib.hid ((Below.refl _ _).alloc (Nat.le_refl _) _)
    have HFA := Lib.hid (HF.out.trans (But.of_below (X := fun k => k = b) HBA.out))
    refine HK6.out _ _ ⟨fun _ => HSF.out _ HFA.out, ?_⟩
    clear HK6
    have HLI := Lib.hid ((H.out.step HR2.out HF.out).below HBA.out)
    have HX := Lib.hid (HROWS.out _ HFA.out)
    have HRO := Lib.hid (HRS.out.to (HST.out _ HFA.out))
    have H6W : Hid ((w2.alloc (.cells #[.int .i64 0, .string ⟨#[]⟩, .string ⟨#[]⟩, .slice none 0 0, .slice none 0 0, .slice none 0 0, .int .i64 0] 92)).heap[t6]? = some (.cells (mkOne (.slice va ds.length vc)) 47 (0, 0))) := Lib.hid (by rw [HFA.out.block t6 hlt6 (by omega)]; exact H6.out)
    have HD := Lib.hid (HRD.out.to (w' := w2.alloc (.cells #[.int .i64 0, .string ⟨#[]⟩, .string ⟨#[]⟩, .slice none 0 0, .slice none 0 0, .slice none 0 0, .int .i64 0] 92)) (Q := fun x => t6 < x ∧ (Value.slice va ds.length vc).ownBlock ≠ some x) ⟨HBA.out.size, fun x hx2 hp => ⟨⟨Nat.lt_of_lt_of_le hlt6 hp, fun e => by have h1 := (HVL.out x e).2; have h2 : w.heap.size ≤ x := hp; omega⟩, HBA.out.block x hx2⟩⟩)
    have HLIT : Hid (∀ j u, zs[j]? = some u → (w2.alloc (.cells #[.int .i64 0, .string ⟨#[]⟩, .string ⟨#[]⟩, .slice none 0 0, .slice none 0 0, .slice none 0 0, .int .i64 0] 92)).cell? ((⟨w2.heap.size, 0, none⟩ : Addr).add j) = some u) := Lib.hid (lit_cells (fz := (0, 0)) (by rw [HZS.out]; exact heap_at_new _ _))
    have hbase : LB t6 bx ≤ (w2.alloc (.cells #[.int .i64 0, .string ⟨#[]⟩, .string ⟨#[]⟩, .slice none 0 0, .slice none 0 0, .slice none 0 0, .int .i64 0] 92)).heap.size := HLI.out.low
    have HONE : Hid (∀ u ∈ zs, u.oneCell' = true) := Lib.hid (by rw [HZS.out]; intro u hu; simp at hu; rcases hu with rfl | rfl | rfl | rfl | rfl | rfl | rfl <;> rfl)
    refine wpAnyB_one (i := 5) (by kernel_rfl) ?_
    refine wpOp_intro (by decide) (fun K7 HK7 => ?_); simp only [List.drop_succ_cons, List.drop_zero, List.take_succ_cons, List.take_zero]
    go_wp2_with (first | (at_builtin; refine wpList_append_own_at _ rfl _ _ 47 rfl (LB t6 bx) 92 i0 _ 7 120 Tryz.underlying47 hi hz0 hz1 hz2 rfl (by decide) (.slice va ds.length vc) ds.length xs rfl HX.out ⟨w2.heap.size, 0, none⟩ 1 1 zs rfl HZL.out HLIT.out HONE.out (by unfold maxLen; omega) (by omega) hbase ?_; intro v' w8 hrow8 hg8 hnil8 hloc8; clear hnil8; obtain ⟨g', c', rfl, hg1, hg2⟩ := rowForm hrow8 (by omega); have HROW := Lib.hid hrow8; have HG8 := Lib.hid hg8; have HL8 := Lib.hid hloc8; clear hrow8 hg8 hloc8) | fail)
    refine HK7.out _ _ ⟨fun h => absurd h (by decide), ?_⟩
    clear HK7
    refine wpAnyB_takeAny (i := 6) (v := (.pointer (some ⟨g', (ds.length * 7), none⟩))) (by decide) rfl (by kernel_rfl) (by kernel_rfl) (by kernel_rfl) (fun _ _ _ h => h) (Or.inl ⟨by rfl, fun w _ => by go_simp⟩) ?_; simp only [Act.put, List.setIfInBounds_toArray, List.set_cons_zero, List.set_cons_succ]
    have h68 := HLI.out.h6 HX.out HG8.out H6W.out
    have y6 : w8.cell? ⟨t6, 0, none⟩ = some (.slice va ds.length vc) := by simp [World.cell?, h68, mkOne]
    have y7 : w8.frozen? ⟨t6, 0, none⟩ = false := by simp [World.frozen?, h68]
    have hxl : xs.length = ds.length * 7 := HX.out.1
    have q0 := row_cell HROW.out (ds.length * 7) (.int .i64 0) (by rw [← hxl, List.getElem?_append_right (Nat.le_refl _), Nat.sub_self, HZS.out]; rfl)
    have q1 := row_cell HROW.out (ds.length * 7 + 1) (.string ⟨#[]⟩) (by rw [← hxl, List.getElem?_append_right (by omega), Nat.add_sub_cancel_left, HZS.out]; rfl)
    have q2 := row_cell HROW.out (ds.length * 7 + 2) (.string ⟨#[]⟩) (by rw [← hxl, List.getElem?_append_right (by omega), Nat.add_sub_cancel_left, HZS.out]; rfl)
    have q3 := row_cell HROW.out (ds.length * 7 + 3) (.slice none 0 0) (by rw [← hxl, List.getElem?_append_right (by omega), Nat.add_sub_cancel_left, HZS.out]; rfl)
    have q4 := row_cell HROW.out (ds.length * 7 + 4) (.slice none 0 0) (by rw [← hxl, List.getElem?_append_right (by omega), Nat.add_sub_cancel_left, HZS.out]; rfl)
    have q5 := row_cell HROW.out (ds.length * 7 + 5) (.slice none 0 0) (by rw [← hxl, List.getElem?_append_right (by omega), Nat.add_sub_cancel_left, HZS.out]; rfl)
    have q6 := row_cell HROW.out (ds.length * 7 + 6) (.int .i64 0) (by rw [← hxl, List.getElem?_append_right (by omega), Nat.add_sub_cancel_left, HZS.out]; rfl)
    have p0 := World.ownsRow.frozenAt HROW.out (ds.length * 7)
    have p1 := World.ownsRow.frozenAt HROW.out (ds.length * 7 + 1)
    have p2 := World.ownsRow.frozenAt HROW.out (ds.length * 7 + 2)
    have p3 := World.ownsRow.frozenAt HROW.out (ds.length * 7 + 3)
    have p4 := World.ownsRow.frozenAt HROW.out (ds.length * 7 + 4)
    have p5 := World.ownsRow.frozenAt HROW.out (ds.length * 7 + 5)
    have p6 := World.ownsRow.frozenAt HROW.out (ds.length * 7 + 6)
    have n1 : ¬ g' = t6 := by omega
    have n2 : ¬ t6 = g' := by omega
    have HXL := Lib.hid hxl.symm
    clear h68 hxl
    refine wpAnyB_two (i := 7) (k := 8) (by kernel_rfl) ?_ ?_
    · refine wpOp_intro (by decide) (fun K9 HK9 => ?_); simp only [List.drop_succ_cons, List.drop_zero, List.take_succ_cons, List.take_zero]
      go_wp2_with fail
      refine HK9.out _ _ ⟨fun h => absurd h (by decide), ?_⟩
      clear HK9
      refine wpAnyB_one (i := 8) (by kernel_rfl) ?_
      refine wpOp_intro (by decide) (fun Ka HKa => ?_); simp only [List.drop_succ_cons, List.drop_zero, List.take_succ_cons, List.take_zero]
      go_wp2_with fail
      refine HKa.out _ _ ⟨fun h => absurd h (by decide), ?_⟩
      clear HKa
      refine wpAnyB_done (by kernel_rfl) ?_ _
      go_wp2_with fail
      go_end0
      have hfin := HLI.out.end1 (jj := 0) HX.out HRO.out HD.out rfl HG8.out HL8.out H6W.out HROW.out HZL.out HXL.out rfl
      simp only [putCells, Nat.add_assoc, Nat.reduceAdd] at hfin
      exact ⟨rfl, hfin⟩
    · refine wpOp_intro (by decide) (fun K9 HK9 => ?_); simp only [List.drop_succ_cons, List.drop_zero, List.take_succ_cons, List.take_zero]
      go_wp2_with fail
      refine HK9.out _ _ ⟨fun h => absurd h (by decide), ?_⟩
      clear HK9
      refine wpAnyB_one (i := 7) (by kernel_rfl) ?_
      refine wpOp_intro (by decide) (fun Ka HKa => ?_); simp only [List.drop_succ_cons, List.drop_zero, List.take_succ_cons, List.take_zero]
      go_wp2_with fail
      refine HKa.out _ _ ⟨fun h => absurd h (by decide), ?_⟩
      clear HKa
      refine wpAnyB_done (by kernel_rfl) ?_ _
      go_wp2_with fail
      go_end0
      have hfin := HLI.out.end2 (jj := 0) HX.out HRO.out HD.out rfl HG8.out HL8.out H6W.out HROW.out HZL.out HXL.out rfl
      simp only [putCells, Nat.add_assoc, Nat.reduceAdd] at hfin
      exact ⟨rfl, hfin⟩
  · refine wpOp_intro (by decide) (fun K6 HK6 => ?_); simp only [List.drop_succ_cons, List.drop_zero, List.take_succ_cons, List.take_zero]
    go_wp2_with fail
    have HBA : Hid (Below w.heap.size w ((w.alloc (.cells #[.int .i64 0, .string ⟨#[]⟩, .string ⟨#[]⟩, .slice none 0 0, .slice none 0 0, .slice none 0 0, .int .i64 0] 92)).drew)) := Lib.hid (Below.drew ((Below.refl _ _).alloc (Nat.le_refl _) _))
    have HFA := Lib.hid (But.of_below (X := fun k => k = b) HBA.out)
    refine HK6.out _ _ ⟨fun _ => HSF.out _ HFA.out, ?_⟩
    clear HK6
    refine wpAnyB_one (i := 2) (by kernel_rfl) ?_
    refine wpOp_intro (by decide) (fun K4 HK4 => ?_); simp only [List.drop_succ_cons, List.drop_zero, List.take_succ_cons, List.take_zero]
    go_wp2_with fail
    refine (HVAL.out _ (H.out.rd.below HBA.out)).mono ?_
    rintro r w2 ⟨cs, rfl, hrd, hr2, hf2⟩
    obtain ⟨k', a', al, nm, a1, a2, a3, n1, c1, n2, c2, n3, c3, rfl⟩ := HVC.out _ _ _ hrd
    have HF := Lib.hid (HFA.out.trans hf2)
    have HLB : Hid (w2.heap[w.heap.size]? = some (.cells #[.int .i64 0, .string ⟨#[]⟩, .string ⟨#[]⟩, .slice none 0 0, .slice none 0 0, .slice none 0 0, .int .i64 0] 92 (0, 0))) := by
      rw [hf2.block w.heap.size (by show w.heap.size < (w.alloc _).heap.size; simp) (by omega)]
      exact Lib.hid (heap_at_new _ _)
    have HRD := Lib.hid hrd
    have HR2 := Lib.hid hr2
    clear hrd hr2 hf2
    go_wp2_with fail
    refine HK4.out _ _ ⟨fun _ => HSF.out _ HF.out, ?_⟩
    clear HK4
    have HLI := Lib.hid (H.out.step HR2.out HF.out)
    have HX := Lib.hid (HROWS.out _ HF.out)
    have HRO := Lib.hid (HRS.out.to (HST.out _ HF.out))
    have H6W : Hid (w2.heap[t6]? = some (.cells (mkOne (.slice va ds.length vc)) 47 (0, 0))) := Lib.hid (by rw [HF.out.block t6 hlt6 (by omega)]; exact H6.out)
    have HD := Lib.hid (HRD.out.to (w' := w2) (Q := fun x => t6 < x ∧ (Value.slice va ds.length vc).ownBlock ≠ some x) (Stands.sub w2 (fun x hx2 hp => by
      have h2 : (w.alloc (.cells #[.int .i64 0, .string ⟨#[]⟩, .string ⟨#[]⟩, .slice none 0 0, .slice none 0 0, .slice none 0 0, .int .i64 0] 92)).heap.size ≤ x := hp
      simp at h2
      exact ⟨by omega, fun e => by have h1 := (HVL.out x e).2; omega⟩)))
    have HLIT : Hid (∀ j u, zs[j]? = some u → w2.cell? ((⟨w.heap.size, 0, none⟩ : Addr).add j) = some u) := Lib.hid (lit_cells (fz := (0, 0)) (by rw [HZS.out]; exact HLB.out))
    have hbase : LB t6 bx ≤ (w2).heap.size := HLI.out.low
    have HONE : Hid (∀ u ∈ zs, u.oneCell' = true) := Lib.hid (by rw [HZS.out]; intro u hu; simp at hu; rcases hu with rfl | rfl | rfl | rfl | rfl | rfl | rfl <;> rfl)
    refine wpAnyB_one (i := 5) (by kernel_rfl) ?_
    refine wpOp_intro (by decide) (fun K7 HK7 => ?_); simp only [List.drop_succ_cons, List.drop_zero, List.take_succ_cons, List.take_zero]
    go_wp2_with (first | (at_builtin; refine wpList_append_own_at _ rfl _ _ 47 rfl (LB t6 bx) 92 i0 _ 7 120 Tryz.underlying47 hi hz0 hz1 hz2 rfl (by decide) (.slice va ds.length vc) ds.length xs rfl HX.out ⟨w.heap.size, 0, none⟩ 1 1 zs rfl HZL.out HLIT.out HONE.out (by unfold maxLen; omega) (by omega) hbase ?_; intro v' w8 hrow8 hg8 hnil8 hloc8; clear hnil8; obtain ⟨g', c', rfl, hg1, hg2⟩ := rowForm hrow8 (by omega); have HROW := Lib.hid hrow8; have HG8 := Lib.hid hg8; have HL8 := Lib.hid hloc8; clear hrow8 hg8 hloc8) | fail)
    refine HK7.out _ _ ⟨fun h => absurd h (by decide), ?_⟩
    clear HK7
    refine wpAnyB_takeAny (i := 6) (v := (.pointer (some ⟨g', (ds.length * 7), none⟩))) (by decide) rfl (by kernel_rfl) (by kernel_rfl) (by kernel_rfl) (fun _ _ _ h => h) (Or.inl ⟨by rfl, fun w _ => by go_simp⟩) ?_; simp only [Act.put, List.setIfInBounds_toArray, List.set_cons_zero, List.set_cons_succ]
    have h68 := HLI.out.h6 HX.out HG8.out H6W.out
    have y6 : w8.cell? ⟨t6, 0, none⟩ = some (.slice va ds.length vc) := by simp [World.cell?, h68, mkOne]
    have y7 : w8.frozen? ⟨t6, 0, none⟩ = false := by simp [World.frozen?, h68]
    have hxl : xs.length = ds.length * 7 := HX.out.1
    have q0 := row_cell HROW.out (ds.length * 7) (.int .i64 0) (by rw [← hxl, List.getElem?_append_right (Nat.le_refl _), Nat.sub_self, HZS.out]; rfl)
    have q1 := row_cell HROW.out (ds.length * 7 + 1) (.string ⟨#[]⟩) (by rw [← hxl, List.getElem?_append_right (by omega), Nat.add_sub_cancel_left, HZS.out]; rfl)
    have q2 := row_cell HROW.out (ds.length * 7 + 2) (.string ⟨#[]⟩) (by rw [← hxl, List.getElem?_append_right (by omega), Nat.add_sub_cancel_left, HZS.out]; rfl)
    have q3 := row_cell HROW.out (ds.length * 7 + 3) (.slice none 0 0) (by rw [← hxl, List.getElem?_append_right (by omega), Nat.add_sub_cancel_left, HZS.out]; rfl)
    have q4 := row_cell HROW.out (ds.length * 7 + 4) (.slice none 0 0) (by rw [← hxl, List.getElem?_append_right (by omega), Nat.add_sub_cancel_left, HZS.out]; rfl)
    have q5 := row_cell HROW.out (ds.length * 7 + 5) (.slice none 0 0) (by rw [← hxl, List.getElem?_append_right (by omega), Nat.add_sub_cancel_left, HZS.out]; rfl)
    have q6 := row_cell HROW.out (ds.length * 7 + 6) (.int .i64 0) (by rw [← hxl, List.getElem?_append_right (by omega), Nat.add_sub_cancel_left, HZS.out]; rfl)
    have p0 := World.ownsRow.frozenAt HROW.out (ds.length * 7)
    have p1 := World.ownsRow.frozenAt HROW.out (ds.length * 7 + 1)
    have p2 := World.ownsRow.frozenAt HROW.out (ds.length * 7 + 2)
    have p3 := World.ownsRow.frozenAt HROW.out (ds.length * 7 + 3)
    have p4 := World.ownsRow.frozenAt HROW.out (ds.length * 7 + 4)
    have p5 := World.ownsRow.frozenAt HROW.out (ds.length * 7 + 5)
    have p6 := World.ownsRow.frozenAt HROW.out (ds.length * 7 + 6)
    have n1 : ¬ g' = t6 := by omega
    have n2 : ¬ t6 = g' := by omega
    have HXL := Lib.hid hxl.symm
    clear h68 hxl
    refine wpAnyB_two (i := 7) (k := 8) (by kernel_rfl) ?_ ?_
    · refine wpOp_intro (by decide) (fun K9 HK9 => ?_); simp only [List.drop_succ_cons, List.drop_zero, List.take_succ_cons, List.take_zero]
      go_wp2_with fail
      refine HK9.out _ _ ⟨fun h => absurd h (by decide), ?_⟩
      clear HK9
      refine wpAnyB_one (i := 8) (by kernel_rfl) ?_
      refine wpOp_intro (by decide) (fun Ka HKa => ?_); simp only [List.drop_succ_cons, List.drop_zero, List.take_succ_cons, List.take_zero]
      go_wp2_with fail
      refine HKa.out _ _ ⟨fun h => absurd h (by decide), ?_⟩
      clear HKa
      refine wpAnyB_done (by kernel_rfl) ?_ _
      go_wp2_with fail
      go_end0
      have hfin := HLI.out.end1 (jj := 0) HX.out HRO.out HD.out rfl HG8.out HL8.out H6W.out HROW.out HZL.out HXL.out rfl
      simp only [putCells, Nat.add_assoc, Nat.reduceAdd] at hfin
      exact ⟨rfl, hfin⟩
    · refine wpOp_intro (by decide) (fun K9 HK9 => ?_); simp only [List.drop_succ_cons, List.drop_zero, List.take_succ_cons, List.take_zero]
      go_wp2_with fail
      refine HK9.out _ _ ⟨fun h => absurd h (by decide), ?_⟩
      clear HK9
      refine wpAnyB_one (i := 7) (by kernel_rfl) ?_
      refine wpOp_intro (by decide) (fun Ka HKa => ?_); simp only [List.drop_succ_cons, List.drop_zero, List.take_succ_cons, List.take_zero]
      go_wp2_with fail
      refine HKa.out _ _ ⟨fun h => absurd h (by decide), ?_⟩
      clear HKa
      refine wpAnyB_done (by kernel_rfl) ?_ _
      go_wp2_with fail
      go_end0
      have hfin := HLI.out.end2 (jj := 0) HX.out HRO.out HD.out rfl HG8.out HL8.out H6W.out HROW.out HZL.out HXL.out rfl
      simp only [putCells, Nat.add_assoc, Nat.reduceAdd] at hfin
      exact ⟨rfl, hfin⟩
set_option maxHeartbeats 1000000 in
set_option maxRecDepth 100000 in
theorem opC_any (w0 : World) (b g t6 : Nat) (bx : List Box) (t2 : Nat) (kd : Nat) (nm : ByteArray) (at_ m : Nat) (hbx0 : (t2, Obj.cells #[(.pointer (some ⟨b, 0, none⟩))] 141 (0, 0)) ∈ bx) (s : Rd.St) (ds : List D) (w : World)
    (hval : ∀ w, RdAt w b g s → Calls Tryz.prog 118 #[(.pointer (some ⟨b, 0, none⟩))] w (Got b g w (Qr.variable_ m s).2.d (Qr.variable_ m s).1))
    (h : LI w0 b g t6 bx 49 (mkOpV kd nm at_) 97 9 s ds w) (hl : ds.length ≤ 1000000) :
    Calls Tryz.prog 117 #[.pointer (some ⟨t6, 0, none⟩), .pointer (some ⟨t2, 0, none⟩)] w fun r w' => r = .returned (.tuple #[]) ∧ LI w0 b g t6 bx 49 (mkOpV kd nm at_) 97 9 (Qr.variable_ m s).1 (ds ++ [(Qr.variable_ m s).2.d]) w' := by
  obtain ⟨i0, hi, hz0, hz1, hz2⟩ := info_parts infoVd
  obtain ⟨v, h6, hG⟩ := h.ex
  obtain ⟨va, vc, hv⟩ := hG.form
  subst hv
  obtain ⟨⟨xs, hx, hro⟩, hap⟩ := hG
  have hvl : ∀ x, (Value.slice va ds.length vc).ownBlock = some x → LB t6 bx ≤ x ∧ x < w.heap.size := hx.lt
  have hlb6 := LB_t6 t6 bx
  have hlt6 := block_lt h6
  have lb := h.lb
  have l6 := h.l6
  obtain ⟨s', hs'⟩ : ∃ x, x = (Qr.variable_ m s).1 := ⟨_, rfl⟩
  obtain ⟨d, hd'⟩ : ∃ x, x = (Qr.variable_ m s).2.d := ⟨_, rfl⟩
  have HVC : Hid (∀ (w : World) (P : Nat → Prop) (cs : List Value), Reads w P d cs → ∃ (nm2 ty2 t : ByteArray) (hb : Bool) (k a b' : Int) (a1 a2 : Option Addr) (n1 c1 n2 c2 : Nat), cs = [.string nm2, .string ty2, .bool hb, .int .i64 k, .string t, .slice a1 n1 c1, .slice a2 n2 c2, .int .i64 a, .int .i64 b']) :=
    Lib.hid fun w P cs hh => Vd_cells (by rw [← hd']; exact hh)
  have HVAL := Lib.hid hval
  rw [← hs', ← hd']
  have HSE := Lib.hid hs'
  have HDE := Lib.hid hd'
  have H := Lib.hid h
  have HRS := Lib.hid hro
  have H6 := Lib.hid h6
  have HVL := Lib.hid hvl
  have HST : Hid (∀ w', Fr b w w' → Stands w (fun x => t6 < x ∧ (Value.slice va ds.length vc).ownBlock ≠ some x) w' (fun x => t6 < x ∧ (Value.slice va ds.length vc).ownBlock ≠ some x)) :=
    Lib.hid fun w' hf => ⟨hf.size, fun x hx2 hp => ⟨hp, hf.block x hx2 (by omega)⟩⟩
  have HROWS : Hid (∀ w', Fr b w w' → w'.ownsRow (LB t6 bx) 97 9 (.slice va ds.length vc) ds.length xs) := Lib.hid fun w' hf => row_to hx (fun x hx2 => hf.block x (hvl x hx2).2 (by have := (hvl x hx2).1; omega))
  have hS : w.cell? ⟨t6, 2, none⟩ = some (.slice va ds.length vc) ∧ w.cell? ⟨t2, 0, none⟩ = some (.pointer (some ⟨b, 0, none⟩)) :=
    ⟨by simp [World.cell?, h6, mkOpV], h.cellx hbx0⟩
  have HSS := Lib.hid hS
  have HSF : Hid (∀ w', Fr b w w' → w'.cell? ⟨t6, 2, none⟩ = some (.slice va ds.length vc) ∧ w'.cell? ⟨t2, 0, none⟩ = some (.pointer (some ⟨b, 0, none⟩))) := by
    refine Lib.hid fun w' hf => ⟨?_, h.cellf hf hbx0⟩
    rw [hf.cell (p := ⟨t6, 2, none⟩) hlt6 (by show ¬ t6 = b; omega)]
    exact HSS.out.1
  clear h hx hro h6 hvl hval hs' hd' hap
  go_enter Tryz.func117, Tryz.ntmps117
  go_wp2_with fail
  refine wp_region_phase (fun w' => w'.cell? ⟨t6, 2, none⟩ = some (.slice va ds.length vc) ∧ w'.cell? ⟨t2, 0, none⟩ = some (.pointer (some ⟨b, 0, none⟩))) 6 (by kernel_rfl) ?_
  refine wpAnyB_take (i := 0) (v := (.pointer (some ⟨t6, 2, none⟩))) (by kernel_rfl) (by decide) rfl (by kernel_rfl) (by kernel_rfl) (by kernel_rfl) (fun _ _ _ h => h) (Or.inl ⟨by rfl, fun w hSw => by obtain ⟨s0, s1⟩ := hSw; go_simp⟩) hS ?_; simp only [Act.put, List.setIfInBounds_toArray, List.set_cons_zero, List.set_cons_succ]
  refine wpAnyB_take (i := 1) (v := (.slice va ds.length vc)) (by kernel_rfl) (by decide) rfl (by kernel_rfl) (by kernel_rfl) (by kernel_rfl) (fun _ _ _ h => h) (Or.inl ⟨by rfl, fun w hSw => by obtain ⟨s0, s1⟩ := hSw; go_simp⟩) hS ?_; simp only [Act.put, List.setIfInBounds_toArray, List.set_cons_zero, List.set_cons_succ]
  refine wpAnyB_take (i := 2) (v := (.pointer (some ⟨b, 0, none⟩))) (by kernel_rfl) (by decide) rfl (by kernel_rfl) (by kernel_rfl) (by kernel_rfl) (fun _ _ _ h => h) (Or.inl ⟨by rfl, fun w hSw => by obtain ⟨s0, s1⟩ := hSw; go_simp⟩) hS ?_; simp only [Act.put, List.setIfInBounds_toArray, List.set_cons_zero, List.set_cons_succ]
  clear hS
  refine wpAnyB_one (i := 3) (by kernel_rfl) ?_
  refine wpOp_intro (by decide) (fun K4 HK4 => ?_); simp only [List.drop_succ_cons, List.drop_zero, List.take_succ_cons, List.take_zero]
  go_wp2_with fail
  refine (HVAL.out w.drew (H.out.rd.to (Nat.le_refl _) rfl rfl)).mono ?_
  rintro r w2 ⟨cs, rfl, hrd, hr2, hf2⟩
  have hf : Fr b w w2 := ⟨hf2.os, hf2.tape, hf2.output, hf2.size, hf2.block⟩
  clear hf2
  rw [← HSE.out] at hr2
  rw [← HDE.out] at hrd
  obtain ⟨nm2, ty2, t, hb, k, a, b', a1, a2, n1, c1, n2, c2, rfl⟩ := HVC.out _ _ _ hrd
  have HRD := Lib.hid hrd
  have HF := Lib.hid hf
  have HR2 := Lib.hid hr2
  clear hrd hr2 hf
  go_wp2_with fail
  refine HK4.out _ _ ⟨fun _ => HSF.out _ HF.out, ?_⟩
  clear HK4
  refine wpAnyB_one (i := 4) (by kernel_rfl) ?_
  refine wpOp_intro (by decide) (fun K6 HK6 => ?_); simp only [List.drop_succ_cons, List.drop_zero, List.take_succ_cons, List.take_zero]
  go_wp2_with fail
  have HBA : Hid (Below w2.heap.size w2 (w2.alloc (.cells #[.string nm2, .string ty2, .bool hb, .int .i64 k, .string t, .slice a1 n1 c1, .slice a2 n2 c2, .int .i64 a, .int .i64 b'] 97))) := Lib.hid ((Below.refl _ _).alloc (Nat.le_refl _) _)
  have HFA := Lib.hid (HF.out.trans (But.of_below (X := fun k => k = b) HBA.out))
  refine HK6.out _ _ ⟨fun _ => HSF.out _ HFA.out, ?_⟩
  clear HK6
  have HLI := Lib.hid ((H.out.step HR2.out HF.out).below HBA.out)
  have HX := Lib.hid (HROWS.out _ HFA.out)
  have HRO := Lib.hid (HRS.out.to (HST.out _ HFA.out))
  have H6W : Hid ((w2.alloc (.cells #[.string nm2, .string ty2, .bool hb, .int .i64 k, .string t, .slice a1 n1 c1, .slice a2 n2 c2, .int .i64 a, .int .i64 b'] 97)).heap[t6]? = some (.cells ((mkOpV kd nm at_) (.slice va ds.length vc)) 49 (0, 0))) := Lib.hid (by rw [HFA.out.block t6 hlt6 (by omega)]; exact H6.out)
  have HD := Lib.hid (HRD.out.to (w' := w2.alloc (.cells #[.string nm2, .string ty2, .bool hb, .int .i64 k, .string t, .slice a1 n1 c1, .slice a2 n2 c2, .int .i64 a, .int .i64 b'] 97)) (Q := fun x => t6 < x ∧ (Value.slice va ds.length vc).ownBlock ≠ some x) ⟨HBA.out.size, fun x hx2 hp => ⟨⟨Nat.lt_of_lt_of_le hlt6 hp, fun e => by have h1 := (HVL.out x e).2; have h2 : w.heap.size ≤ x := hp; omega⟩, HBA.out.block x hx2⟩⟩)
  have HLIT : Hid (∀ j u, ([.string nm2, .string ty2, .bool hb, .int .i64 k, .string t, .slice a1 n1 c1, .slice a2 n2 c2, .int .i64 a, .int .i64 b'] : List Value)[j]? = some u → (w2.alloc (.cells #[.string nm2, .string ty2, .bool hb, .int .i64 k, .string t, .slice a1 n1 c1, .slice a2 n2 c2, .int .i64 a, .int .i64 b'] 97)).cell? ((⟨w2.heap.size, 0, none⟩ : Addr).add j) = some u) := Lib.hid (lit_cells (fz := (0, 0)) (heap_at_new _ _))
  have HONE := Lib.hid (Reads.one HRD.out)
  have hbase : LB t6 bx ≤ (w2.alloc (.cells #[.string nm2, .string ty2, .bool hb, .int .i64 k, .string t, .slice a1 n1 c1, .slice a2 n2 c2, .int .i64 a, .int .i64 b'] 97)).heap.size := HLI.out.low
  refine wpAnyB_one (i := 5) (by kernel_rfl) ?_
  refine wpOp_intro (by decide) (fun K7 HK7 => ?_); simp only [List.drop_succ_cons, List.drop_zero, List.take_succ_cons, List.take_zero]
  go_wp2_with (first | (at_builtin; refine wpList_append_own_at _ rfl _ _ 45 rfl (LB t6 bx) 97 i0 _ 9 128 Tryz.underlying45 hi hz0 hz1 hz2 rfl (by decide) (.slice va ds.length vc) ds.length xs rfl HX.out ⟨w2.heap.size, 0, none⟩ 1 1 [.string nm2, .string ty2, .bool hb, .int .i64 k, .string t, .slice a1 n1 c1, .slice a2 n2 c2, .int .i64 a, .int .i64 b'] rfl rfl HLIT.out HONE.out (by unfold maxLen; omega) (by omega) hbase ?_; intro v' w8 hrow8 hg8 hnil8 hloc8; clear hnil8; obtain ⟨g', c', rfl, hg1, hg2⟩ := rowForm hrow8 (by omega); have HROW := Lib.hid hrow8; have HG8 := Lib.hid hg8; have HL8 := Lib.hid hloc8; clear hrow8 hg8 hloc8) | fail)
  have h68 := HLI.out.h6 HX.out HG8.out H6W.out
  have y6 : w8.cell? ⟨t6, 2, none⟩ = some (.slice va ds.length vc) := by simp [World.cell?, h68, mkOpV]
  have y7 : w8.frozen? ⟨t6, 2, none⟩ = false := by simp [World.frozen?, h68]
  have hb0 : w8.cell? ⟨t2, 0, none⟩ = some (.pointer (some ⟨b, 0, none⟩)) := by
    have h1 := HLI.out.cb _ hbx0
    have h2 := HLI.out.lx _ hbx0
    simp only at h1 h2
    exact blk_cell (cs := #[(.pointer (some ⟨b, 0, none⟩))]) (T := 141) (fz := (0, 0)) (by rw [HG8.out.block t2 (block_lt h1) (fun e => by have := (HX.out.lt t2 e.symm).1; omega)]; exact h1) 0 _ rfl
  refine HK7.out _ _ ⟨fun _ => ⟨y6, hb0⟩, ?_⟩
  clear HK7 hb0
  refine wpAnyB_takeAny (i := 6) (v := (.pointer (some ⟨t6, 2, none⟩))) (by decide) rfl (by kernel_rfl) (by kernel_rfl) (by kernel_rfl) (fun _ _ _ h => h) (Or.inl ⟨by rfl, fun w _ => by go_simp⟩) ?_; simp only [Act.put, List.setIfInBounds_toArray, List.set_cons_zero, List.set_cons_succ]
  clear h68
  refine wpAnyB_one (i := 7) (by kernel_rfl) ?_
  refine wpOp_intro (by decide) (fun K9 HK9 => ?_); simp only [List.drop_succ_cons, List.drop_zero, List.take_succ_cons, List.take_zero]
  go_wp2_with fail
  refine HK9.out _ _ ⟨fun h => absurd h (by decide), ?_⟩
  clear HK9
  refine wpAnyB_done (by kernel_rfl) ?_ _
  go_wp2_with fail
  go_end0
  exact ⟨rfl, HLI.out.end0 (jj := 2) HX.out HRO.out HD.out rfl HG8.out HL8.out H6W.out HROW.out rfl⟩

end Go.Proofs.YtabcaljnpahgpaaGreatDoor
namespace Go.Proofs.YtabcaljnpahgpaaGreatDoor
set_option linter.unusedSimpArgs false
set_option linter.unusedVariables false
open Go Go.RowKit

theorem infoOp : (Tryz.prog.info? 49).map (fun i => (i.zero, i.size, i.bytes)) = some (some (.agg #[.int .i64 0, .string ⟨#[]⟩, .slice none 0 0, .slice none 0 0, .slice none 0 0, .int .i64 0]), 6, 104) := by kernel_rfl
theorem infoFr : (Tryz.prog.info? 99).map (fun i => (i.zero, i.size, i.bytes)) = some (some (.agg #[.string ⟨#[]⟩, .string ⟨#[]⟩, .slice none 0 0, .slice none 0 0, .int .i64 0]), 5, 88) := by kernel_rfl
section
variable {w : World} {P : Nat → Prop}
theorem Op_open {x : Qr.Op} {cs : List Value} (h : Reads w P x.d cs) : ∃ (a1 a2 a3 : Option Addr) (c1 c2 c3 : Nat), cs = [.int .i64 x.kind, .string ⟨x.name.toArray⟩, .slice a1 x.vars.length c1, .slice a2 x.dirs.length c2, .slice a3 x.sels.length c3, .int .i64 x.at_] ∧
    Reads w P (.seq 9 (x.vars.map Qr.Vd.d)) [.slice a1 x.vars.length c1] ∧ Reads w P (.seq 3 (x.dirs.map Qr.Dir.d)) [.slice a2 x.dirs.length c2] ∧ Reads w P (.seq 7 (x.sels.map Qr.Sel.d)) [.slice a3 x.sels.length c3] := by
  unfold Qr.Op.d at h
  obtain ⟨x1, r1, rfl, e1, h1⟩ := h.obj_inv.cons_inv
  obtain ⟨x2, r2, rfl, e2, h2⟩ := h1.cons_inv
  obtain ⟨x3, r3, rfl, e3, h3⟩ := h2.cons_inv
  obtain ⟨x4, r4, rfl, e4, h4⟩ := h3.cons_inv
  obtain ⟨x5, r5, rfl, e5, h5⟩ := h4.cons_inv
  obtain ⟨x6, r6, rfl, e6, h6⟩ := h5.cons_inv
  obtain rfl := e1.int_inv
  obtain rfl := e2.str_inv
  obtain ⟨b3, d3, rfl, _⟩ := e3.seq_inv
  obtain ⟨b4, d4, rfl, _⟩ := e4.seq_inv
  obtain ⟨b5, d5, rfl, _⟩ := e5.seq_inv
  obtain rfl := e6.int_inv
  obtain rfl := h6.nil_inv
  simp only [List.length_map] at e3 e4 e5 ⊢
  exact ⟨b3, b4, b5, d3, d4, d5, rfl, e3, e4, e5⟩
theorem Fr_open {x : Qr.Fr} {cs : List Value} (h : Reads w P x.d cs) : ∃ (a1 a2 : Option Addr) (c1 c2 : Nat), cs = [.string ⟨x.name.toArray⟩, .string ⟨x.on.toArray⟩, .slice a1 x.dirs.length c1, .slice a2 x.sels.length c2, .int .i64 x.at_] ∧
    Reads w P (.seq 3 (x.dirs.map Qr.Dir.d)) [.slice a1 x.dirs.length c1] ∧ Reads w P (.seq 7 (x.sels.map Qr.Sel.d)) [.slice a2 x.sels.length c2] := by
  unfold Qr.Fr.d at h
  obtain ⟨x1, r1, rfl, e1, h1⟩ := h.obj_inv.cons_inv
  obtain ⟨x2, r2, rfl, e2, h2⟩ := h1.cons_inv
  obtain ⟨x3, r3, rfl, e3, h3⟩ := h2.cons_inv
  obtain ⟨x4, r4, rfl, e4, h4⟩ := h3.cons_inv
  obtain ⟨x5, r5, rfl, e5, h5⟩ := h4.cons_inv
  obtain rfl := e1.str_inv
  obtain rfl := e2.str_inv
  obtain ⟨b3, d3, rfl, _⟩ := e3.seq_inv
  obtain ⟨b4, d4, rfl, _⟩ := e4.seq_inv
  obtain rfl := e5.int_inv
  obtain rfl := h5.nil_inv
  simp only [List.length_map] at e3 e4 ⊢
  exact ⟨b3, b4, d3, d4, rfl, e3, e4⟩
theorem Dir_open {x : Qr.Dir} {cs : List Value} (h : Reads w P x.d cs) : ∃ (a1 : Option Addr) (c1 : Nat), cs = [.string ⟨x.name.toArray⟩, .slice a1 x.args.length c1, .int .i64 x.at_] ∧ Reads w P (.seq 7 (x.args.map Rd.A.d)) [.slice a1 x.args.length c1] := by
  unfold Qr.Dir.d at h
  obtain ⟨x1, r1, rfl, e1, h1⟩ := h.obj_inv.cons_inv
  obtain ⟨x2, r2, rfl, e2, h2⟩ := h1.cons_inv
  obtain ⟨x3, r3, rfl, e3, h3⟩ := h2.cons_inv
  obtain rfl := e1.str_inv
  obtain ⟨b2, d2, rfl, _⟩ := e2.seq_inv
  obtain rfl := e3.int_inv
  obtain rfl := h3.nil_inv
  simp only [List.length_map] at e2 ⊢
  exact ⟨b2, d2, rfl, e2⟩
end
end Go.Proofs.YtabcaljnpahgpaaGreatDoor
namespace Go.Proofs.YtabcaljnpahgpaaGreatDoor
set_option linter.unusedSimpArgs false
set_option linter.unusedVariables false
open Go Go.RowKit

/-- A selection's walk, as deep as so many tokens allow. -/
def SelC (b g n kk : Nat) : Prop := ∀ (s : Rd.St) (w : World), RdAt w b g s → s.rest.length ≤ n → (s.err ≠ 0 ∨ s.rest.length ≤ kk) → 0 ≤ s.deep ∧ s.deep + kk ≤ 800000 →
  Calls Tryz.prog 149 #[.pointer (some ⟨b, 0, none⟩)] w (Got b g w (Qr.sel (n + 1) (kk + 1) s).2.d (Qr.sel (n + 1) (kk + 1) s).1)
def sbx (w0 : World) (b : Nat) : List Box := [(w0.heap.size, .cells #[.pointer (some ⟨b, 0, none⟩)] 141 (0, 0))]
/-- What stands while selections are read. -/
def SLI (w0 : World) (b g n kk : Nat) (d1 : Int) (s : Rd.St) (out : List Qr.Sel) (w : World) : Prop :=
  LI w0 b g (w0.heap.size + 1) (sbx w0 b) 47 mkOne 92 7 s (out.map Qr.Sel.d) w ∧ s.deep = d1 ∧ s.rest.length ≤ n ∧ (s.err ≠ 0 ∨ s.rest.length ≤ kk) ∧ (s.err = 0 → out.length + s.rest.length ≤ 1602) ∧ out.length ≤ 1603
theorem enters_SC (cap : Array Value) (w : World) : Sem.run Tryz.prog (callFunc 148 cap) w = .ok (.enter 148 cap) w := by kernel_rfl

set_option maxHeartbeats 1000000 in
set_option maxRecDepth 100000 in
theorem sels_step (b g n kk : Nat) (hnb : n ≤ 1600) (hS : SelC b g n kk) (s : Rd.St) (w : World) (h : RdAt w b g s) (hn : s.rest.length ≤ n) (hk : s.err ≠ 0 ∨ s.rest.length ≤ kk + 1) (hd : 0 ≤ s.deep ∧ s.deep + kk + 1 ≤ 800000) :
    Calls Tryz.prog 116 #[.pointer (some ⟨b, 0, none⟩)] w (GotL b g w 7 ((Qr.selsOf (Qr.sel (n + 1) (kk + 1)) s).2.map Qr.Sel.d) (Qr.selsOf (Qr.sel (n + 1) (kk + 1)) s).1) := by
  have hlb := h.lt
  have H := Lib.hid h
  have HK := Lib.hid hk
  have HS := Lib.hid hS
  obtain ⟨d0, d1⟩ := hd
  clear h hk hS
  have hLI : LI w b g (w.heap.size + 1) (sbx w b) 47 mkOne 92 7 s [] ((w.alloc (.cells #[.pointer (some ⟨b, 0, none⟩)] 141)).alloc (.cells #[.slice none 0 0] 47)) := by
    have hbb : Below w.heap.size w ((w.alloc (.cells #[.pointer (some ⟨b, 0, none⟩)] 141)).alloc (.cells #[.slice none 0 0] 47)) :=
      ((Below.refl _ _).alloc (Nat.le_refl _) _).alloc (by simp) _
    refine ⟨H.out.below hbb, fun p hp => ?_, ⟨.slice none 0 0, ?_, Grows.nil _ _ _ _ _⟩, But.of_below hbb, hlb.1, hlb.2, fun p hp => ?_, by omega⟩
    · unfold sbx at hp
      rw [List.mem_singleton.1 hp]
      show ((w.alloc _).alloc _).heap[w.heap.size]? = _
      rw [Lib.alloc_old _ _ _ (by simp)]; exact heap_at_new _ _
    · have := heap_at_new (w.alloc (.cells #[.pointer (some ⟨b, 0, none⟩)] 141)) (.cells #[.slice none 0 0] 47)
      rw [show (w.alloc (.cells #[.pointer (some ⟨b, 0, none⟩)] 141)).heap.size = w.heap.size + 1 by simp] at this
      exact this
    · unfold sbx at hp
      rw [List.mem_singleton.1 hp]
      simp only
      omega
  have HLI := Lib.hid hLI
  have k2 := hLI.cellx (t := w.heap.size) (v := .pointer (some ⟨b, 0, none⟩)) (T := 141) (by simp [sbx])
  clear hLI
  go_enter Tryz.func116, Tryz.ntmps116
  go_wp2_with fail
  refine (rdown_any b g s Rd.lbrc _ HLI.out.rd (by omega)).mono ?_
  rintro r w1 ⟨rfl, h1, f1⟩
  have HL1 := Lib.hid (HLI.out.step h1 f1)
  obtain ⟨s1, hs1⟩ : ∃ x, x = Rd.down Rd.lbrc s := ⟨_, rfl⟩
  rw [← hs1] at HL1
  have HS1 := Lib.hid hs1
  have hok1 : Rd.Ok s s1 := by rw [hs1]; exact Rd.ok_down _ _
  have hle1 : s1.rest.length ≤ n := Nat.le_trans hok1.len hn
  have hdp1 : s1.deep = s.deep + 1 := by rw [hs1]; exact Rd.down_deep _ _
  have HC1 : Hid (s1.err ≠ 0 ∨ s1.rest.length ≤ kk) := by
    refine Lib.hid ?_
    rcases HK.out with hx | hx
    · left; rw [hok1.err hx]; exact hx
    · rcases Qr.down_less Rd.lbrc s with hy | hy
      · left; rw [hs1]; exact hy
      · right; rw [hs1]; omega
  have HD1 := Lib.hid hdp1
  have HCL : Hid (∀ (s2 : Rd.St) (out : List Qr.Sel) (w1 : World), LI w b g (w.heap.size + 1) (sbx w b) 47 mkOne 92 7 s2 (out.map Qr.Sel.d) w1 → s2.rest.length ≤ n → (s2.err ≠ 0 ∨ s2.rest.length ≤ kk) → s2.deep = s.deep + 1 → out.length ≤ 1000000 →
      Calls Tryz.prog 148 #[.pointer (some ⟨w.heap.size + 1, 0, none⟩), .pointer (some ⟨w.heap.size, 0, none⟩)] w1 fun r w' => r = .returned (.tuple #[]) ∧
        LI w b g (w.heap.size + 1) (sbx w b) 47 mkOne 92 7 (Qr.sel (n + 1) (kk + 1) s2).1 ((out ++ [(Qr.sel (n + 1) (kk + 1) s2).2]).map Qr.Sel.d) w') :=
    Lib.hid fun s2 out w1 hl hr hc hdp ho => by
      rw [List.map_append]
      exact selsC_any w b g (w.heap.size + 1) (sbx w b) w.heap.size (n + 1) (kk + 1) (by simp [sbx]) s2 (out.map Qr.Sel.d) w1
        (fun w2 hr2 => HS.out s2 w2 hr2 hr hc (by rw [hdp]; omega)) hl (by rw [List.length_map]; exact ho)
  have HDP := Lib.hid (Qr.sel_deep (n + 1) (kk + 1))
  have HOK := Lib.hid (Qr.ok_sel (n + 1) (kk + 1))
  have HGO := Lib.hid (Qr.sel_goes (n + 1) kk)
  have HOUT := Lib.hid (show Qr.selsOf (Qr.sel (n + 1) (kk + 1)) s = (Rd.up Rd.rbrc (Rd.loop1 Rd.rbrc (Qr.sel (n + 1) (kk + 1)) (s1.rest.length + 1) s1).1, (Rd.loop1 Rd.rbrc (Qr.sel (n + 1) (kk + 1)) (s1.rest.length + 1) s1).2) by rw [hs1]; rfl)
  clear h1 f1 k2 hs1 hok1 hdp1
  have k2 : w1.cell? ⟨w.heap.size, 0, none⟩ = some (.pointer (some ⟨b, 0, none⟩)) := HL1.out.cellx (T := 141) (by simp [sbx])
  go_wp2_with fail
  refine (some1_any Rd.rbrc (Qr.sel (n + 1) (kk + 1)) (SLI w b g n kk (s.deep + 1)) b g _ _ (enters_SC _) (fun s out w' h => h.1.rd) (fun s out w1 w2 h hb => ⟨h.1.below hb, h.2⟩) (fun s2 out w2 h he => ?_) (fun s2 out w2 h he _ => HGO.out s2 he) (s1.rest.length + 1) s1 w1 ?_ (.inr (Nat.lt_succ_of_le (HOK.out s1).len))).mono ?_
  · refine (HCL.out s2 out w2 h.1 h.2.2.1 h.2.2.2.1 h.2.1 (by have := h.2.2.2.2.2; omega)).mono ?_
    rintro r w3 ⟨hre, hli⟩
    have hlen := (HOK.out s2).len
    have hg := HGO.out s2 he
    have h5 := h.2.2.2.2.1 he
    refine ⟨hre, hli, by rw [HDP.out]; exact h.2.1, Nat.le_trans hlen h.2.2.1, ?_, fun he2 => ?_, by rw [List.length_append]; simp; omega⟩
    · rcases h.2.2.2.1 with hx | hx
      · exact absurd he hx
      · right; omega
    · rcases hg with hx | hx
      · exact absurd he2 hx
      · rw [List.length_append]
        simp
        omega
  · refine (HCL.out s1 [] w1 HL1.out hle1 HC1.out HD1.out (by simp)).mono ?_
    rintro r w3 ⟨hre, hli⟩
    have hlen := (HOK.out s1).len
    refine ⟨hre, hli, by rw [HDP.out]; exact HD1.out, by omega, ?_, fun _ => by simp; omega, by simp⟩
    rcases HC1.out with hx | hx
    · left; rw [(HOK.out s1).err hx]; exact hx
    · right; omega
  rintro r w5 ⟨rfl, hL⟩
  obtain ⟨L, hLL⟩ : ∃ x, x = Rd.loop1 Rd.rbrc (Qr.sel (n + 1) (kk + 1)) (s1.rest.length + 1) s1 := ⟨_, rfl⟩
  rw [← hLL] at hL
  have HLL := Lib.hid hLL
  have HL := Lib.hid hL
  have hdl := hL.2.1
  clear k2 hLL hL
  have k2 : w5.cell? ⟨w.heap.size, 0, none⟩ = some (.pointer (some ⟨b, 0, none⟩)) := HL.out.1.cellx (T := 141) (by simp [sbx])
  have hdr : -1000000 ≤ L.1.deep ∧ L.1.deep ≤ 1000000 := by omega
  have HDR := Lib.hid hdr
  clear hdl hdr
  go_wp2_with fail
  refine (rup_any b g L.1 Rd.rbrc w5 HL.out.1.rd HDR.out).mono ?_
  rintro r w6 ⟨rfl, h6, f6⟩
  have HL6 := Lib.hid (HL.out.1.step h6 f6)
  obtain ⟨v, hv, hg⟩ := HL6.out.ex
  obtain ⟨va, vc, rfl⟩ := hg.form
  have k3 := blk_cell hv 0 (.slice va (L.2.map Qr.Sel.d).length vc) rfl
  have HG := Lib.hid hg
  clear hv hg h6 f6 k2
  go_wp2_with fail
  go_ret
  rw [HOUT.out, ← HLL.out]
  refine ⟨va, vc, by simp, ?_, HL6.out.rd, HL6.out.fr⟩
  exact HG.out.reads.to (Stands.sub w6 (fun x _ hp => by
    rcases hp with hp | hp
    · have := hp.1; show w.heap.size ≤ x; omega
    · have := Nat.le_trans (LB_t6 _ _) (HG.out.lt x hp).1; show w.heap.size ≤ x; omega))
end Go.Proofs.YtabcaljnpahgpaaGreatDoor
namespace Go.Proofs.YtabcaljnpahgpaaGreatDoor
set_option linter.unusedSimpArgs false
set_option linter.unusedVariables false
open Go Go.RowKit

/-- A block that is filled, and what its fields hold, in blocks from lo on. -/
structure FJ (w0 : World) (b g t6 lo : Nat) (bx : List Box) (T6 : TypeId) (ds : List D) (cs : List Value) (s : Rd.St) (w : World) : Prop where
  rd : RdAt w b g s
  cb : ∀ p ∈ bx, w.heap[p.1]? = some p.2
  b6 : w.heap[t6]? = some (.cells cs.toArray T6 (0, 0))
  fr : Fr b w0 w
  lb : b < w0.heap.size
  lg : g < w0.heap.size
  lx : ∀ p ∈ bx, w0.heap.size ≤ p.1 ∧ p.1 < lo ∧ p.1 ≠ t6
  l6 : w0.heap.size ≤ t6 ∧ t6 < lo
  hi : lo ≤ w.heap.size
  rr : ReadsR w (fun x => lo ≤ x) ds cs
section
variable {w0 w w' : World} {b g t6 lo : Nat} {bx : List Box} {T6 : TypeId} {ds : List D} {cs : List Value} {s s' : Rd.St}
theorem FJ.step (h : FJ w0 b g t6 lo bx T6 ds cs s w) (hr : RdAt w' b g s') (hf : Fr b w w') : FJ w0 b g t6 lo bx T6 ds cs s' w' := by
  have lb := h.lb
  have l6 := h.l6
  refine ⟨hr, fun p hp => ?_, ?_, h.fr.trans hf, lb, h.lg, h.lx, l6, Nat.le_trans h.hi hf.size, h.rr.to ⟨hf.size, fun x hx hp => ⟨hp, hf.block x hx (by have h3 : lo ≤ x := hp; omega)⟩⟩⟩
  · have hp1 := h.cb p hp
    have hp2 := h.lx p hp
    rw [hf.block p.1 (block_lt hp1) (by omega)]
    exact hp1
  · rw [hf.block t6 (block_lt h.b6) (by omega)]
    exact h.b6
theorem FJ.below (h : FJ w0 b g t6 lo bx T6 ds cs s w) (hb : Below w.heap.size w w') : FJ w0 b g t6 lo bx T6 ds cs s w' := h.step (h.rd.below hb) (But.of_below hb)
theorem FJ.put (h : FJ w0 b g t6 lo bx T6 ds cs s w) (j : Nat) {d : D} {v : Value} (hv : Reads w (fun x => lo ≤ x) d [v]) (ho : ds.all D.one = true) : FJ w0 b g t6 lo bx T6 (ds.set j d) (cs.set j v) s (w.setCell ⟨t6, j, none⟩ v) := by
  have lb := h.lb
  have lg := h.lg
  have l6 := h.l6
  refine ⟨h.rd.set_ne (by omega) (by omega) _ _, fun p hp => ?_, ?_, h.fr.setCell (.inr l6.1) v, lb, lg, h.lx, l6, by rw [size_set]; exact h.hi, (h.rr.set hv j ho).to ⟨by rw [size_set]; exact Nat.le_refl _, fun x hx hp => ⟨hp, heap_set_ne (by have h3 : lo ≤ x := hp; omega)⟩⟩⟩
  · have hp2 := h.lx p hp
    rw [heap_set_ne (by omega)]
    exact h.cb p hp
  · have := heap_set1 (k := j) (v := v) h.b6
    rwa [List.setIfInBounds_toArray] at this
/-- A callee's data. -/
theorem FJ.data (h : FJ w0 b g t6 lo bx T6 ds cs s w) {d : D} {us : List Value} (hd : Reads w' (fun x => w.heap.size ≤ x) d us) : Reads w' (fun x => lo ≤ x) d us :=
  hd.to (Stands.sub w' (fun x _ hp => Nat.le_trans h.hi hp))
theorem FJ.fin {r : Nat} {o : Obj} (h : FJ w0 b g t6 lo bx T6 ds cs s w) (hr : (r, o) ∈ bx) :
    Reads (putCells w r 0 cs) (fun x => w0.heap.size ≤ x) (.obj ds) cs ∧ RdAt (putCells w r 0 cs) b g s ∧ Fr b w0 (putCells w r 0 cs) := by
  have lb := h.lb
  have lg := h.lg
  have l6 := h.l6
  have hr2 := h.lx _ hr
  simp only at hr2
  have hk : ∀ x, x ≠ r → (putCells w r 0 cs).heap[x]? = w.heap[x]? := fun x h1 => putCells_ne _ _ h1 _ _ _
  have hsz := putCells_size r cs 0 w
  have ho := putCells_os r cs 0 w
  refine ⟨(Reads.obj h.rr).to ⟨by rw [hsz]; exact Nat.le_refl _, fun x hx hp => ⟨by have h3 : lo ≤ x := hp; show w0.heap.size ≤ x; omega, hk x (by have h3 : lo ≤ x := hp; omega)⟩⟩, h.rd.to (by rw [hsz]; exact Nat.le_refl _) (hk b (by omega)) (hk g (by omega)), ⟨ho.1.trans h.fr.os, ho.2.1.trans h.fr.tape, ho.2.2.trans h.fr.output, by rw [hsz]; exact h.fr.size, fun x hx hxb => by
    rw [hk x (by omega)]
    exact h.fr.block x hx hxb⟩⟩
end
end Go.Proofs.YtabcaljnpahgpaaGreatDoor
