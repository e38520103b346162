/-
  The reader of types: what is done for each argument, field, member, input (closures), walked. The reader of types: field, walked. The reader of types: within, walked, whatever is done.
-/
import Derived.Test.YtabcaljnpahgpaaGreatDoorK15
import Derived.Test.YtabcaljnpahgpaaGreatDoorK2
namespace Go.Proofs.YtabcaljnpahgpaaGreatDoor
set_option linter.unusedSimpArgs false
set_option linter.unusedVariables false
open Go Go.RowKit

theorem infoIn : (Tryz.prog.info? 137).map (fun i => (i.zero, i.size, i.bytes)) = some (some (.agg #[.string ⟨#[]⟩, .string ⟨#[]⟩, .bool false, .int .i64 0, .string ⟨#[]⟩, .slice none 0 0, .slice none 0 0, .int .i64 0, .int .i64 0]), 9, 128) := by kernel_rfl
theorem infoFd : (Tryz.prog.info? 72).map (fun i => (i.zero, i.size, i.bytes)) = some (some (.agg #[.string ⟨#[]⟩, .slice none 0 0, .string ⟨#[]⟩, .int .i64 0]), 4, 64) := by kernel_rfl
def mkArgs (nm : ByteArray) (a : Nat) (v : Value) : Array Value := #[.string nm, v, .string ⟨#[]⟩, .int .i64 a]
def mkTF (kd : Nat) (nm : ByteArray) (iv : Value) (a : Nat) (v : Value) : Array Value := #[.int .i64 kd, .string nm, iv, v, .slice none 0 0, .slice none 0 0, .int .i64 a]
def mkTM (kd : Nat) (nm : ByteArray) (a : Nat) (v : Value) : Array Value := #[.int .i64 kd, .string nm, .slice none 0 0, .slice none 0 0, v, .slice none 0 0, .int .i64 a]
def mkTI (kd : Nat) (nm : ByteArray) (a : Nat) (v : Value) : Array Value := #[.int .i64 kd, .string nm, .slice none 0 0, .slice none 0 0, .slice none 0 0, v, .int .i64 a]
theorem In_cells {w : World} {P : Nat → Prop} {x : Sd.In} {cs : List Value} (h : Reads w P x.d cs) : ∃ (nm ty t : ByteArray) (hb : Bool) (k a b' : Int) (a1 a2 : Option Addr) (n1 c1 n2 c2 : Nat), cs = [.string nm, .string ty, .bool hb, .int .i64 k, .string t, .slice a1 n1 c1, .slice a2 n2 c2, .int .i64 a, .int .i64 b'] := by
  unfold Sd.In.d at h
  obtain ⟨x1, r1, rfl, e1, h1⟩ := h.obj_inv.cons_inv
  obtain ⟨x2, r2, rfl, e2, h2⟩ := h1.cons_inv
  obtain ⟨x3, r3, rfl, e3, h3⟩ := h2.cons_inv
  obtain ⟨x4, r4, rfl, e4, h4⟩ := h3.cons_inv
  obtain ⟨x5, r5, rfl, e5, h5⟩ := h4.cons_inv
  obtain rfl := e1.str_inv
  obtain rfl := e2.str_inv
  obtain rfl := e3.bool_inv
  obtain ⟨k, a, t, a1, a2, n1, c1, n2, c2, rfl⟩ := V_cells e4
  obtain rfl := e5.int_inv
  obtain rfl := h5.nil_inv
  exact ⟨_, _, _, _, _, _, _, _, _, _, _, _, _, rfl⟩
theorem Fd_cells {w : World} {P : Nat → Prop} {x : Sd.Fd} {cs : List Value} (h : Reads w P x.d cs) : ∃ (nm ty : ByteArray) (a : Int) (a1 : Option Addr) (n1 c1 : Nat), cs = [.string nm, .slice a1 n1 c1, .string ty, .int .i64 a] := by
  unfold Sd.Fd.d at h
  obtain ⟨x1, r1, rfl, e1, h1⟩ := h.obj_inv.cons_inv
  obtain ⟨x2, r2, rfl, e2, h2⟩ := h1.cons_inv
  obtain ⟨x3, r3, rfl, e3, h3⟩ := h2.cons_inv
  obtain ⟨x4, r4, rfl, e4, h4⟩ := h3.cons_inv
  obtain rfl := e1.str_inv
  obtain ⟨b1, d1, rfl, _⟩ := e2.seq_inv
  obtain rfl := e3.str_inv
  obtain rfl := e4.int_inv
  obtain rfl := h4.nil_inv
  exact ⟨_, _, _, _, _, _, rfl⟩
set_option maxHeartbeats 1000000 in
set_option maxRecDepth 100000 in
theorem fieldC_any (w0 : World) (b g t6 : Nat) (bx : List Box) (t2 : Nat) (nm : ByteArray) (at_ m : Nat) (hbx0 : (t2, Obj.cells #[(.pointer (some ⟨b, 0, none⟩))] 73 (0, 0)) ∈ bx) (s : Rd.St) (ds : List D) (w : World)
    (hval : ∀ w, RdAt w b g s → Calls Tryz.prog 80 #[(.pointer (some ⟨b, 0, none⟩))] w (Got b g w (Sd.input m s).2.d (Sd.input m s).1))
    (h : LI w0 b g t6 bx 72 (mkArgs nm at_) 137 9 s ds w) (hl : ds.length ≤ 1000000) :
    Calls Tryz.prog 113 #[.pointer (some ⟨t6, 0, none⟩), .pointer (some ⟨t2, 0, none⟩)] w fun r w' => r = .returned (.tuple #[]) ∧ LI w0 b g t6 bx 72 (mkArgs nm at_) 137 9 (Sd.input m s).1 (ds ++ [(Sd.input m s).2.d]) w' := by
  obtain ⟨i0, hi, hz0, hz1, hz2⟩ := info_parts infoIn
  obtain ⟨v, h6, hG⟩ := h.ex
  obtain ⟨va, vc, hv⟩ := hG.form
  subst hv
  obtain ⟨⟨xs, hx, hro⟩, hap⟩ := hG
  have hvl : ∀ x, (Value.slice va ds.length vc).ownBlock = some x → LB t6 bx ≤ x ∧ x < w.heap.size := hx.lt
  have hlb6 := LB_t6 t6 bx
  have hlt6 := block_lt h6
  have lb := h.lb
  have l6 := h.l6
  obtain ⟨s', hs'⟩ : ∃ x, x = (Sd.input m s).1 := ⟨_, rfl⟩
  obtain ⟨d, hd'⟩ : ∃ x, x = (Sd.input m s).2.d := ⟨_, rfl⟩
  have HVC : Hid (∀ (w : World) (P : Nat → Prop) (cs : List Value), Reads w P d cs → ∃ (nm2 ty2 t : ByteArray) (hb : Bool) (k a b' : Int) (a1 a2 : Option Addr) (n1 c1 n2 c2 : Nat), cs = [.string nm2, .string ty2, .bool hb, .int .i64 k, .string t, .slice a1 n1 c1, .slice a2 n2 c2, .int .i64 a, .int .i64 b']) :=
    Lib.hid fun w P cs hh => In_cells (by rw [← hd']; exact hh)
  have HVAL := Lib.hid hval
  rw [← hs', ← hd']
  have HSE := Lib.hid hs'
  have HDE := Lib.hid hd'
  have H := Lib.hid h
  have HRS := Lib.hid hro
  have H6 := Lib.hid h6
  have HVL := Lib.hid hvl
  have HST : Hid (∀ w', Fr b w w' → Stands w (fun x => t6 < x ∧ (Value.slice va ds.length vc).ownBlock ≠ some x) w' (fun x => t6 < x ∧ (Value.slice va ds.length vc).ownBlock ≠ some x)) :=
    Lib.hid fun w' hf => ⟨hf.size, fun x hx2 hp => ⟨hp, hf.block x hx2 (by omega)⟩⟩
  have HROWS : Hid (∀ w', Fr b w w' → w'.ownsRow (LB t6 bx) 137 9 (.slice va ds.length vc) ds.length xs) := Lib.hid fun w' hf => row_to hx (fun x hx2 => hf.block x (hvl x hx2).2 (by have := (hvl x hx2).1; omega))
  have hS : w.cell? ⟨t6, 1, none⟩ = some (.slice va ds.length vc) ∧ w.cell? ⟨t2, 0, none⟩ = some (.pointer (some ⟨b, 0, none⟩)) :=
    ⟨by simp [World.cell?, h6, mkArgs], h.cellx hbx0⟩
  have HSS := Lib.hid hS
  have HSF : Hid (∀ w', Fr b w w' → w'.cell? ⟨t6, 1, none⟩ = some (.slice va ds.length vc) ∧ w'.cell? ⟨t2, 0, none⟩ = some (.pointer (some ⟨b, 0, none⟩))) := by
    refine Lib.hid fun w' hf => ⟨?_, h.cellf hf hbx0⟩
    rw [hf.cell (p := ⟨t6, 1, none⟩) hlt6 (by show ¬ t6 = b; omega)]
    exact HSS.out.1
  clear h hx hro h6 hvl hval hs' hd' hap
  go_enter Tryz.func113, Tryz.ntmps113
  go_wp2_with fail
  refine wp_region_phase (fun w' => w'.cell? ⟨t6, 1, none⟩ = some (.slice va ds.length vc) ∧ w'.cell? ⟨t2, 0, none⟩ = some (.pointer (some ⟨b, 0, none⟩))) 6 (by kernel_rfl) ?_
  refine wpAnyB_take (i := 0) (v := (.pointer (some ⟨t6, 1, none⟩))) (by kernel_rfl) (by decide) rfl (by kernel_rfl) (by kernel_rfl) (by kernel_rfl) (fun _ _ _ h => h) (Or.inl ⟨by rfl, fun w hSw => by obtain ⟨s0, s1⟩ := hSw; go_simp⟩) hS ?_; simp only [Act.put, List.setIfInBounds_toArray, List.set_cons_zero, List.set_cons_succ]
  refine wpAnyB_take (i := 1) (v := (.slice va ds.length vc)) (by kernel_rfl) (by decide) rfl (by kernel_rfl) (by kernel_rfl) (by kernel_rfl) (fun _ _ _ h => h) (Or.inl ⟨by rfl, fun w hSw => by obtain ⟨s0, s1⟩ := hSw; go_simp⟩) hS ?_; simp only [Act.put, List.setIfInBounds_toArray, List.set_cons_zero, List.set_cons_succ]
  refine wpAnyB_take (i := 2) (v := (.pointer (some ⟨b, 0, none⟩))) (by kernel_rfl) (by decide) rfl (by kernel_rfl) (by kernel_rfl) (by kernel_rfl) (fun _ _ _ h => h) (Or.inl ⟨by rfl, fun w hSw => by obtain ⟨s0, s1⟩ := hSw; go_simp⟩) hS ?_; simp only [Act.put, List.setIfInBounds_toArray, List.set_cons_zero, List.set_cons_succ]
  clear hS
  refine wpAnyB_one (i := 3) (by kernel_rfl) ?_
  refine wpOp_intro (by decide) (fun K4 HK4 => ?_); simp only [List.drop_succ_cons, List.drop_zero, List.take_succ_cons, List.take_zero]
  go_wp2_with fail
  refine (HVAL.out w.drew (H.out.rd.to (Nat.le_refl _) rfl rfl)).mono ?_
  rintro r w2 ⟨cs, rfl, hrd, hr2, hf2⟩
  have hf : Fr b w w2 := ⟨hf2.os, hf2.tape, hf2.output, hf2.size, hf2.block⟩
  clear hf2
  rw [← HSE.out] at hr2
  rw [← HDE.out] at hrd
  obtain ⟨nm2, ty2, t, hb, k, a, b', a1, a2, n1, c1, n2, c2, rfl⟩ := HVC.out _ _ _ hrd
  have HRD := Lib.hid hrd
  have HF := Lib.hid hf
  have HR2 := Lib.hid hr2
  clear hrd hr2 hf
  go_wp2_with fail
  refine HK4.out _ _ ⟨fun _ => HSF.out _ HF.out, ?_⟩
  clear HK4
  refine wpAnyB_one (i := 4) (by kernel_rfl) ?_
  refine wpOp_intro (by decide) (fun K6 HK6 => ?_); simp only [List.drop_succ_cons, List.drop_zero, List.take_succ_cons, List.take_zero]
  go_wp2_with fail
  have HBA : Hid (Below w2.heap.size w2 (w2.alloc (.cells #[.string nm2, .string ty2, .bool hb, .int .i64 k, .string t, .slice a1 n1 c1, .slice a2 n2 c2, .int .i64 a, .int .i64 b'] 137))) := Lib.hid ((Below.refl _ _).alloc (Nat.le_refl _) _)
  have HFA := Lib.hid (HF.out.trans (But.of_below (X := fun k => k = b) HBA.out))
  refine HK6.out _ _ ⟨fun _ => HSF.out _ HFA.out, ?_⟩
  clear HK6
  have HLI := Lib.hid ((H.out.step HR2.out HF.out).below HBA.out)
  have HX := Lib.hid (HROWS.out _ HFA.out)
  have HRO := Lib.hid (HRS.out.to (HST.out _ HFA.out))
  have H6W : Hid ((w2.alloc (.cells #[.string nm2, .string ty2, .bool hb, .int .i64 k, .string t, .slice a1 n1 c1, .slice a2 n2 c2, .int .i64 a, .int .i64 b'] 137)).heap[t6]? = some (.cells ((mkArgs nm at_) (.slice va ds.length vc)) 72 (0, 0))) := Lib.hid (by rw [HFA.out.block t6 hlt6 (by omega)]; exact H6.out)
  have HD := Lib.hid (HRD.out.to (w' := w2.alloc (.cells #[.string nm2, .string ty2, .bool hb, .int .i64 k, .string t, .slice a1 n1 c1, .slice a2 n2 c2, .int .i64 a, .int .i64 b'] 137)) (Q := fun x => t6 < x ∧ (Value.slice va ds.length vc).ownBlock ≠ some x) ⟨HBA.out.size, fun x hx2 hp => ⟨⟨Nat.lt_of_lt_of_le hlt6 hp, fun e => by have h1 := (HVL.out x e).2; have h2 : w.heap.size ≤ x := hp; omega⟩, HBA.out.block x hx2⟩⟩)
  have HLIT : Hid (∀ j u, ([.string nm2, .string ty2, .bool hb, .int .i64 k, .string t, .slice a1 n1 c1, .slice a2 n2 c2, .int .i64 a, .int .i64 b'] : List Value)[j]? = some u → (w2.alloc (.cells #[.string nm2, .string ty2, .bool hb, .int .i64 k, .string t, .slice a1 n1 c1, .slice a2 n2 c2, .int .i64 a, .int .i64 b'] 137)).cell? ((⟨w2.heap.size, 0, none⟩ : Addr).add j) = some u) := Lib.hid (lit_cells (fz := (0, 0)) (heap_at_new _ _))
  have HONE := Lib.hid (Reads.one HRD.out)
  have hbase : LB t6 bx ≤ (w2.alloc (.cells #[.string nm2, .string ty2, .bool hb, .int .i64 k, .string t, .slice a1 n1 c1, .slice a2 n2 c2, .int .i64 a, .int .i64 b'] 137)).heap.size := HLI.out.low
  refine wpAnyB_one (i := 5) (by kernel_rfl) ?_
  refine wpOp_intro (by decide) (fun K7 HK7 => ?_); simp only [List.drop_succ_cons, List.drop_zero, List.take_succ_cons, List.take_zero]
  go_wp2_with (first | (at_builtin; refine wpList_append_own_at _ rfl _ _ 36 rfl (LB t6 bx) 137 i0 _ 9 128 Tryz.underlying36 hi hz0 hz1 hz2 rfl (by decide) (.slice va ds.length vc) ds.length xs rfl HX.out ⟨w2.heap.size, 0, none⟩ 1 1 [.string nm2, .string ty2, .bool hb, .int .i64 k, .string t, .slice a1 n1 c1, .slice a2 n2 c2, .int .i64 a, .int .i64 b'] rfl rfl HLIT.out HONE.out (by unfold maxLen; omega) (by omega) hbase ?_; intro v' w8 hrow8 hg8 hnil8 hloc8; clear hnil8; obtain ⟨g', c', rfl, hg1, hg2⟩ := rowForm hrow8 (by omega); have HROW := Lib.hid hrow8; have HG8 := Lib.hid hg8; have HL8 := Lib.hid hloc8; clear hrow8 hg8 hloc8) | fail)
  have h68 := HLI.out.h6 HX.out HG8.out H6W.out
  have y6 : w8.cell? ⟨t6, 1, none⟩ = some (.slice va ds.length vc) := by simp [World.cell?, h68, mkArgs]
  have y7 : w8.frozen? ⟨t6, 1, none⟩ = false := by simp [World.frozen?, h68]
  have hb0 : w8.cell? ⟨t2, 0, none⟩ = some (.pointer (some ⟨b, 0, none⟩)) := by
    have h1 := HLI.out.cb _ hbx0
    have h2 := HLI.out.lx _ hbx0
    simp only at h1 h2
    exact blk_cell (cs := #[(.pointer (some ⟨b, 0, none⟩))]) (T := 73) (fz := (0, 0)) (by rw [HG8.out.block t2 (block_lt h1) (fun e => by have := (HX.out.lt t2 e.symm).1; omega)]; exact h1) 0 _ rfl
  refine HK7.out _ _ ⟨fun _ => ⟨y6, hb0⟩, ?_⟩
  clear HK7 hb0
  refine wpAnyB_takeAny (i := 6) (v := (.pointer (some ⟨t6, 1, none⟩))) (by decide) rfl (by kernel_rfl) (by kernel_rfl) (by kernel_rfl) (fun _ _ _ h => h) (Or.inl ⟨by rfl, fun w _ => by go_simp⟩) ?_; simp only [Act.put, List.setIfInBounds_toArray, List.set_cons_zero, List.set_cons_succ]
  clear h68
  refine wpAnyB_one (i := 7) (by kernel_rfl) ?_
  refine wpOp_intro (by decide) (fun K9 HK9 => ?_); simp only [List.drop_succ_cons, List.drop_zero, List.take_succ_cons, List.take_zero]
  go_wp2_with fail
  refine HK9.out _ _ ⟨fun h => absurd h (by decide), ?_⟩
  clear HK9
  refine wpAnyB_done (by kernel_rfl) ?_ _
  go_wp2_with fail
  go_end0
  exact ⟨rfl, HLI.out.end0 (jj := 1) HX.out HRO.out HD.out rfl HG8.out HL8.out H6W.out HROW.out rfl⟩

set_option maxHeartbeats 1000000 in
set_option maxRecDepth 100000 in
theorem defC1_any (w0 : World) (b g t6 : Nat) (bx : List Box) (t2 : Nat) (kd : Nat) (nm : ByteArray) (iv : Value) (at_ m : Nat) (hbx0 : (t2, Obj.cells #[(.pointer (some ⟨b, 0, none⟩))] 73 (0, 0)) ∈ bx) (s : Rd.St) (ds : List D) (w : World)
    (hval : ∀ w, RdAt w b g s → Calls Tryz.prog 75 #[(.pointer (some ⟨b, 0, none⟩))] w (Got b g w (Sd.field m s).2.d (Sd.field m s).1))
    (h : LI w0 b g t6 bx 38 (mkTF kd nm iv at_) 72 4 s ds w) (hl : ds.length ≤ 1000000) :
    Calls Tryz.prog 74 #[.pointer (some ⟨t6, 0, none⟩), .pointer (some ⟨t2, 0, none⟩)] w fun r w' => r = .returned (.tuple #[]) ∧ LI w0 b g t6 bx 38 (mkTF kd nm iv at_) 72 4 (Sd.field m s).1 (ds ++ [(Sd.field m s).2.d]) w' := by
  obtain ⟨i0, hi, hz0, hz1, hz2⟩ := info_parts infoFd
  obtain ⟨v, h6, hG⟩ := h.ex
  obtain ⟨va, vc, hv⟩ := hG.form
  subst hv
  obtain ⟨⟨xs, hx, hro⟩, hap⟩ := hG
  have hvl : ∀ x, (Value.slice va ds.length vc).ownBlock = some x → LB t6 bx ≤ x ∧ x < w.heap.size := hx.lt
  have hlb6 := LB_t6 t6 bx
  have hlt6 := block_lt h6
  have lb := h.lb
  have l6 := h.l6
  obtain ⟨s', hs'⟩ : ∃ x, x = (Sd.field m s).1 := ⟨_, rfl⟩
  obtain ⟨d, hd'⟩ : ∃ x, x = (Sd.field m s).2.d := ⟨_, rfl⟩
  have HVC : Hid (∀ (w : World) (P : Nat → Prop) (cs : List Value), Reads w P d cs → ∃ (nm2 ty2 : ByteArray) (k : Int) (a1 : Option Addr) (n1 c1 : Nat), cs = [.string nm2, .slice a1 n1 c1, .string ty2, .int .i64 k]) :=
    Lib.hid fun w P cs hh => Fd_cells (by rw [← hd']; exact hh)
  have HVAL := Lib.hid hval
  rw [← hs', ← hd']
  have HSE := Lib.hid hs'
  have HDE := Lib.hid hd'
  have H := Lib.hid h
  have HRS := Lib.hid hro
  have H6 := Lib.hid h6
  have HVL := Lib.hid hvl
  have HST : Hid (∀ w', Fr b w w' → Stands w (fun x => t6 < x ∧ (Value.slice va ds.length vc).ownBlock ≠ some x) w' (fun x => t6 < x ∧ (Value.slice va ds.length vc).ownBlock ≠ some x)) :=
    Lib.hid fun w' hf => ⟨hf.size, fun x hx2 hp => ⟨hp, hf.block x hx2 (by omega)⟩⟩
  have HROWS : Hid (∀ w', Fr b w w' → w'.ownsRow (LB t6 bx) 72 4 (.slice va ds.length vc) ds.length xs) := Lib.hid fun w' hf => row_to hx (fun x hx2 => hf.block x (hvl x hx2).2 (by have := (hvl x hx2).1; omega))
  have hS : w.cell? ⟨t6, 3, none⟩ = some (.slice va ds.length vc) ∧ w.cell? ⟨t2, 0, none⟩ = some (.pointer (some ⟨b, 0, none⟩)) :=
    ⟨by simp [World.cell?, h6, mkTF], h.cellx hbx0⟩
  have HSS := Lib.hid hS
  have HSF : Hid (∀ w', Fr b w w' → w'.cell? ⟨t6, 3, none⟩ = some (.slice va ds.length vc) ∧ w'.cell? ⟨t2, 0, none⟩ = some (.pointer (some ⟨b, 0, none⟩))) := by
    refine Lib.hid fun w' hf => ⟨?_, h.cellf hf hbx0⟩
    rw [hf.cell (p := ⟨t6, 3, none⟩) hlt6 (by show ¬ t6 = b; omega)]
    exact HSS.out.1
  clear h hx hro h6 hvl hval hs' hd' hap
  go_enter Tryz.func74, Tryz.ntmps74
  go_wp2_with fail
  refine wp_region_phase (fun w' => w'.cell? ⟨t6, 3, none⟩ = some (.slice va ds.length vc) ∧ w'.cell? ⟨t2, 0, none⟩ = some (.pointer (some ⟨b, 0, none⟩))) 6 (by kernel_rfl) ?_
  refine wpAnyB_take (i := 0) (v := (.pointer (some ⟨t6, 3, none⟩))) (by kernel_rfl) (by decide) rfl (by kernel_rfl) (by kernel_rfl) (by kernel_rfl) (fun _ _ _ h => h) (Or.inl ⟨by rfl, fun w hSw => by obtain ⟨s0, s1⟩ := hSw; go_simp⟩) hS ?_; simp only [Act.put, List.setIfInBounds_toArray, List.set_cons_zero, List.set_cons_succ]
  refine wpAnyB_take (i := 1) (v := (.slice va ds.length vc)) (by kernel_rfl) (by decide) rfl (by kernel_rfl) (by kernel_rfl) (by kernel_rfl) (fun _ _ _ h => h) (Or.inl ⟨by rfl, fun w hSw => by obtain ⟨s0, s1⟩ := hSw; go_simp⟩) hS ?_; simp only [Act.put, List.setIfInBounds_toArray, List.set_cons_zero, List.set_cons_succ]
  refine wpAnyB_take (i := 2) (v := (.pointer (some ⟨b, 0, none⟩))) (by kernel_rfl) (by decide) rfl (by kernel_rfl) (by kernel_rfl) (by kernel_rfl) (fun _ _ _ h => h) (Or.inl ⟨by rfl, fun w hSw => by obtain ⟨s0, s1⟩ := hSw; go_simp⟩) hS ?_; simp only [Act.put, List.setIfInBounds_toArray, List.set_cons_zero, List.set_cons_succ]
  clear hS
  refine wpAnyB_one (i := 3) (by kernel_rfl) ?_
  refine wpOp_intro (by decide) (fun K4 HK4 => ?_); simp only [List.drop_succ_cons, List.drop_zero, List.take_succ_cons, List.take_zero]
  go_wp2_with fail
  refine (HVAL.out w.drew (H.out.rd.to (Nat.le_refl _) rfl rfl)).mono ?_
  rintro r w2 ⟨cs, rfl, hrd, hr2, hf2⟩
  have hf : Fr b w w2 := ⟨hf2.os, hf2.tape, hf2.output, hf2.size, hf2.block⟩
  clear hf2
  rw [← HSE.out] at hr2
  rw [← HDE.out] at hrd
  obtain ⟨nm2, ty2, k, a1, n1, c1, rfl⟩ := HVC.out _ _ _ hrd
  have HRD := Lib.hid hrd
  have HF := Lib.hid hf
  have HR2 := Lib.hid hr2
  clear hrd hr2 hf
  go_wp2_with fail
  refine HK4.out _ _ ⟨fun _ => HSF.out _ HF.out, ?_⟩
  clear HK4
  refine wpAnyB_one (i := 4) (by kernel_rfl) ?_
  refine wpOp_intro (by decide) (fun K6 HK6 => ?_); simp only [List.drop_succ_cons, List.drop_zero, List.take_succ_cons, List.take_zero]
  go_wp2_with fail
  have HBA : Hid (Below w2.heap.size w2 (w2.alloc (.cells #[.string nm2, .slice a1 n1 c1, .string ty2, .int .i64 k] 72))) := Lib.hid ((Below.refl _ _).alloc (Nat.le_refl _) _)
  have HFA := Lib.hid (HF.out.trans (But.of_below (X := fun k => k = b) HBA.out))
  refine HK6.out _ _ ⟨fun _ => HSF.out _ HFA.out, ?_⟩
  clear HK6
  have HLI := Lib.hid ((H.out.step HR2.out HF.out).below HBA.out)
  have HX := Lib.hid (HROWS.out _ HFA.out)
  have HRO := Lib.hid (HRS.out.to (HST.out _ HFA.out))
  have H6W : Hid ((w2.alloc (.cells #[.string nm2, .slice a1 n1 c1, .string ty2, .int .i64 k] 72)).heap[t6]? = some (.cells ((mkTF kd nm iv at_) (.slice va ds.length vc)) 38 (0, 0))) := Lib.hid (by rw [HFA.out.block t6 hlt6 (by omega)]; exact H6.out)
  have HD := Lib.hid (HRD.out.to (w' := w2.alloc (.cells #[.string nm2, .slice a1 n1 c1, .string ty2, .int .i64 k] 72)) (Q := fun x => t6 < x ∧ (Value.slice va ds.length vc).ownBlock ≠ some x) ⟨HBA.out.size, fun x hx2 hp => ⟨⟨Nat.lt_of_lt_of_le hlt6 hp, fun e => by have h1 := (HVL.out x e).2; have h2 : w.heap.size ≤ x := hp; omega⟩, HBA.out.block x hx2⟩⟩)
  have HLIT : Hid (∀ j u, ([.string nm2, .slice a1 n1 c1, .string ty2, .int .i64 k] : List Value)[j]? = some u → (w2.alloc (.cells #[.string nm2, .slice a1 n1 c1, .string ty2, .int .i64 k] 72)).cell? ((⟨w2.heap.size, 0, none⟩ : Addr).add j) = some u) := Lib.hid (lit_cells (fz := (0, 0)) (heap_at_new _ _))
  have HONE := Lib.hid (Reads.one HRD.out)
  have hbase : LB t6 bx ≤ (w2.alloc (.cells #[.string nm2, .slice a1 n1 c1, .string ty2, .int .i64 k] 72)).heap.size := HLI.out.low
  refine wpAnyB_one (i := 5) (by kernel_rfl) ?_
  refine wpOp_intro (by decide) (fun K7 HK7 => ?_); simp only [List.drop_succ_cons, List.drop_zero, List.take_succ_cons, List.take_zero]
  go_wp2_with (first | (at_builtin; refine wpList_append_own_at _ rfl _ _ 35 rfl (LB t6 bx) 72 i0 _ 4 64 Tryz.underlying35 hi hz0 hz1 hz2 rfl (by decide) (.slice va ds.length vc) ds.length xs rfl HX.out ⟨w2.heap.size, 0, none⟩ 1 1 [.string nm2, .slice a1 n1 c1, .string ty2, .int .i64 k] rfl rfl HLIT.out HONE.out (by unfold maxLen; omega) (by omega) hbase ?_; intro v' w8 hrow8 hg8 hnil8 hloc8; clear hnil8; obtain ⟨g', c', rfl, hg1, hg2⟩ := rowForm hrow8 (by omega); have HROW := Lib.hid hrow8; have HG8 := Lib.hid hg8; have HL8 := Lib.hid hloc8; clear hrow8 hg8 hloc8) | fail)
  have h68 := HLI.out.h6 HX.out HG8.out H6W.out
  have y6 : w8.cell? ⟨t6, 3, none⟩ = some (.slice va ds.length vc) := by simp [World.cell?, h68, mkTF]
  have y7 : w8.frozen? ⟨t6, 3, none⟩ = false := by simp [World.frozen?, h68]
  have hb0 : w8.cell? ⟨t2, 0, none⟩ = some (.pointer (some ⟨b, 0, none⟩)) := by
    have h1 := HLI.out.cb _ hbx0
    have h2 := HLI.out.lx _ hbx0
    simp only at h1 h2
    exact blk_cell (cs := #[(.pointer (some ⟨b, 0, none⟩))]) (T := 73) (fz := (0, 0)) (by rw [HG8.out.block t2 (block_lt h1) (fun e => by have := (HX.out.lt t2 e.symm).1; omega)]; exact h1) 0 _ rfl
  refine HK7.out _ _ ⟨fun _ => ⟨y6, hb0⟩, ?_⟩
  clear HK7 hb0
  refine wpAnyB_takeAny (i := 6) (v := (.pointer (some ⟨t6, 3, none⟩))) (by decide) rfl (by kernel_rfl) (by kernel_rfl) (by kernel_rfl) (fun _ _ _ h => h) (Or.inl ⟨by rfl, fun w _ => by go_simp⟩) ?_; simp only [Act.put, List.setIfInBounds_toArray, List.set_cons_zero, List.set_cons_succ]
  clear h68
  refine wpAnyB_one (i := 7) (by kernel_rfl) ?_
  refine wpOp_intro (by decide) (fun K9 HK9 => ?_); simp only [List.drop_succ_cons, List.drop_zero, List.take_succ_cons, List.take_zero]
  go_wp2_with fail
  refine HK9.out _ _ ⟨fun h => absurd h (by decide), ?_⟩
  clear HK9
  refine wpAnyB_done (by kernel_rfl) ?_ _
  go_wp2_with fail
  go_end0
  exact ⟨rfl, HLI.out.end0 (jj := 3) HX.out HRO.out HD.out rfl HG8.out HL8.out H6W.out HROW.out rfl⟩

set_option maxHeartbeats 1000000 in
set_option maxRecDepth 100000 in
theorem defC2_any (w0 : World) (b g t6 : Nat) (bx : List Box) (t2 : Nat) (kd : Nat) (nm : ByteArray) (at_ : Nat) (hbx0 : (t2, Obj.cells #[(.pointer (some ⟨b, 0, none⟩))] 73 (0, 0)) ∈ bx) (s : Rd.St) (ds : List D) (w : World)
    (hval : ∀ w, RdAt w b g s → Calls Tryz.prog 78 #[(.pointer (some ⟨b, 0, none⟩))] w (fun r w' => r = .returned (.string ⟨(Sd.member s).2.toArray⟩) ∧ RdAt w' b g (Sd.member s).1 ∧ Fr b w w'))
    (h : LI w0 b g t6 bx 38 (mkTM kd nm at_) 9 1 s ds w) (hl : ds.length ≤ 1000000) :
    Calls Tryz.prog 77 #[.pointer (some ⟨t6, 0, none⟩), .pointer (some ⟨t2, 0, none⟩)] w fun r w' => r = .returned (.tuple #[]) ∧ LI w0 b g t6 bx 38 (mkTM kd nm at_) 9 1 (Sd.member s).1 (ds ++ [(D.str (Sd.member s).2)]) w' := by
  obtain ⟨i0, hi, hz0, hz1, hz2⟩ := info_parts infoS
  obtain ⟨v, h6, hG⟩ := h.ex
  obtain ⟨va, vc, hv⟩ := hG.form
  subst hv
  obtain ⟨⟨xs, hx, hro⟩, hap⟩ := hG
  have hvl : ∀ x, (Value.slice va ds.length vc).ownBlock = some x → LB t6 bx ≤ x ∧ x < w.heap.size := hx.lt
  have hlb6 := LB_t6 t6 bx
  have hlt6 := block_lt h6
  have lb := h.lb
  have l6 := h.l6
  obtain ⟨s', hs'⟩ : ∃ x, x = (Sd.member s).1 := ⟨_, rfl⟩
  obtain ⟨d, hd'⟩ : ∃ x, x = (D.str (Sd.member s).2) := ⟨_, rfl⟩
  have HVC : Hid (∀ (w : World) (P : Nat → Prop) (cs : List Value), Reads w P d cs → ∃ (t : List UInt8), cs = [.string ⟨t.toArray⟩]) :=
    Lib.hid fun w P cs hh => by rw [hd'] at hh; exact ⟨_, hh.str_inv⟩
  have HVAL := Lib.hid hval
  rw [← hs', ← hd']
  have HSE := Lib.hid hs'
  have HDE := Lib.hid hd'
  have H := Lib.hid h
  have HRS := Lib.hid hro
  have H6 := Lib.hid h6
  have HVL := Lib.hid hvl
  have HST : Hid (∀ w', Fr b w w' → Stands w (fun x => t6 < x ∧ (Value.slice va ds.length vc).ownBlock ≠ some x) w' (fun x => t6 < x ∧ (Value.slice va ds.length vc).ownBlock ≠ some x)) :=
    Lib.hid fun w' hf => ⟨hf.size, fun x hx2 hp => ⟨hp, hf.block x hx2 (by omega)⟩⟩
  have HROWS : Hid (∀ w', Fr b w w' → w'.ownsRow (LB t6 bx) 9 1 (.slice va ds.length vc) ds.length xs) := Lib.hid fun w' hf => row_to hx (fun x hx2 => hf.block x (hvl x hx2).2 (by have := (hvl x hx2).1; omega))
  have hS : w.cell? ⟨t6, 4, none⟩ = some (.slice va ds.length vc) ∧ w.cell? ⟨t2, 0, none⟩ = some (.pointer (some ⟨b, 0, none⟩)) :=
    ⟨by simp [World.cell?, h6, mkTM], h.cellx hbx0⟩
  have HSS := Lib.hid hS
  have HSF : Hid (∀ w', Fr b w w' → w'.cell? ⟨t6, 4, none⟩ = some (.slice va ds.length vc) ∧ w'.cell? ⟨t2, 0, none⟩ = some (.pointer (some ⟨b, 0, none⟩))) := by
    refine Lib.hid fun w' hf => ⟨?_, h.cellf hf hbx0⟩
    rw [hf.cell (p := ⟨t6, 4, none⟩) hlt6 (by show ¬ t6 = b; omega)]
    exact HSS.out.1
  clear h hx hro h6 hvl hval hs' hd' hap
  go_enter Tryz.func77, Tryz.ntmps77
  go_wp2_with fail
  refine wp_region_phase (fun w' => w'.cell? ⟨t6, 4, none⟩ = some (.slice va ds.length vc) ∧ w'.cell? ⟨t2, 0, none⟩ = some (.pointer (some ⟨b, 0, none⟩))) 6 (by kernel_rfl) ?_
  refine wpAnyB_take (i := 0) (v := (.pointer (some ⟨t6, 4, none⟩))) (by kernel_rfl) (by decide) rfl (by kernel_rfl) (by kernel_rfl) (by kernel_rfl) (fun _ _ _ h => h) (Or.inl ⟨by rfl, fun w hSw => by obtain ⟨s0, s1⟩ := hSw; go_simp⟩) hS ?_; simp only [Act.put, List.setIfInBounds_toArray, List.set_cons_zero, List.set_cons_succ]
  refine wpAnyB_take (i := 1) (v := (.slice va ds.length vc)) (by kernel_rfl) (by decide) rfl (by kernel_rfl) (by kernel_rfl) (by kernel_rfl) (fun _ _ _ h => h) (Or.inl ⟨by rfl, fun w hSw => by obtain ⟨s0, s1⟩ := hSw; go_simp⟩) hS ?_; simp only [Act.put, List.setIfInBounds_toArray, List.set_cons_zero, List.set_cons_succ]
  refine wpAnyB_take (i := 2) (v := (.pointer (some ⟨b, 0, none⟩))) (by kernel_rfl) (by decide) rfl (by kernel_rfl) (by kernel_rfl) (by kernel_rfl) (fun _ _ _ h => h) (Or.inl ⟨by rfl, fun w hSw => by obtain ⟨s0, s1⟩ := hSw; go_simp⟩) hS ?_; simp only [Act.put, List.setIfInBounds_toArray, List.set_cons_zero, List.set_cons_succ]
  clear hS
  refine wpAnyB_one (i := 3) (by kernel_rfl) ?_
  refine wpOp_intro (by decide) (fun K4 HK4 => ?_); simp only [List.drop_succ_cons, List.drop_zero, List.take_succ_cons, List.take_zero]
  go_wp2_with fail
  refine (HVAL.out w.drew (H.out.rd.to (Nat.le_refl _) rfl rfl)).mono ?_
  rintro r w2 ⟨rfl, hr2, hf2⟩
  have hf : Fr b w w2 := ⟨hf2.os, hf2.tape, hf2.output, hf2.size, hf2.block⟩
  clear hf2
  rw [← HSE.out] at hr2
  obtain ⟨t, ht⟩ : ∃ t, t = (Sd.member s).2 := ⟨_, rfl⟩
  rw [← ht]
  have hrd : Reads w2 (fun x => w.heap.size ≤ x) d [.string ⟨t.toArray⟩] := by rw [HDE.out, ← ht]; exact .str _
  clear ht
  have HRD := Lib.hid hrd
  have HF := Lib.hid hf
  have HR2 := Lib.hid hr2
  clear hrd hr2 hf
  go_wp2_with fail
  refine HK4.out _ _ ⟨fun _ => HSF.out _ HF.out, ?_⟩
  clear HK4
  refine wpAnyB_one (i := 4) (by kernel_rfl) ?_
  refine wpOp_intro (by decide) (fun K6 HK6 => ?_); simp only [List.drop_succ_cons, List.drop_zero, List.take_succ_cons, List.take_zero]
  go_wp2_with fail
  have HBA : Hid (Below w2.heap.size w2 (w2.alloc (.cells #[.string ⟨t.toArray⟩] 9))) := Lib.hid ((Below.refl _ _).alloc (Nat.le_refl _) _)
  have HFA := Lib.hid (HF.out.trans (But.of_below (X := fun k => k = b) HBA.out))
  refine HK6.out _ _ ⟨fun _ => HSF.out _ HFA.out, ?_⟩
  clear HK6
  have HLI := Lib.hid ((H.out.step HR2.out HF.out).below HBA.out)
  have HX := Lib.hid (HROWS.out _ HFA.out)
  have HRO := Lib.hid (HRS.out.to (HST.out _ HFA.out))
  have H6W : Hid ((w2.alloc (.cells #[.string ⟨t.toArray⟩] 9)).heap[t6]? = some (.cells ((mkTM kd nm at_) (.slice va ds.length vc)) 38 (0, 0))) := Lib.hid (by rw [HFA.out.block t6 hlt6 (by omega)]; exact H6.out)
  have HD := Lib.hid (HRD.out.to (w' := w2.alloc (.cells #[.string ⟨t.toArray⟩] 9)) (Q := fun x => t6 < x ∧ (Value.slice va ds.length vc).ownBlock ≠ some x) ⟨HBA.out.size, fun x hx2 hp => ⟨⟨Nat.lt_of_lt_of_le hlt6 hp, fun e => by have h1 := (HVL.out x e).2; have h2 : w.heap.size ≤ x := hp; omega⟩, HBA.out.block x hx2⟩⟩)
  have HLIT : Hid (∀ j u, ([.string ⟨t.toArray⟩] : List Value)[j]? = some u → (w2.alloc (.cells #[.string ⟨t.toArray⟩] 9)).cell? ((⟨w2.heap.size, 0, none⟩ : Addr).add j) = some u) := Lib.hid (lit_cells (fz := (0, 0)) (heap_at_new _ _))
  have HONE := Lib.hid (Reads.one HRD.out)
  have hbase : LB t6 bx ≤ (w2.alloc (.cells #[.string ⟨t.toArray⟩] 9)).heap.size := HLI.out.low
  refine wpAnyB_one (i := 5) (by kernel_rfl) ?_
  refine wpOp_intro (by decide) (fun K7 HK7 => ?_); simp only [List.drop_succ_cons, List.drop_zero, List.take_succ_cons, List.take_zero]
  go_wp2_with (first | (at_builtin; refine wpList_append_own_at _ rfl _ _ 34 rfl (LB t6 bx) 9 i0 _ 1 16 Tryz.underlying34 hi hz0 hz1 hz2 rfl (by decide) (.slice va ds.length vc) ds.length xs rfl HX.out ⟨w2.heap.size, 0, none⟩ 1 1 [.string ⟨t.toArray⟩] rfl rfl HLIT.out HONE.out (by unfold maxLen; omega) (by omega) hbase ?_; intro v' w8 hrow8 hg8 hnil8 hloc8; clear hnil8; obtain ⟨g', c', rfl, hg1, hg2⟩ := rowForm hrow8 (by omega); have HROW := Lib.hid hrow8; have HG8 := Lib.hid hg8; have HL8 := Lib.hid hloc8; clear hrow8 hg8 hloc8) | fail)
  have h68 := HLI.out.h6 HX.out HG8.out H6W.out
  have y6 : w8.cell? ⟨t6, 4, none⟩ = some (.slice va ds.length vc) := by simp [World.cell?, h68, mkTM]
  have y7 : w8.frozen? ⟨t6, 4, none⟩ = false := by simp [World.frozen?, h68]
  have hb0 : w8.cell? ⟨t2, 0, none⟩ = some (.pointer (some ⟨b, 0, none⟩)) := by
    have h1 := HLI.out.cb _ hbx0
    have h2 := HLI.out.lx _ hbx0
    simp only at h1 h2
    exact blk_cell (cs := #[(.pointer (some ⟨b, 0, none⟩))]) (T := 73) (fz := (0, 0)) (by rw [HG8.out.block t2 (block_lt h1) (fun e => by have := (HX.out.lt t2 e.symm).1; omega)]; exact h1) 0 _ rfl
  refine HK7.out _ _ ⟨fun _ => ⟨y6, hb0⟩, ?_⟩
  clear HK7 hb0
  refine wpAnyB_takeAny (i := 6) (v := (.pointer (some ⟨t6, 4, none⟩))) (by decide) rfl (by kernel_rfl) (by kernel_rfl) (by kernel_rfl) (fun _ _ _ h => h) (Or.inl ⟨by rfl, fun w _ => by go_simp⟩) ?_; simp only [Act.put, List.setIfInBounds_toArray, List.set_cons_zero, List.set_cons_succ]
  clear h68
  refine wpAnyB_one (i := 7) (by kernel_rfl) ?_
  refine wpOp_intro (by decide) (fun K9 HK9 => ?_); simp only [List.drop_succ_cons, List.drop_zero, List.take_succ_cons, List.take_zero]
  go_wp2_with fail
  refine HK9.out _ _ ⟨fun h => absurd h (by decide), ?_⟩
  clear HK9
  refine wpAnyB_done (by kernel_rfl) ?_ _
  go_wp2_with fail
  go_end0
  exact ⟨rfl, HLI.out.end0 (jj := 4) HX.out HRO.out HD.out rfl HG8.out HL8.out H6W.out HROW.out rfl⟩

set_option maxHeartbeats 1000000 in
set_option maxRecDepth 100000 in
theorem defC3_any (w0 : World) (b g t6 : Nat) (bx : List Box) (t2 : Nat) (kd : Nat) (nm : ByteArray) (at_ m : Nat) (hbx0 : (t2, Obj.cells #[(.pointer (some ⟨b, 0, none⟩))] 73 (0, 0)) ∈ bx) (s : Rd.St) (ds : List D) (w : World)
    (hval : ∀ w, RdAt w b g s → Calls Tryz.prog 80 #[(.pointer (some ⟨b, 0, none⟩))] w (Got b g w (Sd.input m s).2.d (Sd.input m s).1))
    (h : LI w0 b g t6 bx 38 (mkTI kd nm at_) 137 9 s ds w) (hl : ds.length ≤ 1000000) :
    Calls Tryz.prog 79 #[.pointer (some ⟨t6, 0, none⟩), .pointer (some ⟨t2, 0, none⟩)] w fun r w' => r = .returned (.tuple #[]) ∧ LI w0 b g t6 bx 38 (mkTI kd nm at_) 137 9 (Sd.input m s).1 (ds ++ [(Sd.input m s).2.d]) w' := by
  obtain ⟨i0, hi, hz0, hz1, hz2⟩ := info_parts infoIn
  obtain ⟨v, h6, hG⟩ := h.ex
  obtain ⟨va, vc, hv⟩ := hG.form
  subst hv
  obtain ⟨⟨xs, hx, hro⟩, hap⟩ := hG
  have hvl : ∀ x, (Value.slice va ds.length vc).ownBlock = some x → LB t6 bx ≤ x ∧ x < w.heap.size := hx.lt
  have hlb6 := LB_t6 t6 bx
  have hlt6 := block_lt h6
  have lb := h.lb
  have l6 := h.l6
  obtain ⟨s', hs'⟩ : ∃ x, x = (Sd.input m s).1 := ⟨_, rfl⟩
  obtain ⟨d, hd'⟩ : ∃ x, x = (Sd.input m s).2.d := ⟨_, rfl⟩
  have HVC : Hid (∀ (w : World) (P : Nat → Prop) (cs : List Value), Reads w P d cs → ∃ (nm2 ty2 t : ByteArray) (hb : Bool) (k a b' : Int) (a1 a2 : Option Addr) (n1 c1 n2 c2 : Nat), cs = [.string nm2, .string ty2, .bool hb, .int .i64 k, .string t, .slice a1 n1 c1, .slice a2 n2 c2, .int .i64 a, .int .i64 b']) :=
    Lib.hid fun w P cs hh => In_cells (by rw [← hd']; exact hh)
  have HVAL := Lib.hid hval
  rw [← hs', ← hd']
  have HSE := Lib.hid hs'
  have HDE := Lib.hid hd'
  have H := Lib.hid h
  have HRS := Lib.hid hro
  have H6 := Lib.hid h6
  have HVL := Lib.hid hvl
  have HST : Hid (∀ w', Fr b w w' → Stands w (fun x => t6 < x ∧ (Value.slice va ds.length vc).ownBlock ≠ some x) w' (fun x => t6 < x ∧ (Value.slice va ds.length vc).ownBlock ≠ some x)) :=
    Lib.hid fun w' hf => ⟨hf.size, fun x hx2 hp => ⟨hp, hf.block x hx2 (by omega)⟩⟩
  have HROWS : Hid (∀ w', Fr b w w' → w'.ownsRow (LB t6 bx) 137 9 (.slice va ds.length vc) ds.length xs) := Lib.hid fun w' hf => row_to hx (fun x hx2 => hf.block x (hvl x hx2).2 (by have := (hvl x hx2).1; omega))
  have hS : w.cell? ⟨t6, 5, none⟩ = some (.slice va ds.length vc) ∧ w.cell? ⟨t2, 0, none⟩ = some (.pointer (some ⟨b, 0, none⟩)) :=
    ⟨by simp [World.cell?, h6, mkTI], h.cellx hbx0⟩
  have HSS := Lib.hid hS
  have HSF : Hid (∀ w', Fr b w w' → w'.cell? ⟨t6, 5, none⟩ = some (.slice va ds.length vc) ∧ w'.cell? ⟨t2, 0, none⟩ = some (.pointer (some ⟨b, 0, none⟩))) := by
    refine Lib.hid fun w' hf => ⟨?_, h.cellf hf hbx0⟩
    rw [hf.cell (p := ⟨t6, 5, none⟩) hlt6 (by show ¬ t6 = b; omega)]
    exact HSS.out.1
  clear h hx hro h6 hvl hval hs' hd' hap
  go_enter Tryz.func79, Tryz.ntmps79
  go_wp2_with fail
  refine wp_region_phase (fun w' => w'.cell? ⟨t6, 5, none⟩ = some (.slice va ds.length vc) ∧ w'.cell? ⟨t2, 0, none⟩ = some (.pointer (some ⟨b, 0, none⟩))) 6 (by kernel_rfl) ?_
  refine wpAnyB_take (i := 0) (v := (.pointer (some ⟨t6, 5, none⟩))) (by kernel_rfl) (by decide) rfl (by kernel_rfl) (by kernel_rfl) (by kernel_rfl) (fun _ _ _ h => h) (Or.inl ⟨by rfl, fun w hSw => by obtain ⟨s0, s1⟩ := hSw; go_simp⟩) hS ?_; simp only [Act.put, List.setIfInBounds_toArray, List.set_cons_zero, List.set_cons_succ]
  refine wpAnyB_take (i := 1) (v := (.slice va ds.length vc)) (by kernel_rfl) (by decide) rfl (by kernel_rfl) (by kernel_rfl) (by kernel_rfl) (fun _ _ _ h => h) (Or.inl ⟨by rfl, fun w hSw => by obtain ⟨s0, s1⟩ := hSw; go_simp⟩) hS ?_; simp only [Act.put, List.setIfInBounds_toArray, List.set_cons_zero, List.set_cons_succ]
  refine wpAnyB_take (i := 2) (v := (.pointer (some ⟨b, 0, none⟩))) (by kernel_rfl) (by decide) rfl (by kernel_rfl) (by kernel_rfl) (by kernel_rfl) (fun _ _ _ h => h) (Or.inl ⟨by rfl, fun w hSw => by obtain ⟨s0, s1⟩ := hSw; go_simp⟩) hS ?_; simp only [Act.put, List.setIfInBounds_toArray, List.set_cons_zero, List.set_cons_succ]
  clear hS
  refine wpAnyB_one (i := 3) (by kernel_rfl) ?_
  refine wpOp_intro (by decide) (fun K4 HK4 => ?_); simp only [List.drop_succ_cons, List.drop_zero, List.take_succ_cons, List.take_zero]
  go_wp2_with fail
  refine (HVAL.out w.drew (H.out.rd.to (Nat.le_refl _) rfl rfl)).mono ?_
  rintro r w2 ⟨cs, rfl, hrd, hr2, hf2⟩
  have hf : Fr b w w2 := ⟨hf2.os, hf2.tape, hf2.output, hf2.size, hf2.block⟩
  clear hf2
  rw [← HSE.out] at hr2
  rw [← HDE.out] at hrd
  obtain ⟨nm2, ty2, t, hb, k, a, b', a1, a2, n1, c1, n2, c2, rfl⟩ := HVC.out _ _ _ hrd
  have HRD := Lib.hid hrd
  have HF := Lib.hid hf
  have HR2 := Lib.hid hr2
  clear hrd hr2 hf
  go_wp2_with fail
  refine HK4.out _ _ ⟨fun _ => HSF.out _ HF.out, ?_⟩
  clear HK4
  refine wpAnyB_one (i := 4) (by kernel_rfl) ?_
  refine wpOp_intro (by decide) (fun K6 HK6 => ?_); simp only [List.drop_succ_cons, List.drop_zero, List.take_succ_cons, List.take_zero]
  go_wp2_with fail
  have HBA : Hid (Below w2.heap.size w2 (w2.alloc (.cells #[.string nm2, .string ty2, .bool hb, .int .i64 k, .string t, .slice a1 n1 c1, .slice a2 n2 c2, .int .i64 a, .int .i64 b'] 137))) := Lib.hid ((Below.refl _ _).alloc (Nat.le_refl _) _)
  have HFA := Lib.hid (HF.out.trans (But.of_below (X := fun k => k = b) HBA.out))
  refine HK6.out _ _ ⟨fun _ => HSF.out _ HFA.out, ?_⟩
  clear HK6
  have HLI := Lib.hid ((H.out.step HR2.out HF.out).below HBA.out)
  have HX := Lib.hid (HROWS.out _ HFA.out)
  have HRO := Lib.hid (HRS.out.to (HST.out _ HFA.out))
  have H6W : Hid ((w2.alloc (.cells #[.string nm2, .string ty2, .bool hb, .int .i64 k, .string t, .slice a1 n1 c1, .slice a2 n2 c2, .int .i64 a, .int .i64 b'] 137)).heap[t6]? = some (.cells ((mkTI kd nm at_) (.slice va ds.length vc)) 38 (0, 0))) := Lib.hid (by rw [HFA.out.block t6 hlt6 (by omega)]; exact H6.out)
  have HD := Lib.hid (HRD.out.to (w' := w2.alloc (.cells #[.string nm2, .string ty2, .bool hb, .int .i64 k, .string t, .slice a1 n1 c1, .slice a2 n2 c2, .int .i64 a, .int .i64 b'] 137)) (Q := fun x => t6 < x ∧ (Value.slice va ds.length vc).ownBlock ≠ some x) ⟨HBA.out.size, fun x hx2 hp => ⟨⟨Nat.lt_of_lt_of_le hlt6 hp, fun e => by have h1 := (HVL.out x e).2; have h2 : w.heap.size ≤ x := hp; omega⟩, HBA.out.block x hx2⟩⟩)
  have HLIT : Hid (∀ j u, ([.string nm2, .string ty2, .bool hb, .int .i64 k, .string t, .slice a1 n1 c1, .slice a2 n2 c2, .int .i64 a, .int .i64 b'] : List Value)[j]? = some u → (w2.alloc (.cells #[.string nm2, .string ty2, .bool hb, .int .i64 k, .string t, .slice a1 n1 c1, .slice a2 n2 c2, .int .i64 a, .int .i64 b'] 137)).cell? ((⟨w2.heap.size, 0, none⟩ : Addr).add j) = some u) := Lib.hid (lit_cells (fz := (0, 0)) (heap_at_new _ _))
  have HONE := Lib.hid (Reads.one HRD.out)
  have hbase : LB t6 bx ≤ (w2.alloc (.cells #[.string nm2, .string ty2, .bool hb, .int .i64 k, .string t, .slice a1 n1 c1, .slice a2 n2 c2, .int .i64 a, .int .i64 b'] 137)).heap.size := HLI.out.low
  refine wpAnyB_one (i := 5) (by kernel_rfl) ?_
  refine wpOp_intro (by decide) (fun K7 HK7 => ?_); simp only [List.drop_succ_cons, List.drop_zero, List.take_succ_cons, List.take_zero]
  go_wp2_with (first | (at_builtin; refine wpList_append_own_at _ rfl _ _ 36 rfl (LB t6 bx) 137 i0 _ 9 128 Tryz.underlying36 hi hz0 hz1 hz2 rfl (by decide) (.slice va ds.length vc) ds.length xs rfl HX.out ⟨w2.heap.size, 0, none⟩ 1 1 [.string nm2, .string ty2, .bool hb, .int .i64 k, .string t, .slice a1 n1 c1, .slice a2 n2 c2, .int .i64 a, .int .i64 b'] rfl rfl HLIT.out HONE.out (by unfold maxLen; omega) (by omega) hbase ?_; intro v' w8 hrow8 hg8 hnil8 hloc8; clear hnil8; obtain ⟨g', c', rfl, hg1, hg2⟩ := rowForm hrow8 (by omega); have HROW := Lib.hid hrow8; have HG8 := Lib.hid hg8; have HL8 := Lib.hid hloc8; clear hrow8 hg8 hloc8) | fail)
  have h68 := HLI.out.h6 HX.out HG8.out H6W.out
  have y6 : w8.cell? ⟨t6, 5, none⟩ = some (.slice va ds.length vc) := by simp [World.cell?, h68, mkTI]
  have y7 : w8.frozen? ⟨t6, 5, none⟩ = false := by simp [World.frozen?, h68]
  have hb0 : w8.cell? ⟨t2, 0, none⟩ = some (.pointer (some ⟨b, 0, none⟩)) := by
    have h1 := HLI.out.cb _ hbx0
    have h2 := HLI.out.lx _ hbx0
    simp only at h1 h2
    exact blk_cell (cs := #[(.pointer (some ⟨b, 0, none⟩))]) (T := 73) (fz := (0, 0)) (by rw [HG8.out.block t2 (block_lt h1) (fun e => by have := (HX.out.lt t2 e.symm).1; omega)]; exact h1) 0 _ rfl
  refine HK7.out _ _ ⟨fun _ => ⟨y6, hb0⟩, ?_⟩
  clear HK7 hb0
  refine wpAnyB_takeAny (i := 6) (v := (.pointer (some ⟨t6, 5, none⟩))) (by decide) rfl (by kernel_rfl) (by kernel_rfl) (by kernel_rfl) (fun _ _ _ h => h) (Or.inl ⟨by rfl, fun w _ => by go_simp⟩) ?_; simp only [Act.put, List.setIfInBounds_toArray, List.set_cons_zero, List.set_cons_succ]
  clear h68
  refine wpAnyB_one (i := 7) (by kernel_rfl) ?_
  refine wpOp_intro (by decide) (fun K9 HK9 => ?_); simp only [List.drop_succ_cons, List.drop_zero, List.take_succ_cons, List.take_zero]
  go_wp2_with fail
  refine HK9.out _ _ ⟨fun h => absurd h (by decide), ?_⟩
  clear HK9
  refine wpAnyB_done (by kernel_rfl) ?_ _
  go_wp2_with fail
  go_end0
  exact ⟨rfl, HLI.out.end0 (jj := 5) HX.out HRO.out HD.out rfl HG8.out HL8.out H6W.out HROW.out rfl⟩

end Go.Proofs.YtabcaljnpahgpaaGreatDoor
namespace Go.Proofs.YtabcaljnpahgpaaGreatDoor
set_option linter.unusedSimpArgs false
set_option linter.unusedVariables false
open Go Go.RowKit

/-- What stands while a field's arguments are read. -/
def FLI {α : Type} (w0 : World) (b g t6 : Nat) (bx : List Box) (T6 : TypeId) (mk : Value → Array Value) (E : TypeId) (k : Nat) (dd : α → D) (m : Nat) (d1 : Int) (s : Rd.St) (out : List α) (w : World) : Prop :=
  LI w0 b g t6 bx T6 mk E k s (out.map dd) w ∧ s.deep = d1 ∧ s.rest.length ≤ m ∧ (s.err = 0 → out.length + s.rest.length ≤ 1602) ∧ out.length ≤ 1603
theorem enters_FC (cap : Array Value) (w : World) : Sem.run Tryz.prog (callFunc 113 cap) w = .ok (.enter 113 cap) w := by kernel_rfl
/-- A block that is filled, with a row in it that may grow. -/
theorem BI.li {w0 w : World} {b g t6 k : Nat} {bx : List Box} {T6 E : TypeId} {mk : Value → Array Value} {s : Rd.St} (h : BI w0 b g t6 bx T6 (mk (.slice none 0 0)) s w) : LI w0 b g t6 bx T6 mk E k s [] w :=
  ⟨h.rd, h.cb, ⟨_, h.b6, Grows.nil _ _ _ _ _⟩, h.fr, h.lb, h.lg, fun p hp => ⟨(h.lx p hp).1, by have := (h.lx p hp).2; omega⟩, h.l6⟩
theorem LI.bi {w0 w : World} {b g t6 k : Nat} {bx : List Box} {T6 E : TypeId} {mk : Value → Array Value} {s : Rd.St} {ds : List D} (h : LI w0 b g t6 bx T6 mk E k s ds w) {bx' : List Box} (hs : ∀ p ∈ bx', p ∈ bx ∧ p.1 < t6) :
    ∃ a c, BI w0 b g t6 bx' T6 (mk (.slice a ds.length c)) s w ∧ Reads w (fun x => t6 < x) (.seq k ds) [.slice a ds.length c] := by
  obtain ⟨v, h1, h2⟩ := h.ex
  obtain ⟨a, c, rfl⟩ := h2.form
  have hL := LB_t6 t6 bx
  exact ⟨a, c, ⟨h.rd, fun p hp => h.cb p (hs p hp).1, h1, h.fr, h.lb, h.lg, fun p hp => ⟨(h.lx0 p (hs p hp).1).1, (hs p hp).2⟩, h.l6⟩, h2.reads.to (Stands.sub w (fun x _ hp => by
    rcases hp with hp | hp
    · exact hp.1
    · have := (h2.lt x hp).1; show t6 < x; omega))⟩

set_option maxHeartbeats 2000000 in
set_option maxRecDepth 100000 in
theorem field_any (b g : Nat) (n : Nat) (hnb : n ≤ 1600) (s : Rd.St) (w : World) (h : RdAt w b g s) (hn : s.err ≠ 0 ∨ s.rest.length ≤ n) (hd : 0 ≤ s.deep ∧ s.deep + n ≤ 900000) :
    Calls Tryz.prog 75 #[.pointer (some ⟨b, 0, none⟩)] w (Got b g w (Sd.field (n + 1) s).2.d (Sd.field (n + 1) s).1) := by
  have hlb := h.lt
  have H := Lib.hid h
  have HN := Lib.hid hn
  obtain ⟨d0, d1⟩ := hd
  have hba : Below w.heap.size w ((w.alloc (.cells #[.pointer (some ⟨b, 0, none⟩)] 73)).alloc (.cells #[.string ⟨#[]⟩, .slice none 0 0, .string ⟨#[]⟩, .int .i64 0] 72)) := ((Below.refl _ _).alloc (Nat.le_refl _) _).alloc (by simp) _
  have HBA := Lib.hid hba
  have hA : ((w.alloc (.cells #[.pointer (some ⟨b, 0, none⟩)] 73)).alloc (.cells #[.string ⟨#[]⟩, .slice none 0 0, .string ⟨#[]⟩, .int .i64 0] 72)).heap[w.heap.size]? = some (.cells #[.pointer (some ⟨b, 0, none⟩)] 73 (0, 0)) := by
    rw [Lib.alloc_old _ _ _ (by simp)]; exact heap_at_new _ _
  have hB : ((w.alloc (.cells #[.pointer (some ⟨b, 0, none⟩)] 73)).alloc (.cells #[.string ⟨#[]⟩, .slice none 0 0, .string ⟨#[]⟩, .int .i64 0] 72)).heap[w.heap.size + 1]? = some (.cells #[.string ⟨#[]⟩, .slice none 0 0, .string ⟨#[]⟩, .int .i64 0] 72 (0, 0)) := by
    have := heap_at_new (w.alloc (.cells #[.pointer (some ⟨b, 0, none⟩)] 73)) (.cells #[.string ⟨#[]⟩, .slice none 0 0, .string ⟨#[]⟩, .int .i64 0] 72)
    rw [show (w.alloc (.cells #[.pointer (some ⟨b, 0, none⟩)] 73)).heap.size = w.heap.size + 1 by simp] at this
    exact this
  have hW0 : ((w.alloc (.cells #[.pointer (some ⟨b, 0, none⟩)] 73)).alloc (.cells #[.string ⟨#[]⟩, .slice none 0 0, .string ⟨#[]⟩, .int .i64 0] 72)).heap.size = w.heap.size + 2 := by simp
  have HA := Lib.hid hA
  have HBB := Lib.hid hB
  have HW0 := Lib.hid hW0
  have HMB : Hid ((w.heap.size, Obj.cells #[.pointer (some ⟨b, 0, none⟩)] 73 (0, 0)) ∈ [(w.heap.size, Obj.cells #[.pointer (some ⟨b, 0, none⟩)] 73 (0, 0)), (w.heap.size + 1, Obj.cells #[.string ⟨#[]⟩, .slice none 0 0, .string ⟨#[]⟩, .int .i64 0] 72 (0, 0))]) := Lib.hid List.mem_cons_self
  have HMR : Hid ((w.heap.size + 1, Obj.cells #[.string ⟨#[]⟩, .slice none 0 0, .string ⟨#[]⟩, .int .i64 0] 72 (0, 0)) ∈ [(w.heap.size, Obj.cells #[.pointer (some ⟨b, 0, none⟩)] 73 (0, 0)), (w.heap.size + 1, Obj.cells #[.string ⟨#[]⟩, .slice none 0 0, .string ⟨#[]⟩, .int .i64 0] 72 (0, 0))]) := Lib.hid (List.mem_cons_of_mem _ List.mem_cons_self)
  have k2 := blk_cell hA 0 (.pointer (some ⟨b, 0, none⟩)) rfl
  clear h hn hba hA hB hW0
  go_enter Tryz.func75, Tryz.ntmps75
  go_wp2_with fail
  refine (told_any b g s _ (H.out.below HBA.out)).mono ?_
  rintro r w1 ⟨rfl, h1, f1⟩
  obtain ⟨s1, hs1⟩ : ∃ x, x = Sd.told s := ⟨_, rfl⟩
  rw [← hs1] at h1
  have HS1 := Lib.hid hs1
  have H1 := Lib.hid h1
  have F1 := Lib.hid f1
  clear h1 f1 hs1 k2
  have HA1 : Hid (w1.heap[w.heap.size]? = some (.cells #[.pointer (some ⟨b, 0, none⟩)] 73 (0, 0))) := Lib.hid (by rw [F1.out.block w.heap.size (by rw [HW0.out]; omega) (by omega)]; exact HA.out)
  have HB1 : Hid (w1.heap[w.heap.size + 1]? = some (.cells #[.string ⟨#[]⟩, .slice none 0 0, .string ⟨#[]⟩, .int .i64 0] 72 (0, 0))) := Lib.hid (by rw [F1.out.block (w.heap.size + 1) (by rw [HW0.out]; omega) (by omega)]; exact HBB.out)
  have k2 := blk_cell HA1.out 0 (.pointer (some ⟨b, 0, none⟩)) rfl
  go_wp2_with fail
  refine (rpeek_any b g s1 w1 H1.out).mono ?_
  rintro r w2 ⟨rfl, hb2⟩
  obtain ⟨pa, hpa⟩ : ∃ x, x = (Rd.peek s1).at_ := ⟨_, rfl⟩
  rw [← hpa]
  have HPA := Lib.hid hpa
  have hBI : BI w b g w2.heap.size [(w.heap.size, Obj.cells #[.pointer (some ⟨b, 0, none⟩)] 73 (0, 0)), (w.heap.size + 1, Obj.cells #[.string ⟨#[]⟩, .slice none 0 0, .string ⟨#[]⟩, .int .i64 0] 72 (0, 0))] 72 #[.string ⟨#[]⟩, .slice none 0 0, .string ⟨#[]⟩, .int .i64 pa] s1 (w2.alloc (.cells #[.string ⟨#[]⟩, .slice none 0 0, .string ⟨#[]⟩, .int .i64 pa] 72)) := by
    have hs1 := F1.out.size
    rw [HW0.out] at hs1
    have hs2 := hb2.size
    have hbb : Below w2.heap.size w2 (w2.alloc (.cells #[.string ⟨#[]⟩, .slice none 0 0, .string ⟨#[]⟩, .int .i64 pa] 72)) := (Below.refl _ _).alloc (Nat.le_refl _) _
    refine ⟨(H1.out.below hb2).below hbb, fun p hp => ?_, heap_at_new _ _, (((But.of_below HBA.out).trans F1.out).trans (But.of_below hb2)).trans (But.of_below hbb), hlb.1, hlb.2, fun p hp => ?_, by omega⟩
    · simp only [List.mem_cons, List.not_mem_nil, or_false] at hp
      rcases hp with rfl | rfl
      · show (w2.alloc _).heap[w.heap.size]? = _
        rw [hbb.block w.heap.size (by omega), hb2.block w.heap.size (by omega)]
        exact HA1.out
      · show (w2.alloc _).heap[w.heap.size + 1]? = _
        rw [hbb.block (w.heap.size + 1) (by omega), hb2.block (w.heap.size + 1) (by omega)]
        exact HB1.out
    · simp only [List.mem_cons, List.not_mem_nil, or_false] at hp
      rcases hp with rfl | rfl <;> (simp only; omega)
  have HB0 := Lib.hid hBI
  obtain ⟨t6, ht6⟩ : ∃ x, x = w2.heap.size := ⟨_, rfl⟩
  have HOK1 : Hid (Rd.Ok s s1) := by rw [HS1.out]; exact Lib.hid (Sd.ok_told s)
  have HDP1 : Hid (s1.deep = s.deep) := by rw [HS1.out]; exact Lib.hid (Sd.told_deep s)
  clear hb2 hBI hpa k2
  have k2 : _ := HB0.out.cellx HMB.out
  go_wp2_with fail
  refine (rname_any b g s1 _ HB0.out.rd).mono ?_
  rintro r w3 ⟨rfl, h3, f3⟩
  have hB3 := HB0.out.step h3 f3
  rw [← ht6] at hB3 ⊢
  clear ht6 k2
  obtain ⟨s3, hs3⟩ : ∃ x, x = (Rd.name s1).1 := ⟨_, rfl⟩
  obtain ⟨nm, hnm⟩ : ∃ x, x = (Rd.name s1).2 := ⟨_, rfl⟩
  rw [← hs3] at hB3
  rw [← hnm]
  have HS3 := Lib.hid hs3
  have HNM := Lib.hid hnm
  have HB3 := Lib.hid hB3
  have l6 := hB3.lx _ HMR.out
  simp only at l6
  have n1 : ¬ t6 = w.heap.size := by omega
  have n2 : ¬ w.heap.size = t6 := by omega
  have n3 : ¬ t6 = w.heap.size + 1 := by omega
  have n4 : ¬ w.heap.size + 1 = t6 := by omega
  have HOK3 : Hid (Rd.Ok s s3) := by rw [HS3.out]; exact Lib.hid (HOK1.out.trans (Rd.ok_name s1))
  have HDP3 : Hid (s3.deep = s.deep) := by rw [HS3.out, Rd.name_deep, HDP1.out]; exact Lib.hid rfl
  clear h3 f3 hB3 hs3 hnm
  have y0 := blk_cell HB3.out.b6 0 (.string ⟨#[]⟩) rfl
  have yf0 := blk_free HB3.out.b6 0
  have y1 := blk_cell HB3.out.b6 1 (.slice none 0 0) rfl
  have yf1 := blk_free HB3.out.b6 1
  have y2 := blk_cell HB3.out.b6 2 (.string ⟨#[]⟩) rfl
  have yf2 := blk_free HB3.out.b6 2
  have y3 := blk_cell HB3.out.b6 3 (.int .i64 pa) rfl
  have yf3 := blk_free HB3.out.b6 3
  have k2 : _ := HB3.out.cellx HMB.out
  have HB4 := Lib.hid (HB3.out.put 0 (.string ⟨nm.toArray⟩))
  go_wp2_with fail
  refine (rtake_any b g s3 Rd.lpar _ HB4.out.rd).mono ?_
  rintro r w4 ⟨rfl, h4, f4⟩
  obtain ⟨B, hBt⟩ : ∃ B, B = Rd.isS s3 Rd.lpar := ⟨_, rfl⟩
  have HBTT := Lib.hid hBt
  have HBw := Lib.hid (HB4.out.step h4 f4)
  rw [← hBt]
  clear h4 f4 hBt
  clear k2 y0 yf0 y1 yf1 y2 yf2 y3 yf3
  cases B
  · have HT : Hid (Rd.take Rd.lpar s3 = s3) := by unfold Rd.take; rw [if_neg (by rw [← HBTT.out]; simp)]; exact Lib.hid rfl
    have HBT : Hid (Sd.between Rd.lpar Rd.rpar (Sd.input (n + 1)) (n + 1) s3 = (s3, [])) := by unfold Sd.between; rw [if_neg (by rw [← HBTT.out]; simp)]; exact Lib.hid rfl
    have hbi : BI w b g t6 [(w.heap.size, Obj.cells #[.pointer (some ⟨b, 0, none⟩)] 73 (0, 0)), (w.heap.size + 1, Obj.cells #[.string ⟨#[]⟩, .slice none 0 0, .string ⟨#[]⟩, .int .i64 0] 72 (0, 0))] 72 #[.string ⟨nm.toArray⟩, .slice none 0 0, .string ⟨#[]⟩, .int .i64 pa] s3 w4 := by
      have := HBw.out
      rw [HT.out] at this
      exact this
    obtain ⟨va, hva⟩ : ∃ x : Option Addr, x = none := ⟨_, rfl⟩
    obtain ⟨vl, hvl⟩ : ∃ x : Nat, x = 0 := ⟨_, rfl⟩
    obtain ⟨vc, hvc⟩ : ∃ x : Nat, x = 0 := ⟨_, rfl⟩
    have HBx : Hid (BI w b g t6 [(w.heap.size, Obj.cells #[.pointer (some ⟨b, 0, none⟩)] 73 (0, 0)), (w.heap.size + 1, Obj.cells #[.string ⟨#[]⟩, .slice none 0 0, .string ⟨#[]⟩, .int .i64 0] 72 (0, 0))] 72 #[.string ⟨nm.toArray⟩, .slice va vl vc, .string ⟨#[]⟩, .int .i64 pa] s3 w4) := by rw [hva, hvl, hvc]; exact Lib.hid hbi
    have HRV : Hid (Reads w4 (fun x => t6 < x) (.seq 9 (([] : List Sd.In).map Sd.In.d)) [.slice va vl vc]) := by rw [hva, hvl, hvc]; exact Lib.hid (.seq (cap := 0) .nil)
    have HOKx := HOK3
    have HDPx := HDP3
    clear hbi hva hvl hvc
    have y0 := blk_cell HBx.out.b6 0 (.string ⟨nm.toArray⟩) rfl
    have yf0 := blk_free HBx.out.b6 0
    have y1 := blk_cell HBx.out.b6 1 (.slice va vl vc) rfl
    have yf1 := blk_free HBx.out.b6 1
    have y2 := blk_cell HBx.out.b6 2 (.string ⟨#[]⟩) rfl
    have yf2 := blk_free HBx.out.b6 2
    have y3 := blk_cell HBx.out.b6 3 (.int .i64 pa) rfl
    have yf3 := blk_free HBx.out.b6 3
    have k2 : _ := HBx.out.cellx HMB.out
    go_wp2_with fail
    refine (rwant_any b g s3 Rd.colon w4 HBx.out.rd).mono ?_
    rintro r w5 ⟨rfl, h5, f5⟩
    have HB5 := Lib.hid (HBx.out.step h5 f5)
    have hst5 : Stands w4 (fun x => t6 < x) w5 (fun x => t6 < x) := ⟨f5.size, fun x hx hp => ⟨hp, f5.block x hx (by have h1 := HBx.out.l6; have h2 := HBx.out.lb; have h3 : t6 < x := hp; omega)⟩⟩
    have HRV5 := Lib.hid (HRV.out.to hst5)
    obtain ⟨s5, hs5⟩ : ∃ x, x = Rd.want Rd.colon s3 := ⟨_, rfl⟩
    rw [← hs5] at HB5
    have HS5 := Lib.hid hs5
    have HOK5 : Hid (Rd.Ok s s5) := by rw [HS5.out]; exact Lib.hid (HOKx.out.trans (Rd.ok_want _ s3))
    have HDP5 : Hid (s5.deep = s.deep) := by rw [HS5.out, Rd.want_deep, HDPx.out]; exact Lib.hid rfl
    have HN5 : Hid (s5.err ≠ 0 ∨ s5.rest.length ≤ n) := by
      refine Lib.hid ?_
      rcases HN.out with h | h
      · left; rw [HOK5.out.err h]; exact h
      · right; exact Nat.le_trans HOK5.out.len h
    clear h5 f5 hs5 hst5
    clear k2 y0 yf0 y1 yf1 y2 yf2 y3 yf3
    have k2 : _ := HB5.out.cellx HMB.out
    go_wp2_with fail
    refine (rtype_any b g n s5 w5 HB5.out.rd HN5.out hnb (by rw [HDP5.out]; omega)).mono ?_
    rintro r w6 ⟨rfl, h6, f6⟩
    have HB6 := Lib.hid (HB5.out.step h6 f6)
    have hst6 : Stands w5 (fun x => t6 < x) w6 (fun x => t6 < x) := ⟨f6.size, fun x hx hp => ⟨hp, f6.block x hx (by have h1 := HB5.out.l6; have h2 := HB5.out.lb; have h3 : t6 < x := hp; omega)⟩⟩
    have HRV6 := Lib.hid (HRV5.out.to hst6)
    obtain ⟨s6, hs6⟩ : ∃ x, x = (Rd.type (n + 1) s5).1 := ⟨_, rfl⟩
    obtain ⟨ty, hty⟩ : ∃ x, x = (Rd.type (n + 1) s5).2 := ⟨_, rfl⟩
    rw [← hs6] at HB6
    rw [← hty]
    have HS6 := Lib.hid hs6
    have HTY := Lib.hid hty
    clear h6 f6 hs6 hty hst6 k2
    have y0 := blk_cell HB6.out.b6 0 (.string ⟨nm.toArray⟩) rfl
    have yf0 := blk_free HB6.out.b6 0
    have y1 := blk_cell HB6.out.b6 1 (.slice va vl vc) rfl
    have yf1 := blk_free HB6.out.b6 1
    have y2 := blk_cell HB6.out.b6 2 (.string ⟨#[]⟩) rfl
    have yf2 := blk_free HB6.out.b6 2
    have y3 := blk_cell HB6.out.b6 3 (.int .i64 pa) rfl
    have yf3 := blk_free HB6.out.b6 3
    have z0 := blk_cell (HB6.out.cb _ HMR.out) 0 (.string ⟨#[]⟩) rfl
    have zf0 := blk_free (HB6.out.cb _ HMR.out) 0
    have z1 := blk_cell (HB6.out.cb _ HMR.out) 1 (.slice none 0 0) rfl
    have zf1 := blk_free (HB6.out.cb _ HMR.out) 1
    have z2 := blk_cell (HB6.out.cb _ HMR.out) 2 (.string ⟨#[]⟩) rfl
    have zf2 := blk_free (HB6.out.cb _ HMR.out) 2
    have z3 := blk_cell (HB6.out.cb _ HMR.out) 3 (.int .i64 0) rfl
    have zf3 := blk_free (HB6.out.cb _ HMR.out) 3
    have HBz : Hid (BI w b g t6 [(w.heap.size, Obj.cells #[.pointer (some ⟨b, 0, none⟩)] 73 (0, 0)), (w.heap.size + 1, Obj.cells #[.string ⟨#[]⟩, .slice none 0 0, .string ⟨#[]⟩, .int .i64 0] 72 (0, 0))] 72 [.string ⟨nm.toArray⟩, .slice va vl vc, .string ⟨ty.toArray⟩, .int .i64 pa].toArray s6 (w6.setCell ⟨t6, 2, none⟩ (.string ⟨ty.toArray⟩))) := Lib.hid (HB6.out.put 2 (.string ⟨ty.toArray⟩))
    have HRS : Hid (Reads (w6.setCell ⟨t6, 2, none⟩ (.string ⟨ty.toArray⟩)) (fun x => t6 < x) (Sd.Fd.d ⟨nm, [], ty, pa⟩) [.string ⟨nm.toArray⟩, .slice va vl vc, .string ⟨ty.toArray⟩, .int .i64 pa]) := by
      unfold Sd.Fd.d
      have h1 := HRV6.out.to (w' := w6.setCell ⟨t6, 2, none⟩ (.string ⟨ty.toArray⟩)) (Q := fun x => t6 < x) ⟨by rw [size_set]; exact Nat.le_refl _, fun x hx hp => ⟨hp, heap_set_ne (by have h3 : t6 < x := hp; omega)⟩⟩
      exact Lib.hid (.obj (.cons (.str _) (.cons h1 (.cons (.str _) (.cons (.int _) .nil)))))
    have HE : Hid (Sd.field (n + 1) s = (s6, ⟨nm, [], ty, pa⟩)) := by
      refine Lib.hid ?_
      unfold Sd.field
      dsimp only
      rw [← HS1.out, ← HS3.out, ← HNM.out, HBT.out, ← HS5.out, ← HS6.out, ← HTY.out, ← HPA.out]
    have hfin := HBz.out.fin HMR.out HRS.out (fun x hx => hx)
    simp only [putCells, Nat.reduceAdd, Nat.zero_add] at hfin
    have HFN := Lib.hid hfin
    clear hfin
    go_wp2_with fail
    refine bodyPost_ret (v := .agg #[.string ⟨nm.toArray⟩, .slice va vl vc, .string ⟨ty.toArray⟩, .int .i64 pa]) (by simp [results, Tryz.results75, go_sem, z0, z1, z2, z3, n1, n2, n3, n4]) rfl ?_
    rw [HE.out]
    exact ⟨_, rfl, HFN.out⟩
  · have HT : Hid (Rd.take Rd.lpar s3 = Rd.next s3) := by unfold Rd.take; rw [if_pos HBTT.out.symm]; exact Lib.hid rfl
    obtain ⟨L, hLL⟩ : ∃ x, x = Rd.loop1 Rd.rpar (Sd.input (n + 1)) (n + 1) (Rd.next s3) := ⟨_, rfl⟩
    have HLL := Lib.hid hLL
    have HBT : Hid (Sd.between Rd.lpar Rd.rpar (Sd.input (n + 1)) (n + 1) s3 = (Rd.want Rd.rpar L.1, L.2)) := by unfold Sd.between; rw [if_pos HBTT.out.symm, HLL.out]; exact Lib.hid rfl
    have HNX := Lib.hid (Rd.next_sign HBTT.out.symm)
    have hnx : (Rd.next s3).rest.length + 1 ≤ n := by
      have h6 := HOK3.out.len
      have h7 := HNX.out.1
      rcases HN.out with h | h
      · have := HOK3.out.err h
        have hz := HBTT.out
        rw [Rd.isS_err (by rw [this]; exact h)] at hz
        cases hz
      · omega
    have HLI : Hid (LI w b g t6 [(w.heap.size, Obj.cells #[.pointer (some ⟨b, 0, none⟩)] 73 (0, 0)), (w.heap.size + 1, Obj.cells #[.string ⟨#[]⟩, .slice none 0 0, .string ⟨#[]⟩, .int .i64 0] 72 (0, 0))] 72 (mkArgs ⟨nm.toArray⟩ pa) 137 9 (Rd.next s3) [] w4) := by
      have hbi : BI w b g t6 [(w.heap.size, Obj.cells #[.pointer (some ⟨b, 0, none⟩)] 73 (0, 0)), (w.heap.size + 1, Obj.cells #[.string ⟨#[]⟩, .slice none 0 0, .string ⟨#[]⟩, .int .i64 0] 72 (0, 0))] 72 (mkArgs ⟨nm.toArray⟩ pa (.slice none 0 0)) (Rd.next s3) w4 := by
        have := HBw.out
        rw [HT.out] at this
        exact this
      exact Lib.hid hbi.li
    have HND : Hid ((Rd.next s3).deep = s.deep) := by rw [Rd.next_deep, HDP3.out]; exact Lib.hid rfl
    have HCL : Hid (∀ (s1 : Rd.St) (out : List Sd.In) (w1 : World), LI w b g t6 [(w.heap.size, Obj.cells #[.pointer (some ⟨b, 0, none⟩)] 73 (0, 0)), (w.heap.size + 1, Obj.cells #[.string ⟨#[]⟩, .slice none 0 0, .string ⟨#[]⟩, .int .i64 0] 72 (0, 0))] 72 (mkArgs ⟨nm.toArray⟩ pa) 137 9 s1 (out.map Sd.In.d) w1 → s1.rest.length ≤ n → s1.deep = s.deep → out.length ≤ 1000000 →
        Calls Tryz.prog 113 #[.pointer (some ⟨t6, 0, none⟩), .pointer (some ⟨w.heap.size, 0, none⟩)] w1 fun r w' => r = .returned (.tuple #[]) ∧
          LI w b g t6 [(w.heap.size, Obj.cells #[.pointer (some ⟨b, 0, none⟩)] 73 (0, 0)), (w.heap.size + 1, Obj.cells #[.string ⟨#[]⟩, .slice none 0 0, .string ⟨#[]⟩, .int .i64 0] 72 (0, 0))] 72 (mkArgs ⟨nm.toArray⟩ pa) 137 9 (Sd.input (n + 1) s1).1 ((out ++ [(Sd.input (n + 1) s1).2]).map Sd.In.d) w') :=
      Lib.hid fun s1 out w1 hl hr hdp ho => by
        rw [List.map_append]
        exact fieldC_any w b g t6 _ w.heap.size ⟨nm.toArray⟩ pa (n + 1) HMB.out s1 (out.map Sd.In.d) w1
          (fun w2 hr2 => input_any b g n hnb s1 w2 hr2 (.inr hr) (by rw [hdp]; omega)) hl (by rw [List.length_map]; exact ho)
    have HDP := Lib.hid (fun s => Sd.input_deep (n + 1) s)
    have HOK := Lib.hid (fun s => Sd.ok_input (n + 1) s)
    have HGO := Lib.hid (fun s1 he => Sd.input_goes (n + 1) s1 he)
    have HMBx := HMB
    have k2 : w4.cell? ⟨w.heap.size, 0, none⟩ = some (.pointer (some ⟨b, 0, none⟩)) := HLI.out.cellx HMB.out
    clear hLL
    go_wp2_with fail
    refine (some1_any Rd.rpar (Sd.input (n + 1)) (FLI w b g t6 [(w.heap.size, Obj.cells #[.pointer (some ⟨b, 0, none⟩)] 73 (0, 0)), (w.heap.size + 1, Obj.cells #[.string ⟨#[]⟩, .slice none 0 0, .string ⟨#[]⟩, .int .i64 0] 72 (0, 0))] 72 (mkArgs ⟨nm.toArray⟩ pa) 137 9 Sd.In.d n s.deep) b g _ _ (enters_FC _) (fun s out w' h => h.1.rd) (fun s out w1 w2 h hb => ⟨h.1.below hb, h.2⟩) (fun s1 out w2 h he => ?_) (fun s1 out w2 h he _ => HGO.out s1 he) (n + 1) (Rd.next s3) w4 ?_ ?_).mono ?_
    · refine (HCL.out s1 out w2 h.1 h.2.2.1 h.2.1 (by have := h.2.2.2.2; omega)).mono ?_
      rintro r w3 ⟨hre, hli⟩
      refine ⟨hre, hli, by rw [HDP.out]; exact h.2.1, Nat.le_trans (HOK.out s1).len h.2.2.1, fun he2 => ?_, by have := h.2.2.2.1 he; rw [List.length_append]; simp; omega⟩
      rcases HGO.out s1 he with hx | hx
      · exact absurd he2 hx
      · have := h.2.2.2.1 he
        rw [List.length_append]
        simp
        omega
    · refine (HCL.out (Rd.next s3) [] w4 HLI.out (by omega) HND.out (by simp)).mono ?_
      rintro r w3 ⟨hre, hli⟩
      have hlen := (HOK.out (Rd.next s3)).len
      exact ⟨hre, hli, by rw [HDP.out]; exact HND.out, by omega, fun _ => by simp; omega, by simp⟩
    · rcases HGO.out (Rd.next s3) HNX.out.2 with hx | hx
      · exact .inl hx
      · exact .inr (by omega)
    rintro r w5 ⟨rfl, hL⟩
    rw [← HLL.out] at hL
    have HL := Lib.hid hL
    clear k2 hL
    have k2 : w5.cell? ⟨w.heap.size, 0, none⟩ = some (.pointer (some ⟨b, 0, none⟩)) := HL.out.1.cellx HMB.out
    go_wp2_with fail
    refine (rwant_any b g L.1 Rd.rpar w5 HL.out.1.rd).mono ?_
    rintro r w7 ⟨rfl, h7, f7⟩
    have hl7 := HL.out.1.step h7 f7
    obtain ⟨va, vc, hbx, hrv⟩ := hl7.bi (fun p hp => ⟨hp, (HB3.out.lx p hp).2⟩)
    obtain ⟨vl, hvl⟩ : ∃ x, x = (L.2.map Sd.In.d).length := ⟨_, rfl⟩
    rw [← hvl] at hbx hrv
    obtain ⟨s7, hs7⟩ : ∃ x, x = Rd.want Rd.rpar L.1 := ⟨_, rfl⟩
    have HBx : Hid (BI w b g t6 [(w.heap.size, Obj.cells #[.pointer (some ⟨b, 0, none⟩)] 73 (0, 0)), (w.heap.size + 1, Obj.cells #[.string ⟨#[]⟩, .slice none 0 0, .string ⟨#[]⟩, .int .i64 0] 72 (0, 0))] 72 #[.string ⟨nm.toArray⟩, .slice va vl vc, .string ⟨#[]⟩, .int .i64 pa] s7 w7) := by rw [hs7]; exact Lib.hid hbx
    have HRV := Lib.hid hrv
    have HBT2 : Hid (Sd.between Rd.lpar Rd.rpar (Sd.input (n + 1)) (n + 1) s3 = (s7, L.2)) := by rw [HBT.out, hs7]; exact Lib.hid rfl
    have HOKx : Hid (Rd.Ok s s7) := by
      have h1 := HOK3.out.trans (Sd.ok_between Rd.lpar Rd.rpar (Sd.input (n + 1)) (Sd.ok_input (n + 1)) (n + 1) s3)
      rw [HBT2.out] at h1
      exact Lib.hid h1
    have HDPx : Hid (s7.deep = s.deep) := by
      have h1 := Sd.between_deep Rd.lpar Rd.rpar (Sd.input (n + 1)) (Sd.input_deep (n + 1)) (n + 1) s3
      rw [HBT2.out] at h1
      exact Lib.hid (h1.trans HDP3.out)
    clear HBT h7 f7 hl7 hbx hrv hvl hs7 k2
    have HBT := HBT2
    have y0 := blk_cell HBx.out.b6 0 (.string ⟨nm.toArray⟩) rfl
    have yf0 := blk_free HBx.out.b6 0
    have y1 := blk_cell HBx.out.b6 1 (.slice va vl vc) rfl
    have yf1 := blk_free HBx.out.b6 1
    have y2 := blk_cell HBx.out.b6 2 (.string ⟨#[]⟩) rfl
    have yf2 := blk_free HBx.out.b6 2
    have y3 := blk_cell HBx.out.b6 3 (.int .i64 pa) rfl
    have yf3 := blk_free HBx.out.b6 3
    have k2 : _ := HBx.out.cellx HMB.out
    go_wp2_with fail
    refine (rwant_any b g s7 Rd.colon w7 HBx.out.rd).mono ?_
    rintro r w5 ⟨rfl, h5, f5⟩
    have HB5 := Lib.hid (HBx.out.step h5 f5)
    have hst5 : Stands w7 (fun x => t6 < x) w5 (fun x => t6 < x) := ⟨f5.size, fun x hx hp => ⟨hp, f5.block x hx (by have h1 := HBx.out.l6; have h2 := HBx.out.lb; have h3 : t6 < x := hp; omega)⟩⟩
    have HRV5 := Lib.hid (HRV.out.to hst5)
    obtain ⟨s5, hs5⟩ : ∃ x, x = Rd.want Rd.colon s7 := ⟨_, rfl⟩
    rw [← hs5] at HB5
    have HS5 := Lib.hid hs5
    have HOK5 : Hid (Rd.Ok s s5) := by rw [HS5.out]; exact Lib.hid (HOKx.out.trans (Rd.ok_want _ s7))
    have HDP5 : Hid (s5.deep = s.deep) := by rw [HS5.out, Rd.want_deep, HDPx.out]; exact Lib.hid rfl
    have HN5 : Hid (s5.err ≠ 0 ∨ s5.rest.length ≤ n) := by
      refine Lib.hid ?_
      rcases HN.out with h | h
      · left; rw [HOK5.out.err h]; exact h
      · right; exact Nat.le_trans HOK5.out.len h
    clear h5 f5 hs5 hst5
    clear k2 y0 yf0 y1 yf1 y2 yf2 y3 yf3
    have k2 : _ := HB5.out.cellx HMB.out
    go_wp2_with fail
    refine (rtype_any b g n s5 w5 HB5.out.rd HN5.out hnb (by rw [HDP5.out]; omega)).mono ?_
    rintro r w6 ⟨rfl, h6, f6⟩
    have HB6 := Lib.hid (HB5.out.step h6 f6)
    have hst6 : Stands w5 (fun x => t6 < x) w6 (fun x => t6 < x) := ⟨f6.size, fun x hx hp => ⟨hp, f6.block x hx (by have h1 := HB5.out.l6; have h2 := HB5.out.lb; have h3 : t6 < x := hp; omega)⟩⟩
    have HRV6 := Lib.hid (HRV5.out.to hst6)
    obtain ⟨s6, hs6⟩ : ∃ x, x = (Rd.type (n + 1) s5).1 := ⟨_, rfl⟩
    obtain ⟨ty, hty⟩ : ∃ x, x = (Rd.type (n + 1) s5).2 := ⟨_, rfl⟩
    rw [← hs6] at HB6
    rw [← hty]
    have HS6 := Lib.hid hs6
    have HTY := Lib.hid hty
    clear h6 f6 hs6 hty hst6 k2
    have y0 := blk_cell HB6.out.b6 0 (.string ⟨nm.toArray⟩) rfl
    have yf0 := blk_free HB6.out.b6 0
    have y1 := blk_cell HB6.out.b6 1 (.slice va vl vc) rfl
    have yf1 := blk_free HB6.out.b6 1
    have y2 := blk_cell HB6.out.b6 2 (.string ⟨#[]⟩) rfl
    have yf2 := blk_free HB6.out.b6 2
    have y3 := blk_cell HB6.out.b6 3 (.int .i64 pa) rfl
    have yf3 := blk_free HB6.out.b6 3
    have z0 := blk_cell (HB6.out.cb _ HMR.out) 0 (.string ⟨#[]⟩) rfl
    have zf0 := blk_free (HB6.out.cb _ HMR.out) 0
    have z1 := blk_cell (HB6.out.cb _ HMR.out) 1 (.slice none 0 0) rfl
    have zf1 := blk_free (HB6.out.cb _ HMR.out) 1
    have z2 := blk_cell (HB6.out.cb _ HMR.out) 2 (.string ⟨#[]⟩) rfl
    have zf2 := blk_free (HB6.out.cb _ HMR.out) 2
    have z3 := blk_cell (HB6.out.cb _ HMR.out) 3 (.int .i64 0) rfl
    have zf3 := blk_free (HB6.out.cb _ HMR.out) 3
    have HBz : Hid (BI w b g t6 [(w.heap.size, Obj.cells #[.pointer (some ⟨b, 0, none⟩)] 73 (0, 0)), (w.heap.size + 1, Obj.cells #[.string ⟨#[]⟩, .slice none 0 0, .string ⟨#[]⟩, .int .i64 0] 72 (0, 0))] 72 [.string ⟨nm.toArray⟩, .slice va vl vc, .string ⟨ty.toArray⟩, .int .i64 pa].toArray s6 (w6.setCell ⟨t6, 2, none⟩ (.string ⟨ty.toArray⟩))) := Lib.hid (HB6.out.put 2 (.string ⟨ty.toArray⟩))
    have HRS : Hid (Reads (w6.setCell ⟨t6, 2, none⟩ (.string ⟨ty.toArray⟩)) (fun x => t6 < x) (Sd.Fd.d ⟨nm, L.2, ty, pa⟩) [.string ⟨nm.toArray⟩, .slice va vl vc, .string ⟨ty.toArray⟩, .int .i64 pa]) := by
      unfold Sd.Fd.d
      have h1 := HRV6.out.to (w' := w6.setCell ⟨t6, 2, none⟩ (.string ⟨ty.toArray⟩)) (Q := fun x => t6 < x) ⟨by rw [size_set]; exact Nat.le_refl _, fun x hx hp => ⟨hp, heap_set_ne (by have h3 : t6 < x := hp; omega)⟩⟩
      exact Lib.hid (.obj (.cons (.str _) (.cons h1 (.cons (.str _) (.cons (.int _) .nil)))))
    have HE : Hid (Sd.field (n + 1) s = (s6, ⟨nm, L.2, ty, pa⟩)) := by
      refine Lib.hid ?_
      unfold Sd.field
      dsimp only
      rw [← HS1.out, ← HS3.out, ← HNM.out, HBT.out, ← HS5.out, ← HS6.out, ← HTY.out, ← HPA.out]
    have hfin := HBz.out.fin HMR.out HRS.out (fun x hx => hx)
    simp only [putCells, Nat.reduceAdd, Nat.zero_add] at hfin
    have HFN := Lib.hid hfin
    clear hfin
    go_wp2_with fail
    refine bodyPost_ret (v := .agg #[.string ⟨nm.toArray⟩, .slice va vl vc, .string ⟨ty.toArray⟩, .int .i64 pa]) (by simp [results, Tryz.results75, go_sem, z0, z1, z2, z3, n1, n2, n3, n4]) rfl ?_
    rw [HE.out]
    exact ⟨_, rfl, HFN.out⟩
end Go.Proofs.YtabcaljnpahgpaaGreatDoor
namespace Go.Proofs.YtabcaljnpahgpaaGreatDoor
set_option linter.unusedSimpArgs false
set_option linter.unusedVariables false
open Go Go.RowKit

set_option maxHeartbeats 1000000 in
set_option maxRecDepth 100000 in
theorem within_any {α : Type} (w0 : World) (b g t6 : Nat) (bx : List Box) (T6 : TypeId) (mk : Value → Array Value) (E : TypeId) (k : Nat) (dd : α → D) (f : Rd.St → Rd.St × α) (n : Nat) (d1 : Int) (fid : FuncId) (cap : Array Value)
    (hk : ∀ w, Sem.run Tryz.prog (callFunc fid cap) w = .ok (.enter fid cap) w) (hnb : n ≤ 1600)
    (hcl : ∀ (s1 : Rd.St) (out : List α) (w1 : World), LI w0 b g t6 bx T6 mk E k s1 (out.map dd) w1 → s1.rest.length ≤ n → s1.deep = d1 → out.length ≤ 1000000 → Calls Tryz.prog fid cap w1 fun r w' => r = .returned (.tuple #[]) ∧ LI w0 b g t6 bx T6 mk E k (f s1).1 ((out ++ [(f s1).2]).map dd) w')
    (hdp : ∀ s, (f s).1.deep = s.deep) (hok : ∀ s, Rd.Ok s (f s).1) (hgo : ∀ s, s.err = 0 → (f s).1.err ≠ 0 ∨ (f s).1.rest.length < s.rest.length)
    (s : Rd.St) (w : World) (h : LI w0 b g t6 bx T6 mk E k s [] w) (hn : s.err ≠ 0 ∨ s.rest.length ≤ n) (hd : s.deep = d1) :
    Calls Tryz.prog 73 #[.pointer (some ⟨b, 0, none⟩), .func (.func fid) #[] cap] w fun r w' => r = .returned (.tuple #[]) ∧
      LI w0 b g t6 bx T6 mk E k (Sd.between Rd.lbrc Rd.rbrc f (n + 1) s).1 ((Sd.between Rd.lbrc Rd.rbrc f (n + 1) s).2.map dd) w' := by
  have H := Lib.hid h
  have HN := Lib.hid hn
  have HD := Lib.hid hd
  have HCL := Lib.hid hcl
  have HDP := Lib.hid hdp
  have HOK := Lib.hid hok
  have HGO := Lib.hid hgo
  have HK := Lib.hid hk
  clear h hn hd hcl hdp hok hgo hk
  go_enter Tryz.func73, Tryz.ntmps73
  go_wp2_with fail
  refine (rtake_any b g s Rd.lbrc _ H.out.rd).mono ?_
  rintro r w4 ⟨rfl, h4, f4⟩
  obtain ⟨B, hBt⟩ : ∃ B, B = Rd.isS s Rd.lbrc := ⟨_, rfl⟩
  have HBTT := Lib.hid hBt
  have H4 := Lib.hid (H.out.step h4 f4)
  rw [← hBt]
  clear h4 f4 hBt
  cases B
  · have HT : Hid (Rd.take Rd.lbrc s = s) := by unfold Rd.take; rw [if_neg (by rw [← HBTT.out]; simp)]; exact Lib.hid rfl
    have HBT : Hid (Sd.between Rd.lbrc Rd.rbrc f (n + 1) s = (s, [])) := by unfold Sd.between; rw [if_neg (by rw [← HBTT.out]; simp)]; exact Lib.hid rfl
    go_wp2_with fail
    go_end0
    refine ⟨rfl, ?_⟩
    rw [HBT.out]
    have := H4.out
    rw [HT.out] at this
    exact this
  · have HT : Hid (Rd.take Rd.lbrc s = Rd.next s) := by unfold Rd.take; rw [if_pos HBTT.out.symm]; exact Lib.hid rfl
    have HBT : Hid (Sd.between Rd.lbrc Rd.rbrc f (n + 1) s = (Rd.want Rd.rbrc (Rd.loop1 Rd.rbrc f (n + 1) (Rd.next s)).1, (Rd.loop1 Rd.rbrc f (n + 1) (Rd.next s)).2)) := by unfold Sd.between; rw [if_pos HBTT.out.symm]; exact Lib.hid rfl
    have HNX := Lib.hid (Rd.next_sign HBTT.out.symm)
    have hnx : (Rd.next s).rest.length + 1 ≤ n := by
      have h7 := HNX.out.1
      rcases HN.out with h | h
      · have hz := HBTT.out
        rw [Rd.isS_err h] at hz
        cases hz
      · omega
    have HLI : Hid (LI w0 b g t6 bx T6 mk E k (Rd.next s) [] w4) := by rw [← HT.out]; exact H4
    have HND : Hid ((Rd.next s).deep = d1) := by rw [Rd.next_deep, HD.out]; exact Lib.hid rfl
    go_wp2_with fail
    refine (some1_any Rd.rbrc f (FLI w0 b g t6 bx T6 mk E k dd n d1) b g _ _ HK.out (fun s out w' h => h.1.rd) (fun s out w1 w2 h hb => ⟨h.1.below hb, h.2⟩) (fun s1 out w2 h he => ?_) (fun s1 out w2 h he _ => HGO.out s1 he) (n + 1) (Rd.next s) w4 ?_ ?_).mono ?_
    · refine (HCL.out s1 out w2 h.1 h.2.2.1 h.2.1 (by have := h.2.2.2.2; omega)).mono ?_
      rintro r w3 ⟨hre, hli⟩
      refine ⟨hre, hli, by rw [HDP.out]; exact h.2.1, Nat.le_trans (HOK.out s1).len h.2.2.1, fun he2 => ?_, by have := h.2.2.2.1 he; rw [List.length_append]; simp; omega⟩
      rcases HGO.out s1 he with hx | hx
      · exact absurd he2 hx
      · have := h.2.2.2.1 he
        rw [List.length_append]
        simp
        omega
    · refine (HCL.out (Rd.next s) [] w4 HLI.out (by omega) HND.out (by simp)).mono ?_
      rintro r w3 ⟨hre, hli⟩
      have hlen := (HOK.out (Rd.next s)).len
      exact ⟨hre, hli, by rw [HDP.out]; exact HND.out, by omega, fun _ => by simp; omega, by simp⟩
    · rcases HGO.out (Rd.next s) HNX.out.2 with hx | hx
      · exact .inl hx
      · exact .inr (by omega)
    rintro r w5 ⟨rfl, hL⟩
    have HL := Lib.hid hL
    clear hL
    go_wp2_with fail
    refine (rwant_any b g _ Rd.rbrc w5 HL.out.1.rd).mono ?_
    rintro r w7 ⟨rfl, h7, f7⟩
    have H7 := Lib.hid (HL.out.1.step h7 f7)
    clear h7 f7
    go_wp2_with fail
    go_end0
    refine ⟨rfl, ?_⟩
    rw [HBT.out]
    exact H7.out
end Go.Proofs.YtabcaljnpahgpaaGreatDoor
