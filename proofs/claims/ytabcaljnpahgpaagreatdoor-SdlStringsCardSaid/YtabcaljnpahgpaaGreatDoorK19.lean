/-
  The reader of types: a definition, walked. The reader of types: Parse, walked.
-/
import Derived.Test.YtabcaljnpahgpaaGreatDoorK18
import Derived.Test.YtabcaljnpahgpaaGreatDoorK14
namespace Go.Proofs.YtabcaljnpahgpaaGreatDoor
set_option linter.unusedSimpArgs false
set_option linter.unusedVariables false
open Go Go.RowKit
set_option maxHeartbeats 8000000 in
set_option maxRecDepth 100000 in
theorem def_any (b g : Nat) (n : Nat) (hnb : n ≤ 1600) (s : Rd.St) (w : World) (h : RdAt w b g s) (hn : s.err ≠ 0 ∨ s.rest.length ≤ n) (hd : 0 ≤ s.deep ∧ s.deep + n ≤ 900000) :
    Calls Tryz.prog 35 #[.pointer (some ⟨b, 0, none⟩)] w (Got b g w (Sd.def_ (n + 1) s).2.d (Sd.def_ (n + 1) s).1) := by
  have hlb := h.lt
  have H := Lib.hid h
  have HN := Lib.hid hn
  obtain ⟨d0, d1⟩ := hd
  have hba : Below w.heap.size w ((w.alloc (.cells #[.pointer (some ⟨b, 0, none⟩)] 73)).alloc (.cells #[.int .i64 0, .string ⟨#[]⟩, .slice none 0 0, .slice none 0 0, .slice none 0 0, .slice none 0 0, .int .i64 0] 38)) := ((Below.refl _ _).alloc (Nat.le_refl _) _).alloc (by simp) _
  have HBA := Lib.hid hba
  have hA : ((w.alloc (.cells #[.pointer (some ⟨b, 0, none⟩)] 73)).alloc (.cells #[.int .i64 0, .string ⟨#[]⟩, .slice none 0 0, .slice none 0 0, .slice none 0 0, .slice none 0 0, .int .i64 0] 38)).heap[w.heap.size]? = some (.cells #[.pointer (some ⟨b, 0, none⟩)] 73 (0, 0)) := by
    rw [Lib.alloc_old _ _ _ (by simp)]; exact heap_at_new _ _
  have hB : ((w.alloc (.cells #[.pointer (some ⟨b, 0, none⟩)] 73)).alloc (.cells #[.int .i64 0, .string ⟨#[]⟩, .slice none 0 0, .slice none 0 0, .slice none 0 0, .slice none 0 0, .int .i64 0] 38)).heap[w.heap.size + 1]? = some (.cells #[.int .i64 0, .string ⟨#[]⟩, .slice none 0 0, .slice none 0 0, .slice none 0 0, .slice none 0 0, .int .i64 0] 38 (0, 0)) := by
    have := heap_at_new (w.alloc (.cells #[.pointer (some ⟨b, 0, none⟩)] 73)) (.cells #[.int .i64 0, .string ⟨#[]⟩, .slice none 0 0, .slice none 0 0, .slice none 0 0, .slice none 0 0, .int .i64 0] 38)
    rw [show (w.alloc (.cells #[.pointer (some ⟨b, 0, none⟩)] 73)).heap.size = w.heap.size + 1 by simp] at this
    exact this
  have hW0 : ((w.alloc (.cells #[.pointer (some ⟨b, 0, none⟩)] 73)).alloc (.cells #[.int .i64 0, .string ⟨#[]⟩, .slice none 0 0, .slice none 0 0, .slice none 0 0, .slice none 0 0, .int .i64 0] 38)).heap.size = w.heap.size + 2 := by simp
  have HA := Lib.hid hA
  have HBB := Lib.hid hB
  have HW0 := Lib.hid hW0
  have HMB : Hid ((w.heap.size, Obj.cells #[.pointer (some ⟨b, 0, none⟩)] 73 (0, 0)) ∈ [(w.heap.size, Obj.cells #[.pointer (some ⟨b, 0, none⟩)] 73 (0, 0)), (w.heap.size + 1, Obj.cells #[.int .i64 0, .string ⟨#[]⟩, .slice none 0 0, .slice none 0 0, .slice none 0 0, .slice none 0 0, .int .i64 0] 38 (0, 0))]) := Lib.hid List.mem_cons_self
  have HMR : Hid ((w.heap.size + 1, Obj.cells #[.int .i64 0, .string ⟨#[]⟩, .slice none 0 0, .slice none 0 0, .slice none 0 0, .slice none 0 0, .int .i64 0] 38 (0, 0)) ∈ [(w.heap.size, Obj.cells #[.pointer (some ⟨b, 0, none⟩)] 73 (0, 0)), (w.heap.size + 1, Obj.cells #[.int .i64 0, .string ⟨#[]⟩, .slice none 0 0, .slice none 0 0, .slice none 0 0, .slice none 0 0, .int .i64 0] 38 (0, 0))]) := Lib.hid (List.mem_cons_of_mem _ List.mem_cons_self)
  have k2 := blk_cell hA 0 (.pointer (some ⟨b, 0, none⟩)) rfl
  clear h hn hba hA hB hW0
  go_enter Tryz.func35, Tryz.ntmps35
  go_wp2_with fail
  refine (told_any b g s _ (H.out.below HBA.out)).mono ?_
  rintro r w1 ⟨rfl, h1, f1⟩
  obtain ⟨s1, hs1⟩ : ∃ x, x = Sd.told s := ⟨_, rfl⟩
  rw [← hs1] at h1
  have HS1 := Lib.hid hs1
  have H1 := Lib.hid h1
  have F1 := Lib.hid f1
  clear h1 f1 hs1 k2
  have HA1 : Hid (w1.heap[w.heap.size]? = some (.cells #[.pointer (some ⟨b, 0, none⟩)] 73 (0, 0))) := Lib.hid (by rw [F1.out.block w.heap.size (by rw [HW0.out]; omega) (by omega)]; exact HA.out)
  have HB1 : Hid (w1.heap[w.heap.size + 1]? = some (.cells #[.int .i64 0, .string ⟨#[]⟩, .slice none 0 0, .slice none 0 0, .slice none 0 0, .slice none 0 0, .int .i64 0] 38 (0, 0))) := Lib.hid (by rw [F1.out.block (w.heap.size + 1) (by rw [HW0.out]; omega) (by omega)]; exact HBB.out)
  have hS : w1.cell? ⟨w.heap.size, 0, none⟩ = some (.pointer (some ⟨b, 0, none⟩)) := blk_cell HA1.out 0 (.pointer (some ⟨b, 0, none⟩)) rfl
  have HSS := Lib.hid hS
  go_wp2_with fail
  refine wp_region_phase (fun w' => w'.cell? ⟨w.heap.size, 0, none⟩ = some (.pointer (some ⟨b, 0, none⟩))) 6 (by kernel_rfl) ?_
  refine wpAnyB_take (i := 0) (v := (.pointer (some ⟨b, 0, none⟩))) (by kernel_rfl) (by decide) rfl (by kernel_rfl) (by kernel_rfl) (by kernel_rfl) (fun _ _ _ h => h) (Or.inl ⟨by rfl, fun w hSw => by have s0 := hSw; go_simp⟩) hS ?_; simp only [Act.put, List.setIfInBounds_toArray, List.set_cons_zero, List.set_cons_succ]
  refine wpAnyB_take (i := 1) (v := (.pointer (some ⟨b, 0, none⟩))) (by kernel_rfl) (by decide) rfl (by kernel_rfl) (by kernel_rfl) (by kernel_rfl) (fun _ _ _ h => h) (Or.inl ⟨by rfl, fun w hSw => by have s0 := hSw; go_simp⟩) hS ?_; simp only [Act.put, List.setIfInBounds_toArray, List.set_cons_zero, List.set_cons_succ]
  refine wpAnyB_take (i := 2) (v := (.pointer (some ⟨b, 0, none⟩))) (by kernel_rfl) (by decide) rfl (by kernel_rfl) (by kernel_rfl) (by kernel_rfl) (fun _ _ _ h => h) (Or.inl ⟨by rfl, fun w hSw => by have s0 := hSw; go_simp⟩) hS ?_; simp only [Act.put, List.setIfInBounds_toArray, List.set_cons_zero, List.set_cons_succ]
  clear hS
  refine wpAnyB_one (i := 3) (by kernel_rfl) ?_
  refine wpOp_intro (by decide) (fun K HK => ?_)
  simp only [List.drop_succ_cons, List.drop_zero]
  go_wp2_with fail
  refine (words_any _).mono ?_
  rintro r w2 ⟨rfl, f2, hx2⟩
  have F2 : Hid (Below w1.heap.size w1 w2) := Lib.hid ⟨f2.os, f2.tape, f2.output, f2.size, f2.block⟩
  have HX2 := Lib.hid hx2
  clear f2 hx2
  have HS2 : Hid (w2.cell? ⟨w.heap.size, 0, none⟩ = some (.pointer (some ⟨b, 0, none⟩))) := Lib.hid (by rw [F2.out.cell (by simpa using block_lt HA1.out)]; exact HSS.out)
  have H2 : Hid (RdAt w2 b g s1) := Lib.hid (H1.out.below F2.out)
  go_wp2_with fail
  refine HK.out _ _ ⟨fun _ => HS2.out, ?_⟩
  clear HK
  refine wpAnyB_one (i := 4) (by kernel_rfl) ?_
  refine wpOp_intro (by decide) (fun K4 HK4 => ?_)
  simp only [List.drop_succ_cons, List.drop_zero]
  go_wp2_with fail
  refine (rword_any b g s1 _ Sd.words _ H2.out HX2.out (by decide)).mono ?_
  rintro r w3 ⟨rfl, f3⟩
  have F3 := Lib.hid f3
  clear f3
  have HS3 : Hid (w3.cell? ⟨w.heap.size, 0, none⟩ = some (.pointer (some ⟨b, 0, none⟩))) := Lib.hid (by rw [F3.out.cell (cell_lt HS2.out)]; exact HS2.out)
  have H3 : Hid (RdAt w3 b g s1) := Lib.hid (H2.out.below F3.out)
  go_wp2_with fail
  refine HK4.out _ _ ⟨fun _ => HS3.out, ?_⟩
  clear HK4
  refine wpAnyB_one (i := 5) (by kernel_rfl) ?_
  refine wpOp_intro (by decide) (fun K5 HK5 => ?_)
  simp only [List.drop_succ_cons, List.drop_zero]
  go_wp2_with fail
  refine HK5.out _ _ ⟨fun _ => HS3.out, ?_⟩
  clear HK5
  refine wpAnyB_done (by kernel_rfl) ?_ _
  have hs3 := HS3.out
  rename_i K1 hK1 K0 hK0
  obtain ⟨s2, hs2⟩ : ∃ x, x = (if Rd.isW s1 Sd.words then s1 else Rd.wrong s1) := ⟨_, rfl⟩
  have HS2E := Lib.hid hs2
  clear hs2
  have F13 : Hid (Fr b ((w.alloc (.cells #[.pointer (some ⟨b, 0, none⟩)] 73)).alloc (.cells #[.int .i64 0, .string ⟨#[]⟩, .slice none 0 0, .slice none 0 0, .slice none 0 0, .slice none 0 0, .int .i64 0] 38)) w3) := Lib.hid (F1.out.trans (But.of_below (Below.trans F2.out (F3.out.mono F2.out.size))))
  have HJ : Hid (∀ (v11 v12 v13 v14 v15 v16 : Value) (w4 : World), RdAt w4 b g s2 → Fr b ((w.alloc (.cells #[.pointer (some ⟨b, 0, none⟩)] 73)).alloc (.cells #[.int .i64 0, .string ⟨#[]⟩, .slice none 0 0, .slice none 0 0, .slice none 0 0, .slice none 0 0, .int .i64 0] 38)) w4 → K1 { tmps := #[(.pointer (some ⟨b, 0, none⟩)), .pointer (some ⟨w.heap.size, 0, none⟩), .pointer (some ⟨w.heap.size + 1, 0, none⟩), undef, undef, (.pointer (some ⟨b, 0, none⟩)), .tuple #[], (.pointer (some ⟨b, 0, none⟩)), (.pointer (some ⟨b, 0, none⟩)), (.pointer (some ⟨b, 0, none⟩)), .slice (some ⟨w1.heap.size, 0, none⟩) 6 6, v11, v12, v13, v14, v15, v16, undef, undef, undef, undef, undef, undef, undef, undef, undef, undef, undef, undef, undef, undef, undef, undef, undef, undef, undef, undef, undef, undef, undef, undef, undef, undef, undef, undef, undef, undef, undef, undef, undef, undef, undef, undef, undef, undef, undef, undef, undef, undef, undef, undef, undef, undef, undef, undef, undef, undef, undef, undef, undef, undef, undef, undef, undef], defers := [] } w4) := Lib.hid (by
    intro v11 v12 v13 v14 v15 v16 w4 h4 f14
    refine hK1 _ _ ?_
    clear hK0 hK1 hs3
    have H4 := Lib.hid h4
    have F14 := Lib.hid f14
    clear h4 f14
    have HA4 : Hid (w4.heap[w.heap.size]? = some (.cells #[.pointer (some ⟨b, 0, none⟩)] 73 (0, 0))) := Lib.hid (by rw [F14.out.block w.heap.size (by rw [HW0.out]; omega) (by omega)]; exact HA.out)
    have HB4 : Hid (w4.heap[w.heap.size + 1]? = some (.cells #[.int .i64 0, .string ⟨#[]⟩, .slice none 0 0, .slice none 0 0, .slice none 0 0, .slice none 0 0, .int .i64 0] 38 (0, 0))) := Lib.hid (by rw [F14.out.block (w.heap.size + 1) (by rw [HW0.out]; omega) (by omega)]; exact HBB.out)
    have hs4 : w4.cell? ⟨w.heap.size, 0, none⟩ = some (.pointer (some ⟨b, 0, none⟩)) := blk_cell HA4.out 0 (.pointer (some ⟨b, 0, none⟩)) rfl
    go_wp2_with fail
    refine (rnext_any b g s2 w4 H4.out).mono ?_
    rintro r w5 ⟨rfl, h5, f5⟩
    have H5 := Lib.hid h5
    have F15 := Lib.hid (F14.out.trans f5)
    clear h5 f5 hs4
    have HA5 : Hid (w5.heap[w.heap.size]? = some (.cells #[.pointer (some ⟨b, 0, none⟩)] 73 (0, 0))) := Lib.hid (by rw [F15.out.block w.heap.size (by rw [HW0.out]; omega) (by omega)]; exact HA.out)
    have HB5 : Hid (w5.heap[w.heap.size + 1]? = some (.cells #[.int .i64 0, .string ⟨#[]⟩, .slice none 0 0, .slice none 0 0, .slice none 0 0, .slice none 0 0, .int .i64 0] 38 (0, 0))) := Lib.hid (by rw [F15.out.block (w.heap.size + 1) (by rw [HW0.out]; omega) (by omega)]; exact HBB.out)
    have hs5 : w5.cell? ⟨w.heap.size, 0, none⟩ = some (.pointer (some ⟨b, 0, none⟩)) := blk_cell HA5.out 0 (.pointer (some ⟨b, 0, none⟩)) rfl
    go_wp2_with fail
    rename_i K2 hK2
    obtain ⟨tk, htk⟩ : ∃ x, x = Rd.peek s2 := ⟨_, rfl⟩
    rw [← htk]
    have HTK := Lib.hid htk
    clear htk
    obtain ⟨wt, hwt⟩ : ∃ x, x = w5.alloc (.cells #[.int .i64 tk.kind, .string ⟨tk.text.toArray⟩, .int .i64 tk.at_] 81) := ⟨_, rfl⟩
    rw [← hwt]
    have HT5 : Hid (wt.heap[w5.heap.size]? = some (.cells #[.int .i64 tk.kind, .string ⟨tk.text.toArray⟩, .int .i64 tk.at_] 81 (0, 0))) := Lib.hid (by rw [hwt]; exact heap_at_new _ _)
    have FWT : Hid (Below w5.heap.size w5 wt) := Lib.hid (by rw [hwt]; exact (Below.refl _ _).alloc (Nat.le_refl _) _)
    clear hs5 hwt
    have hS : wt.cell? ⟨w5.heap.size, 1, none⟩ = some (.string ⟨tk.text.toArray⟩) ∧ wt.cell? ⟨w5.heap.size, 2, none⟩ = some (.int .i64 tk.at_) := ⟨blk_cell HT5.out 1 _ rfl, blk_cell HT5.out 2 _ rfl⟩
    have HSS := Lib.hid hS
    refine wp_region_phase (fun w' => w'.cell? ⟨w5.heap.size, 1, none⟩ = some (.string ⟨tk.text.toArray⟩) ∧ w'.cell? ⟨w5.heap.size, 2, none⟩ = some (.int .i64 tk.at_)) 9 (by kernel_rfl) ?_
    refine wpAnyB_take (i := 1) (v := (.pointer (some ⟨w5.heap.size, 1, none⟩))) (by kernel_rfl) (by decide) rfl (by kernel_rfl) (by kernel_rfl) (by kernel_rfl) (fun _ _ _ h => h) (Or.inl ⟨by rfl, fun w hSw => by obtain ⟨s0, s1⟩ := hSw; go_simp⟩) hS ?_; simp only [Act.put, List.setIfInBounds_toArray, List.set_cons_zero, List.set_cons_succ]
    refine wpAnyB_take (i := 2) (v := (.string ⟨tk.text.toArray⟩)) (by kernel_rfl) (by decide) rfl (by kernel_rfl) (by kernel_rfl) (by kernel_rfl) (fun _ _ _ h => h) (Or.inl ⟨by rfl, fun w hSw => by obtain ⟨s0, s1⟩ := hSw; go_simp⟩) hS ?_; simp only [Act.put, List.setIfInBounds_toArray, List.set_cons_zero, List.set_cons_succ]
    refine wpAnyB_take (i := 5) (v := (.pointer (some ⟨w5.heap.size, 2, none⟩))) (by kernel_rfl) (by decide) rfl (by kernel_rfl) (by kernel_rfl) (by kernel_rfl) (fun _ _ _ h => h) (Or.inl ⟨by rfl, fun w hSw => by obtain ⟨s0, s1⟩ := hSw; go_simp⟩) hS ?_; simp only [Act.put, List.setIfInBounds_toArray, List.set_cons_zero, List.set_cons_succ]
    refine wpAnyB_take (i := 6) (v := (.int .i64 tk.at_)) (by kernel_rfl) (by decide) rfl (by kernel_rfl) (by kernel_rfl) (by kernel_rfl) (fun _ _ _ h => h) (Or.inl ⟨by rfl, fun w hSw => by obtain ⟨s0, s1⟩ := hSw; go_simp⟩) hS ?_; simp only [Act.put, List.setIfInBounds_toArray, List.set_cons_zero, List.set_cons_succ]
    clear hS
    have HJ2 : Hid (∀ (v20 v21 v22 v23 v24 v25 v26 v27 v28 : Value) (x : Nat) (w6 : World), w5.heap.size < x → x < w6.heap.size → w6.heap[x]? = some (.cells #[.int .i64 (Sd.kindOf tk.text), .string ⟨#[]⟩, .slice none 0 0, .slice none 0 0, .slice none 0 0, .slice none 0 0, .int .i64 tk.at_] 38 (0, 0)) → Below w5.heap.size w5 w6 → K2 { tmps := #[(.pointer (some ⟨b, 0, none⟩)), .pointer (some ⟨w.heap.size, 0, none⟩), .pointer (some ⟨w.heap.size + 1, 0, none⟩), .pointer (some ⟨w5.heap.size, 0, none⟩), .pointer (some ⟨x, 0, none⟩), (.pointer (some ⟨b, 0, none⟩)), .tuple #[], (.pointer (some ⟨b, 0, none⟩)), (.pointer (some ⟨b, 0, none⟩)), (.pointer (some ⟨b, 0, none⟩)), .slice (some ⟨w1.heap.size, 0, none⟩) 6 6, v11, v12, v13, v14, v15, v16, (.pointer (some ⟨b, 0, none⟩)), (.pointer (some ⟨b, 0, none⟩)), (.pointer (some ⟨b, 0, none⟩)), v20, v21, v22, v23, v24, v25, v26, v27, v28, undef, undef, undef, undef, undef, undef, undef, undef, undef, undef, undef, undef, undef, undef, undef, undef, undef, undef, undef, undef, undef, undef, undef, undef, undef, undef, undef, undef, undef, undef, undef, undef, undef, undef, undef, undef, undef, undef, undef, undef, undef, undef, undef, undef, undef], defers := [] } w6) := Lib.hid (by
      intro v20 v21 v22 v23 v24 v25 v26 v27 v28 x w6 hx0 hx1 hx f6
      refine hK2 _ _ ?_
      have hl1 := F15.out.size
      rw [HW0.out] at hl1
      obtain ⟨s5, hs5⟩ : ∃ z, z = Rd.next s2 := ⟨_, rfl⟩
      have HS5 := Lib.hid hs5
      obtain ⟨kd, hkd⟩ : ∃ z, z = Sd.kindOf tk.text := ⟨_, rfl⟩
      rw [← hkd] at hx
      have HKD := Lib.hid hkd
      have hkl : kd ≤ 6 := by rw [hkd]; exact kindOf_le _
      have HB6 : Hid (BI w b g x [(w.heap.size, Obj.cells #[.pointer (some ⟨b, 0, none⟩)] 73 (0, 0)), (w.heap.size + 1, Obj.cells #[.int .i64 0, .string ⟨#[]⟩, .slice none 0 0, .slice none 0 0, .slice none 0 0, .slice none 0 0, .int .i64 0] 38 (0, 0))] 38 #[.int .i64 kd, .string ⟨#[]⟩, .slice none 0 0, .slice none 0 0, .slice none 0 0, .slice none 0 0, .int .i64 tk.at_] s5 w6) := Lib.hid (by
        refine ⟨by rw [hs5]; exact H5.out.below f6, fun p hp => ?_, hx, ((But.of_below HBA.out).trans F15.out).trans (But.of_below f6), hlb.1, hlb.2, fun p hp => ?_, by omega⟩
        · simp only [List.mem_cons, List.not_mem_nil, or_false] at hp
          rcases hp with rfl | rfl
          · show w6.heap[w.heap.size]? = _
            rw [f6.block w.heap.size (by omega)]
            exact HA5.out
          · show w6.heap[w.heap.size + 1]? = _
            rw [f6.block (w.heap.size + 1) (by omega)]
            exact HB5.out
        · simp only [List.mem_cons, List.not_mem_nil, or_false] at hp
          rcases hp with rfl | rfl <;> (simp only; omega))
      have HDEF5 : Hid (Sd.def_ (n + 1) s = Sd.body (n + 1) kd (Rd.name s5).2 tk.at_ (Rd.name s5).1) := by
        refine Lib.hid ?_
        unfold Sd.def_
        dsimp only
        rw [← HS1.out, ← HS2E.out, ← HTK.out, ← HS5.out, ← HKD.out]
      have HOK5 : Hid (Rd.Ok s s5) := by
        rw [HS5.out, HS2E.out, HS1.out]
        refine Lib.hid (Rd.Ok.trans ?_ (Rd.ok_next _))
        split
        · exact Sd.ok_told s
        · exact (Sd.ok_told s).trans (Rd.ok_wrong _)
      have HDP5 : Hid (s5.deep = s.deep) := by
        rw [HS5.out, Rd.next_deep, HS2E.out, HS1.out]
        refine Lib.hid ?_
        split
        · exact Sd.told_deep s
        · rw [Rd.wrong_deep]; exact Sd.told_deep s
      clear hx hx1 f6 hs5 hkd
      have hkc : kd < 2 ∨ kd = 2 ∨ kd = 3 ∨ kd = 4 ∨ kd = 5 ∨ kd = 6 := by omega
      rcases hkc with hkc | hkc | hkc | hkc | hkc | hkc
      · exact def_tail0 b g n hnb s w hlb HN d0 d1 kd x tk s5 w6 HB6 HDEF5 HOK5 HDP5 hkl hkc _ _ _ _ _ _ _ _ _ _ _ _ _ _ _ _ _ _ _ _ _ _ _ _ _
      · exact def_tail2 b g n hnb s w hlb HN d0 d1 kd x tk s5 w6 HB6 HDEF5 HOK5 HDP5 hkl hkc _ _ _ _ _ _ _ _ _ _ _ _ _ _ _ _ _ _ _ _ _ _ _ _ _
      · exact def_tail3 b g n hnb s w hlb HN d0 d1 kd x tk s5 w6 HB6 HDEF5 HOK5 HDP5 hkl hkc _ _ _ _ _ _ _ _ _ _ _ _ _ _ _ _ _ _ _ _ _ _ _ _ _
      · exact def_tail4 b g n hnb s w hlb HN d0 d1 kd x tk s5 w6 HB6 HDEF5 HOK5 HDP5 hkl hkc _ _ _ _ _ _ _ _ _ _ _ _ _ _ _ _ _ _ _ _ _ _ _ _ _
      · exact def_tail5 b g n hnb s w hlb HN d0 d1 kd x tk s5 w6 HB6 HDEF5 HOK5 HDP5 hkl hkc _ _ _ _ _ _ _ _ _ _ _ _ _ _ _ _ _ _ _ _ _ _ _ _ _
      · exact def_tail6 b g n hnb s w hlb HN d0 d1 kd x tk s5 w6 HB6 HDEF5 HOK5 HDP5 hkl hkc _ _ _ _ _ _ _ _ _ _ _ _ _ _ _ _ _ _ _ _ _ _ _ _ _
    )
    clear hK2
    refine wpAnyB_two (i := 0) (k := 8) (by kernel_rfl) ?_ ?_
    · refine wpOp_intro (by decide) (fun K0 HK0 => ?_); simp only [List.drop_succ_cons, List.drop_zero]
      go_wp2_with fail
      refine (words_any _).mono ?_
      rintro r w6 ⟨rfl, f, hx⟩
      have Fw6 : Hid (Below wt.heap.size wt w6) := Lib.hid ⟨f.os, f.tape, f.output, f.size, f.block⟩
      have HXw6 := Lib.hid hx
      clear f hx
      have HSw6 : Hid (w6.cell? ⟨w5.heap.size, 1, none⟩ = some (.string ⟨tk.text.toArray⟩) ∧ w6.cell? ⟨w5.heap.size, 2, none⟩ = some (.int .i64 tk.at_)) := Lib.hid ⟨by rw [Fw6.out.cell (cell_lt HSS.out.1)]; exact HSS.out.1, by rw [Fw6.out.cell (cell_lt HSS.out.2)]; exact HSS.out.2⟩
      go_wp2_with fail
      refine HK0.out _ _ ⟨fun _ => HSw6.out, ?_⟩
      clear HK0
      refine wpAnyB_two (i := 3) (k := 8) (by kernel_rfl) ?_ ?_
      · refine wpOp_intro (by decide) (fun K3 HK3 => ?_); simp only [List.drop_succ_cons, List.drop_zero]
        go_wp2_with fail
        refine (idx_any w6 _ _ _ HXw6.out).mono ?_
        rintro r w7 ⟨rfl, rfl⟩
        go_wp2_with fail
        refine HK3.out _ _ ⟨fun _ => HSw6.out, ?_⟩
        clear HK3
        have hk := idx_kind tk.text
        have hkl := kindOf_le tk.text
        obtain ⟨q, hq⟩ : ∃ q, q = Lib.idxOfS (List.map (fun s => (⟨s.toArray⟩ : ByteArray)) Sd.words) ⟨tk.text.toArray⟩ := ⟨_, rfl⟩
        rw [← hq] at hk ⊢
        clear hq
        have hq0 : -1 ≤ q := by omega
        have hq1 : q ≤ 5 := by omega
        obtain ⟨kd, hkd⟩ : ∃ x, x = Sd.kindOf tk.text := ⟨_, rfl⟩
        rw [← hkd] at hk hkl
        have HKD := Lib.hid hkd
        clear hkd
        have hw : IntKind.i64.wrap (kd : Int) = kd := by rw [IntKind.wrap_i64]; omega
        have hw2 : IntKind.i64.wrap (1 + q) = kd := by rw [hk]; exact hw
        have hS := HSw6.out
        refine wpAnyB_take (i := 4) (v := (.int .i64 kd)) (by kernel_rfl) (by decide) rfl (by kernel_rfl) (by kernel_rfl) (by kernel_rfl) (fun _ _ _ h => h) (Or.inl ⟨by rfl, fun w hSw => by obtain ⟨s0, s1⟩ := hSw; go_simp; first | done | exact hw | exact hw2⟩) hS ?_; simp only [Act.put, List.setIfInBounds_toArray, List.set_cons_zero, List.set_cons_succ]
        refine wpAnyB_take (i := 7) (v := (.agg #[.int .i64 kd, .string ⟨#[]⟩, .slice none 0 0, .slice none 0 0, .slice none 0 0, .slice none 0 0, .int .i64 tk.at_])) (by kernel_rfl) (by decide) rfl (by kernel_rfl) (by kernel_rfl) (by kernel_rfl) (fun _ _ _ h => h) (Or.inl ⟨by rfl, fun w hSw => by obtain ⟨s0, s1⟩ := hSw; go_simp; first | done | exact hw | exact hw2⟩) hS ?_; simp only [Act.put, List.setIfInBounds_toArray, List.set_cons_zero, List.set_cons_succ]
        clear hS
        refine wpAnyB_one (i := 8) (by kernel_rfl) ?_
        refine wpOp_intro (by decide) (fun K8 HK8 => ?_); simp only [List.drop_succ_cons, List.drop_zero]
        go_wp2_with fail
        have HBX : Hid (Below w7.heap.size w7 (w7.alloc (.cells #[.int .i64 0, .string ⟨#[]⟩, .slice none 0 0, .slice none 0 0, .slice none 0 0, .slice none 0 0, .int .i64 0] 38))) := Lib.hid ((Below.refl _ _).alloc (Nat.le_refl _) _)
        refine HK8.out _ _ ⟨fun _ => ⟨by rw [HBX.out.cell (cell_lt HSw6.out.1)]; exact HSw6.out.1, by rw [HBX.out.cell (cell_lt HSw6.out.2)]; exact HSw6.out.2⟩, ?_⟩
        clear HK8
        refine wpAnyB_one (i := 9) (by kernel_rfl) ?_
        refine wpOp_intro (by decide) (fun K9 HK9 => ?_); simp only [List.drop_succ_cons, List.drop_zero]
        go_wp2_with fail
        refine HK9.out _ _ ⟨fun h => absurd h (by decide), ?_⟩
        clear HK9
        refine wpAnyB_done (by kernel_rfl) ?_ _
        have hl5 := block_lt HT5.out
        have hl6 := Fw6.out.size
        exact HJ2.out _ _ _ _ _ _ _ _ _ w7.heap.size _ (by omega) (by simp) (by rw [← HKD.out]; exact heap_at_new _ _) ((FWT.out.trans (Fw6.out.mono FWT.out.size)).trans (((Below.refl _ _).alloc (Nat.le_refl _) _).mono (by have := FWT.out.size; omega)))
      · refine wpOp_intro (by decide) (fun K8 HK8 => ?_); simp only [List.drop_succ_cons, List.drop_zero]
        go_wp2_with fail
        have HBX : Hid (Below w6.heap.size w6 (w6.alloc (.cells #[.int .i64 0, .string ⟨#[]⟩, .slice none 0 0, .slice none 0 0, .slice none 0 0, .slice none 0 0, .int .i64 0] 38))) := Lib.hid ((Below.refl _ _).alloc (Nat.le_refl _) _)
        have HSx : Hid ((w6.alloc (.cells #[.int .i64 0, .string ⟨#[]⟩, .slice none 0 0, .slice none 0 0, .slice none 0 0, .slice none 0 0, .int .i64 0] 38)).cell? ⟨w5.heap.size, 1, none⟩ = some (.string ⟨tk.text.toArray⟩) ∧ (w6.alloc (.cells #[.int .i64 0, .string ⟨#[]⟩, .slice none 0 0, .slice none 0 0, .slice none 0 0, .slice none 0 0, .int .i64 0] 38)).cell? ⟨w5.heap.size, 2, none⟩ = some (.int .i64 tk.at_)) := Lib.hid ⟨by rw [HBX.out.cell (cell_lt HSw6.out.1)]; exact HSw6.out.1, by rw [HBX.out.cell (cell_lt HSw6.out.2)]; exact HSw6.out.2⟩
        refine HK8.out _ _ ⟨fun _ => HSx.out, ?_⟩
        clear HK8
        refine wpAnyB_one (i := 3) (by kernel_rfl) ?_
        refine wpOp_intro (by decide) (fun K3 HK3 => ?_); simp only [List.drop_succ_cons, List.drop_zero]
        go_wp2_with fail
        refine (idx_any _ _ _ _ (HXw6.out.below HBX.out)).mono ?_
        rintro r w7 ⟨rfl, rfl⟩
        go_wp2_with fail
        refine HK3.out _ _ ⟨fun _ => HSx.out, ?_⟩
        clear HK3
        have hk := idx_kind tk.text
        have hkl := kindOf_le tk.text
        obtain ⟨q, hq⟩ : ∃ q, q = Lib.idxOfS (List.map (fun s => (⟨s.toArray⟩ : ByteArray)) Sd.words) ⟨tk.text.toArray⟩ := ⟨_, rfl⟩
        rw [← hq] at hk ⊢
        clear hq
        have hq0 : -1 ≤ q := by omega
        have hq1 : q ≤ 5 := by omega
        obtain ⟨kd, hkd⟩ : ∃ x, x = Sd.kindOf tk.text := ⟨_, rfl⟩
        rw [← hkd] at hk hkl
        have HKD := Lib.hid hkd
        clear hkd
        have hw : IntKind.i64.wrap (kd : Int) = kd := by rw [IntKind.wrap_i64]; omega
        have hw2 : IntKind.i64.wrap (1 + q) = kd := by rw [hk]; exact hw
        have hS := HSx.out
        refine wpAnyB_take (i := 4) (v := (.int .i64 kd)) (by kernel_rfl) (by decide) rfl (by kernel_rfl) (by kernel_rfl) (by kernel_rfl) (fun _ _ _ h => h) (Or.inl ⟨by rfl, fun w hSw => by obtain ⟨s0, s1⟩ := hSw; go_simp; first | done | exact hw | exact hw2⟩) hS ?_; simp only [Act.put, List.setIfInBounds_toArray, List.set_cons_zero, List.set_cons_succ]
        refine wpAnyB_take (i := 7) (v := (.agg #[.int .i64 kd, .string ⟨#[]⟩, .slice none 0 0, .slice none 0 0, .slice none 0 0, .slice none 0 0, .int .i64 tk.at_])) (by kernel_rfl) (by decide) rfl (by kernel_rfl) (by kernel_rfl) (by kernel_rfl) (fun _ _ _ h => h) (Or.inl ⟨by rfl, fun w hSw => by obtain ⟨s0, s1⟩ := hSw; go_simp; first | done | exact hw | exact hw2⟩) hS ?_; simp only [Act.put, List.setIfInBounds_toArray, List.set_cons_zero, List.set_cons_succ]
        clear hS
        refine wpAnyB_one (i := 9) (by kernel_rfl) ?_
        refine wpOp_intro (by decide) (fun K9 HK9 => ?_); simp only [List.drop_succ_cons, List.drop_zero]
        go_wp2_with fail
        refine HK9.out _ _ ⟨fun h => absurd h (by decide), ?_⟩
        clear HK9
        refine wpAnyB_done (by kernel_rfl) ?_ _
        have hl5 := block_lt HT5.out
        have hl6 := Fw6.out.size
        exact HJ2.out _ _ _ _ _ _ _ _ _ w6.heap.size _ (by omega) (by simp) (by rw [← HKD.out]; exact heap_at_new _ _) ((FWT.out.trans (Fw6.out.mono FWT.out.size)).trans (((Below.refl _ _).alloc (Nat.le_refl _) _).mono (by have := FWT.out.size; omega)))
    · refine wpOp_intro (by decide) (fun K8 HK8 => ?_); simp only [List.drop_succ_cons, List.drop_zero]
      go_wp2_with fail
      have HBX : Hid (Below wt.heap.size wt (wt.alloc (.cells #[.int .i64 0, .string ⟨#[]⟩, .slice none 0 0, .slice none 0 0, .slice none 0 0, .slice none 0 0, .int .i64 0] 38))) := Lib.hid ((Below.refl _ _).alloc (Nat.le_refl _) _)
      have HSx : Hid ((wt.alloc (.cells #[.int .i64 0, .string ⟨#[]⟩, .slice none 0 0, .slice none 0 0, .slice none 0 0, .slice none 0 0, .int .i64 0] 38)).cell? ⟨w5.heap.size, 1, none⟩ = some (.string ⟨tk.text.toArray⟩) ∧ (wt.alloc (.cells #[.int .i64 0, .string ⟨#[]⟩, .slice none 0 0, .slice none 0 0, .slice none 0 0, .slice none 0 0, .int .i64 0] 38)).cell? ⟨w5.heap.size, 2, none⟩ = some (.int .i64 tk.at_)) := Lib.hid ⟨by rw [HBX.out.cell (cell_lt HSS.out.1)]; exact HSS.out.1, by rw [HBX.out.cell (cell_lt HSS.out.2)]; exact HSS.out.2⟩
      have HZ0 : Hid ((wt.alloc (.cells #[.int .i64 0, .string ⟨#[]⟩, .slice none 0 0, .slice none 0 0, .slice none 0 0, .slice none 0 0, .int .i64 0] 38)).heap[wt.heap.size]? = some (.cells #[.int .i64 0, .string ⟨#[]⟩, .slice none 0 0, .slice none 0 0, .slice none 0 0, .slice none 0 0, .int .i64 0] 38 (0, 0))) := Lib.hid (heap_at_new _ _)
      refine HK8.out _ _ ⟨fun _ => HSx.out, ?_⟩
      clear HK8
      refine wpAnyB_one (i := 0) (by kernel_rfl) ?_
      refine wpOp_intro (by decide) (fun K0 HK0 => ?_); simp only [List.drop_succ_cons, List.drop_zero]
      go_wp2_with fail
      refine (words_any _).mono ?_
      rintro r w6 ⟨rfl, f, hx⟩
      have Fw6 : Hid (Below (wt.alloc (.cells #[.int .i64 0, .string ⟨#[]⟩, .slice none 0 0, .slice none 0 0, .slice none 0 0, .slice none 0 0, .int .i64 0] 38)).heap.size (wt.alloc (.cells #[.int .i64 0, .string ⟨#[]⟩, .slice none 0 0, .slice none 0 0, .slice none 0 0, .slice none 0 0, .int .i64 0] 38)) w6) := Lib.hid ⟨f.os, f.tape, f.output, f.size, f.block⟩
      rw [show (wt.alloc (.cells #[.int .i64 0, .string ⟨#[]⟩, .slice none 0 0, .slice none 0 0, .slice none 0 0, .slice none 0 0, .int .i64 0] 38)).drew.heap.size = wt.heap.size + 1 from by simp] at hx
      have HXw6 := Lib.hid hx
      clear f hx
      have HSw6 : Hid (w6.cell? ⟨w5.heap.size, 1, none⟩ = some (.string ⟨tk.text.toArray⟩) ∧ w6.cell? ⟨w5.heap.size, 2, none⟩ = some (.int .i64 tk.at_)) := Lib.hid ⟨by rw [Fw6.out.cell (cell_lt HSx.out.1)]; exact HSx.out.1, by rw [Fw6.out.cell (cell_lt HSx.out.2)]; exact HSx.out.2⟩
      have HZ : Hid (w6.heap[wt.heap.size]? = some (.cells #[.int .i64 0, .string ⟨#[]⟩, .slice none 0 0, .slice none 0 0, .slice none 0 0, .slice none 0 0, .int .i64 0] 38 (0, 0))) := Lib.hid (by rw [Fw6.out.block _ (block_lt HZ0.out)]; exact HZ0.out)
      go_wp2_with fail
      refine HK0.out _ _ ⟨fun _ => HSw6.out, ?_⟩
      clear HK0
      refine wpAnyB_one (i := 3) (by kernel_rfl) ?_
      refine wpOp_intro (by decide) (fun K3 HK3 => ?_); simp only [List.drop_succ_cons, List.drop_zero]
      go_wp2_with fail
      refine (idx_any w6 _ _ _ HXw6.out).mono ?_
      rintro r w7 ⟨rfl, rfl⟩
      go_wp2_with fail
      refine HK3.out _ _ ⟨fun _ => HSw6.out, ?_⟩
      clear HK3
      have hk := idx_kind tk.text
      have hkl := kindOf_le tk.text
      obtain ⟨q, hq⟩ : ∃ q, q = Lib.idxOfS (List.map (fun s => (⟨s.toArray⟩ : ByteArray)) Sd.words) ⟨tk.text.toArray⟩ := ⟨_, rfl⟩
      rw [← hq] at hk ⊢
      clear hq
      have hq0 : -1 ≤ q := by omega
      have hq1 : q ≤ 5 := by omega
      obtain ⟨kd, hkd⟩ : ∃ x, x = Sd.kindOf tk.text := ⟨_, rfl⟩
      rw [← hkd] at hk hkl
      have HKD := Lib.hid hkd
      clear hkd
      have hw : IntKind.i64.wrap (kd : Int) = kd := by rw [IntKind.wrap_i64]; omega
      have hw2 : IntKind.i64.wrap (1 + q) = kd := by rw [hk]; exact hw
      have hS := HSw6.out
      refine wpAnyB_take (i := 4) (v := (.int .i64 kd)) (by kernel_rfl) (by decide) rfl (by kernel_rfl) (by kernel_rfl) (by kernel_rfl) (fun _ _ _ h => h) (Or.inl ⟨by rfl, fun w hSw => by obtain ⟨s0, s1⟩ := hSw; go_simp; first | done | exact hw | exact hw2⟩) hS ?_; simp only [Act.put, List.setIfInBounds_toArray, List.set_cons_zero, List.set_cons_succ]
      refine wpAnyB_take (i := 7) (v := (.agg #[.int .i64 kd, .string ⟨#[]⟩, .slice none 0 0, .slice none 0 0, .slice none 0 0, .slice none 0 0, .int .i64 tk.at_])) (by kernel_rfl) (by decide) rfl (by kernel_rfl) (by kernel_rfl) (by kernel_rfl) (fun _ _ _ h => h) (Or.inl ⟨by rfl, fun w hSw => by obtain ⟨s0, s1⟩ := hSw; go_simp; first | done | exact hw | exact hw2⟩) hS ?_; simp only [Act.put, List.setIfInBounds_toArray, List.set_cons_zero, List.set_cons_succ]
      clear hS
      refine wpAnyB_one (i := 9) (by kernel_rfl) ?_
      refine wpOp_intro (by decide) (fun K9 HK9 => ?_); simp only [List.drop_succ_cons, List.drop_zero]
      have z0 := blk_cell HZ.out 0 (.int .i64 0) rfl
      have zf0 := blk_free HZ.out 0
      have z1 := blk_cell HZ.out 1 (.string ⟨#[]⟩) rfl
      have zf1 := blk_free HZ.out 1
      have z2 := blk_cell HZ.out 2 (.slice none 0 0) rfl
      have zf2 := blk_free HZ.out 2
      have z3 := blk_cell HZ.out 3 (.slice none 0 0) rfl
      have zf3 := blk_free HZ.out 3
      have z4 := blk_cell HZ.out 4 (.slice none 0 0) rfl
      have zf4 := blk_free HZ.out 4
      have z5 := blk_cell HZ.out 5 (.slice none 0 0) rfl
      have zf5 := blk_free HZ.out 5
      have z6 := blk_cell HZ.out 6 (.int .i64 0) rfl
      have zf6 := blk_free HZ.out 6
      go_wp2_with fail
      refine HK9.out _ _ ⟨fun h => absurd h (by decide), ?_⟩
      clear HK9
      refine wpAnyB_done (by kernel_rfl) ?_ _
      have hl5 := block_lt HT5.out
      have hl6 := Fw6.out.size
      have hlx := block_lt HZ.out
      have e0 := heap_set1 (k := 6) (v := .int .i64 tk.at_) (heap_set1 (k := 5) (v := .slice none 0 0) (heap_set1 (k := 4) (v := .slice none 0 0) (heap_set1 (k := 3) (v := .slice none 0 0) (heap_set1 (k := 2) (v := .slice none 0 0) (heap_set1 (k := 1) (v := .string ⟨#[]⟩) (heap_set1 (k := 0) (v := .int .i64 kd) HZ.out))))))
      exact HJ2.out _ _ _ _ _ _ _ _ _ wt.heap.size _ (by omega) (by simp only [size_set]; exact hlx) (by rw [← HKD.out]; exact e0) (((((((((FWT.out.trans (HBX.out.mono FWT.out.size)).trans (Fw6.out.mono (by have := FWT.out.size; have := HBX.out.size; omega))).setCell (by show _ ≤ wt.heap.size; omega) _).setCell (by show _ ≤ wt.heap.size; omega) _).setCell (by show _ ≤ wt.heap.size; omega) _).setCell (by show _ ≤ wt.heap.size; omega) _).setCell (by show _ ≤ wt.heap.size; omega) _).setCell (by show _ ≤ wt.heap.size; omega) _).setCell (by show _ ≤ wt.heap.size; omega) _)
    )
  refine hK0 _ _ ?_
  clear hK0 hK1
  obtain ⟨B, hB⟩ : ∃ B, B = Rd.isW s1 Sd.words := ⟨_, rfl⟩
  have HB := Lib.hid hB
  rw [← hB]
  clear hB
  cases B
  · go_wp2_with fail
    refine (rwrong_any b g _ w3 H3.out).mono ?_
    rintro r w4 ⟨rfl, h4, f4⟩
    have HEE : Hid (s2 = Rd.wrong s1) := Lib.hid (by rw [HS2E.out, if_neg (by rw [← HB.out]; simp)])
    have H4 := Lib.hid h4
    have F4 := Lib.hid f4
    clear h4 f4
    go_wp2_with fail
    exact HJ.out _ _ _ _ _ _ w4 (by rw [HEE.out]; exact H4.out) (F13.out.trans F4.out)
  · have HEE : Hid (s2 = s1) := Lib.hid (by rw [HS2E.out, if_pos HB.out.symm])
    go_wp2_with fail
    exact HJ.out _ _ _ _ _ _ w3 (by rw [HEE.out]; exact H3.out) F13.out
end Go.Proofs.YtabcaljnpahgpaaGreatDoor
namespace Go.Proofs.YtabcaljnpahgpaaGreatDoor
set_option linter.unusedSimpArgs false
set_option linter.unusedVariables false
open Go Go.RowKit

theorem infoTd : (Tryz.prog.info? 38).map (fun i => (i.zero, i.size, i.bytes)) = some (some (.agg #[.int .i64 0, .string ⟨#[]⟩, .slice none 0 0, .slice none 0 0, .slice none 0 0, .slice none 0 0, .int .i64 0]), 7, 128) := by kernel_rfl
theorem Td_cells {w : World} {P : Nat → Prop} {x : Sd.Td} {cs : List Value} (h : Reads w P x.d cs) : ∃ (k a : Int) (nm : ByteArray) (a1 a2 a3 a4 : Option Addr) (n1 c1 n2 c2 n3 c3 n4 c4 : Nat), cs = [.int .i64 k, .string nm, .slice a1 n1 c1, .slice a2 n2 c2, .slice a3 n3 c3, .slice a4 n4 c4, .int .i64 a] := by
  unfold Sd.Td.d at h
  obtain ⟨x1, r1, rfl, e1, h1⟩ := h.obj_inv.cons_inv
  obtain ⟨x2, r2, rfl, e2, h2⟩ := h1.cons_inv
  obtain ⟨x3, r3, rfl, e3, h3⟩ := h2.cons_inv
  obtain ⟨x4, r4, rfl, e4, h4⟩ := h3.cons_inv
  obtain ⟨x5, r5, rfl, e5, h5⟩ := h4.cons_inv
  obtain ⟨x6, r6, rfl, e6, h6⟩ := h5.cons_inv
  obtain ⟨x7, r7, rfl, e7, h7⟩ := h6.cons_inv
  obtain rfl := e1.int_inv
  obtain rfl := e2.str_inv
  obtain ⟨b3, d3, rfl, _⟩ := e3.seq_inv
  obtain ⟨b4, d4, rfl, _⟩ := e4.seq_inv
  obtain ⟨b5, d5, rfl, _⟩ := e5.seq_inv
  obtain ⟨b6, d6, rfl, _⟩ := e6.seq_inv
  obtain rfl := e7.int_inv
  obtain rfl := h7.nil_inv
  exact ⟨_, _, _, _, _, _, _, _, _, _, _, _, _, _, _, rfl⟩

namespace Sd
open Rd
/-- The loop of Parse, from a round on. -/
def pgo (n : Nat) (ff : Bool) (m : Nat) (s : Rd.St) (out : List Td) : Rd.St × List Td := if s.err = 0 ∧ (ff = true ∨ (peek s).kind ≠ 0) then defs n m (def_ n s).1 (out ++ [(def_ n s).2]) else (s, out)
theorem parse_go (l : List UInt8) : parse l = pgo ((begin_ l).rest.length + 1) true ((begin_ l).rest.length + 1) (begin_ l) [] := by
  unfold parse pgo
  dsimp only
  by_cases h : (begin_ l).err = 0
  · rw [if_pos h, if_pos ⟨h, .inl rfl⟩]; rfl
  · rw [if_neg h, if_neg (fun x => h x.1)]
theorem defs_go (n m : Nat) (s : Rd.St) (out : List Td) : defs n (m + 1) s out = pgo n false m s out := by
  unfold defs pgo
  simp
end Sd

/-- What 'Parse' leaves. -/
def SdPost (l : List UInt8) (w : World) (r : Ending) (w' : World) : Prop :=
  Below w.heap.size w w' ∧ StdAll l ∧ ((∃ a c, (Sd.parse l).1.err = 0 ∧ r = .returned (.tuple #[.slice a (Sd.parse l).2.length c, .int .i64 0, .int .i64 0]) ∧ Reads w' (fun x => w.heap.size ≤ x) (.seq 7 ((Sd.parse l).2.map Sd.Td.d)) [.slice a (Sd.parse l).2.length c]) ∨
    ((Sd.parse l).1.err ≠ 0 ∧ r = .returned (.tuple #[.slice none 0 0, .int .i64 (Sd.parse l).1.at_, .int .i64 (Sd.parse l).1.err])))

set_option maxHeartbeats 2000000 in
set_option maxRecDepth 100000 in
theorem sparse_any (s : ByteArray) (w : World) (hs : s.size ≤ 9223372036854775807) (hE : Env w) (h3 : 3 ≤ w.heap.size) :
    Calls Tryz.prog 12 #[.string s] w (SdPost s.data.toList w) := by
  obtain ⟨i0, hi, hz0, hz1, hz2⟩ := info_parts infoTd
  have HE := Lib.hid hE
  clear hE
  go_enter Tryz.func12, Tryz.ntmps12
  go_wp2_with fail
  refine (rnew_any s w hs HE.out h3).mono ?_
  rintro r w1 ⟨hb1, hstd, g, cap, ts, a, e, rfl, hg, hrow, hok, hpos, hbg⟩
  obtain ⟨w2, hw2⟩ : ∃ z, z = w1.alloc (.cells #[.slice (some ⟨g, 0, none⟩) ts.length cap, .int .i64 0, .int .i64 0, .int .i64 a, .int .i64 e] 79) := ⟨_, rfl⟩
  obtain ⟨s0, hs0⟩ : ∃ z, z = Rd.begin_ s.data.toList := ⟨_, rfl⟩
  have hb2 : Below w1.heap.size w1 w2 := by rw [hw2]; exact (Below.refl _ _).alloc (Nat.le_refl _) _
  have hR : RdAt w2 w1.heap.size g s0 := by
    rw [hs0]
    have hgl := hrow.lt
    exact NewPost.rdAt (T := 79) (by rw [hw2]; exact heap_at_new _ _) (hrow.heap hb2.size (hb2.block g hgl)) (by omega) hok hpos hbg
  have HSTD := Lib.hid hstd
  clear hstd
  have HBW := Lib.hid (hb1.trans (hb2.mono hb1.size))
  have HGI := Lib.hid (GI.nil hR 38 7)
  have hm := hR.rest_len
  obtain ⟨n, hn⟩ : ∃ z, z = s0.rest.length := ⟨_, rfl⟩
  have HPG : Hid (Sd.parse s.data.toList = Sd.pgo (n + 1) true (n + 1) s0 []) := by rw [Sd.parse_go, hn, hs0]; exact Lib.hid rfl
  have HD0 : Hid (s0.deep = 0) := by rw [hs0, hbg]; exact Lib.hid rfl
  have hsz1 := hb1.size
  have HN := Lib.hid hn
  have hnb : n ≤ 1501 := by omega
  have HX := Lib.hid hw2
  have hwb : w.heap.size ≤ w1.heap.size := hsz1
  clear hbg hs0 hn hb2 hR hrow hok hb1 hm hsz1 hg hw2
  go_wp2_with fail
  rw [← HX.out]
  obtain ⟨b, hb⟩ : ∃ z, z = w1.heap.size := ⟨_, rfl⟩
  rw [← hb] at HGI hwb ⊢
  clear hb HX
  go_loopg [6, 7] (n + 2) (fun k s6 s7 wr => ∃ (m : Nat) (ff : Bool) (sr : Rd.St) (out : List Sd.Td), k = m + 1 ∧ s7 = .bool ff ∧ (sr.err ≠ 0 ∨ sr.rest.length ≤ m) ∧ out.length + m ≤ n + 1 ∧ sr.deep = 0 ∧ sr.rest.length ≤ n ∧ GI w2 b g 38 7 sr s6 (out.map Sd.Td.d) wr ∧ Sd.pgo (n + 1) ff m sr out = Sd.parse s.data.toList)
  case atStart => exact ⟨n + 1, true, s0, [], rfl, rfl, .inr (by have := HN.out; omega), by simp, HD0.out, by rw [HN.out]; exact Nat.le_refl _, HGI.out, HPG.out.symm⟩
  case round =>
    obtain ⟨m, ff, sr, out, rfl, rfl, hm, hol, hdp, hrn, hN, hgo⟩ := hrel
    obtain ⟨va, vc, hv⟩ := hN.row.form
    rw [List.length_map] at hv
    subst hv
    have HN2 := Lib.hid hN
    have HGO := Lib.hid hgo
    have HM := Lib.hid hm
    have HDP := Lib.hid hdp
    have c4' := hN.rd.c4
    clear hN hgo HGI hm hdp HN
    by_cases he : sr.err = 0
    · have e4 := eqT (n := sr.err) (k := 0) (by omega)
      have e5 := neF (n := sr.err) (k := 0) (by omega)
      have HERR := Lib.hid he
      clear he
      have hml : sr.rest.length ≤ m := by rcases HM.out with h | h; exact absurd HERR.out h; exact h
      have hpos := HN2.out.rd.rest_len
      obtain ⟨m', rfl⟩ : ∃ m', m = m' + 1 := ⟨m - 1, by omega⟩
      cases ff
      · go_wp2_with fail
        refine (rpeek_any b g sr wr HN2.out.rd).mono ?_
        rintro r w7 ⟨rfl, hb7⟩
        have HN3 := Lib.hid (HN2.out.below hb7)
        obtain ⟨tk, htk⟩ : ∃ z, z = Rd.peek sr := ⟨_, rfl⟩
        have HTK := Lib.hid htk
        rw [← htk]
        clear hb7 htk c4'
        have c4' := HN3.out.rd.c4
        by_cases hk : tk.kind = 0
        · have e6 := neF (n := tk.kind) (k := 0) (by omega)
          have HE2 : Hid (Sd.parse s.data.toList = (sr, out)) := by
            rw [← HGO.out]
            refine Lib.hid ?_
            unfold Sd.pgo
            rw [if_neg (by rw [← HTK.out]; simp [hk])]
          clear hk
          go_wp2_with fail
          refine bodyPost_ret (v := .tuple #[.slice va out.length vc, .int .i64 0, .int .i64 0]) (by simp [results, Tryz.results12, go_sem]) rfl ?_
          refine ⟨below_fr HBW.out (Nat.le_refl _) HN3.out.fr hwb, HSTD.out, .inl ⟨va, vc, ?_⟩⟩
          rw [HE2.out]
          have hr := HN3.out.reads
          refine ⟨HERR.out, rfl, ?_⟩
          exact hr.to (Stands.sub _ (fun x _ hp => Nat.le_trans HBW.out.size hp))
        · have e6 := neT (n := tk.kind) (k := 0) (by omega)
          have HGOES : Hid (sr.err = 0 ∧ (false = true ∨ (Rd.peek sr).kind ≠ 0)) := Lib.hid ⟨HERR.out, .inr (by rw [← HTK.out]; exact hk)⟩
          clear hk
          have HDE : Hid (Sd.defs (n + 1) (m' + 1) (Sd.def_ (n + 1) sr).1 (out ++ [(Sd.def_ (n + 1) sr).2]) = Sd.parse s.data.toList) := by
            rw [← HGO.out]
            refine Lib.hid ?_
            unfold Sd.pgo
            rw [if_pos HGOES.out]
          go_wp2_with fail
          refine (def_any b g n (by omega) sr _ HN3.out.rd (.inr hrn) (by rw [HDP.out]; omega)).mono ?_
          rintro r w3 ⟨cs, rfl, hrd, hr3, hf3⟩
          obtain ⟨k, a', nm, a1, a2, a3, a4, n1, c1, n2, c2, n3, c3, n4, c4, rfl⟩ := Td_cells hrd
          have hA : Below w3.heap.size w3 (w3.alloc (.cells #[.int .i64 k, .string nm, .slice a1 n1 c1, .slice a2 n2 c2, .slice a3 n3 c3, .slice a4 n4 c4, .int .i64 a'] 38)) := (Below.refl _ _).alloc (Nat.le_refl _) _
          have hN6 := (HN3.out.step hr3 hf3).below hA
          obtain ⟨⟨xs, hx, hRo⟩, hap⟩ := hN6.row
          rw [List.length_map] at hx
          have HN6 := Lib.hid hN6
          have HXX := Lib.hid hx
          have HRO := Lib.hid hRo
          have HDD := Lib.hid ((HN3.out.data hrd).to (Stands.below hA))
          have HONE := Lib.hid (Reads.one hrd)
          have HLIT : Hid (∀ j u, ([.int .i64 k, .string nm, .slice a1 n1 c1, .slice a2 n2 c2, .slice a3 n3 c3, .slice a4 n4 c4, .int .i64 a'] : List Value)[j]? = some u → (w3.alloc (.cells #[.int .i64 k, .string nm, .slice a1 n1 c1, .slice a2 n2 c2, .slice a3 n3 c3, .slice a4 n4 c4, .int .i64 a'] 38)).cell? ((⟨w3.heap.size, 0, none⟩ : Addr).add j) = some u) := Lib.hid (lit_cells (fz := (0, 0)) (heap_at_new _ _))
          have hbase : w2.heap.size ≤ (w3.alloc (.cells #[.int .i64 k, .string nm, .slice a1 n1 c1, .slice a2 n2 c2, .slice a3 n3 c3, .slice a4 n4 c4, .int .i64 a'] 38)).heap.size := hN6.fr.size
          clear hrd hr3 hf3 hA hN6 hx hRo hap c4'
          go_wp2_with (first | (at_builtin; refine wpList_append_own_at _ rfl _ _ 23 rfl w2.heap.size 38 i0 _ 7 128 Tryz.underlying23 hi hz0 hz1 hz2 rfl (by decide) (.slice va out.length vc) out.length xs rfl HXX.out ⟨w3.heap.size, 0, none⟩ 1 1 [.int .i64 k, .string nm, .slice a1 n1 c1, .slice a2 n2 c2, .slice a3 n3 c3, .slice a4 n4 c4, .int .i64 a'] rfl rfl HLIT.out HONE.out (by unfold maxLen; omega) (by omega) hbase ?_; intro v' w8 hrow8 hg8 hnil8 hloc8; clear hnil8; have HROW := Lib.hid hrow8; have HG8 := Lib.hid hg8; have HL8 := Lib.hid hloc8; clear hrow8 hg8 hloc8) | fail)
          go_roundg (m' + 1)
          case measure => omega
          case rel =>
            have hok := Sd.ok_def (n + 1) sr
            have hgs := Sd.def_goes (n + 1) sr HERR.out
            refine ⟨m', false, (Sd.def_ (n + 1) sr).1, out ++ [(Sd.def_ (n + 1) sr).2], rfl, rfl, ?_, by rw [List.length_append]; simp; omega, by rw [Sd.def_deep]; exact HDP.out, Nat.le_trans hok.len hrn, ?_, by rw [← Sd.defs_go]; exact HDE.out⟩
            · rcases hgs with h | h
              · exact .inl h
              · exact .inr (by omega)
            · rw [List.map_append]
              exact HN6.out.more (by rw [List.length_map]; exact HXX.out) HRO.out HDD.out rfl HG8.out HL8.out (by rw [List.length_map]; exact HROW.out)
      · have HN3 := HN2
        have HGOES : Hid (sr.err = 0 ∧ (true = true ∨ (Rd.peek sr).kind ≠ 0)) := Lib.hid ⟨HERR.out, .inl rfl⟩
        have HDE : Hid (Sd.defs (n + 1) (m' + 1) (Sd.def_ (n + 1) sr).1 (out ++ [(Sd.def_ (n + 1) sr).2]) = Sd.parse s.data.toList) := by
          rw [← HGO.out]
          refine Lib.hid ?_
          unfold Sd.pgo
          rw [if_pos HGOES.out]
        go_wp2_with fail
        refine (def_any b g n (by omega) sr _ HN3.out.rd (.inr hrn) (by rw [HDP.out]; omega)).mono ?_
        rintro r w3 ⟨cs, rfl, hrd, hr3, hf3⟩
        obtain ⟨k, a', nm, a1, a2, a3, a4, n1, c1, n2, c2, n3, c3, n4, c4, rfl⟩ := Td_cells hrd
        have hA : Below w3.heap.size w3 (w3.alloc (.cells #[.int .i64 k, .string nm, .slice a1 n1 c1, .slice a2 n2 c2, .slice a3 n3 c3, .slice a4 n4 c4, .int .i64 a'] 38)) := (Below.refl _ _).alloc (Nat.le_refl _) _
        have hN6 := (HN3.out.step hr3 hf3).below hA
        obtain ⟨⟨xs, hx, hRo⟩, hap⟩ := hN6.row
        rw [List.length_map] at hx
        have HN6 := Lib.hid hN6
        have HXX := Lib.hid hx
        have HRO := Lib.hid hRo
        have HDD := Lib.hid ((HN3.out.data hrd).to (Stands.below hA))
        have HONE := Lib.hid (Reads.one hrd)
        have HLIT : Hid (∀ j u, ([.int .i64 k, .string nm, .slice a1 n1 c1, .slice a2 n2 c2, .slice a3 n3 c3, .slice a4 n4 c4, .int .i64 a'] : List Value)[j]? = some u → (w3.alloc (.cells #[.int .i64 k, .string nm, .slice a1 n1 c1, .slice a2 n2 c2, .slice a3 n3 c3, .slice a4 n4 c4, .int .i64 a'] 38)).cell? ((⟨w3.heap.size, 0, none⟩ : Addr).add j) = some u) := Lib.hid (lit_cells (fz := (0, 0)) (heap_at_new _ _))
        have hbase : w2.heap.size ≤ (w3.alloc (.cells #[.int .i64 k, .string nm, .slice a1 n1 c1, .slice a2 n2 c2, .slice a3 n3 c3, .slice a4 n4 c4, .int .i64 a'] 38)).heap.size := hN6.fr.size
        clear hrd hr3 hf3 hA hN6 hx hRo hap c4'
        go_wp2_with (first | (at_builtin; refine wpList_append_own_at _ rfl _ _ 23 rfl w2.heap.size 38 i0 _ 7 128 Tryz.underlying23 hi hz0 hz1 hz2 rfl (by decide) (.slice va out.length vc) out.length xs rfl HXX.out ⟨w3.heap.size, 0, none⟩ 1 1 [.int .i64 k, .string nm, .slice a1 n1 c1, .slice a2 n2 c2, .slice a3 n3 c3, .slice a4 n4 c4, .int .i64 a'] rfl rfl HLIT.out HONE.out (by unfold maxLen; omega) (by omega) hbase ?_; intro v' w8 hrow8 hg8 hnil8 hloc8; clear hnil8; have HROW := Lib.hid hrow8; have HG8 := Lib.hid hg8; have HL8 := Lib.hid hloc8; clear hrow8 hg8 hloc8) | fail)
        go_roundg (m' + 1)
        case measure => omega
        case rel =>
          have hok := Sd.ok_def (n + 1) sr
          have hgs := Sd.def_goes (n + 1) sr HERR.out
          refine ⟨m', false, (Sd.def_ (n + 1) sr).1, out ++ [(Sd.def_ (n + 1) sr).2], rfl, rfl, ?_, by rw [List.length_append]; simp; omega, by rw [Sd.def_deep]; exact HDP.out, Nat.le_trans hok.len hrn, ?_, by rw [← Sd.defs_go]; exact HDE.out⟩
          · rcases hgs with h | h
            · exact .inl h
            · exact .inr (by omega)
          · rw [List.map_append]
            exact HN6.out.more (by rw [List.length_map]; exact HXX.out) HRO.out HDD.out rfl HG8.out HL8.out (by rw [List.length_map]; exact HROW.out)
    · have e4 := eqF (n := sr.err) (k := 0) (by omega)
      have e5 := neT (n := sr.err) (k := 0) (by omega)
      have HERR := Lib.hid he
      clear he
      have HE2 : Hid (Sd.parse s.data.toList = (sr, out)) := by
        rw [← HGO.out]
        refine Lib.hid ?_
        unfold Sd.pgo
        rw [if_neg (fun x => HERR.out x.1)]
      have c3' := HN2.out.rd.c3
      go_wp2_with fail
      refine wp_region_cuts [] (by kernel_rfl) (by kernel_rfl) ?_; simp only [wpMix, List.take_succ_cons, List.take_zero, List.drop_succ_cons, List.drop_zero, Nat.sub_zero, Nat.reduceSub, Nat.reduceAdd]
      repeat (go_big_quiet_step (fail))
      refine wpQuiet_nil ?_
      rintro _ ⟨nq, rfl⟩
      go_wp2_with fail
      refine bodyPost_ret (v := .tuple #[.slice none 0 0, .int .i64 sr.at_, .int .i64 sr.err]) (by simp [results, Tryz.results12, go_sem]) rfl ?_
      refine ⟨below_fr HBW.out (Nat.le_refl _) (HN2.out.fr.drewN _) hwb, HSTD.out, .inr ?_⟩
      rw [HE2.out]
      exact ⟨HERR.out, rfl⟩
end Go.Proofs.YtabcaljnpahgpaaGreatDoor
