/-
  The reader of types: a definition, walked. The reader of types: Parse, walked. Types as data: what their cells hold. 'Parse' of types on the two texts of 'awake'. SdlPlaces: its places, walked. SdlPlaces: its inner loops, walked. SdlPlaces, walked.
-/
import Derived.Test.YtabcaljnpahgpaaDoorG8
import Derived.Test.YtabcaljnpahgpaaDoorG6
import Derived.Test.YtabcaljnpahgpaaDoorG2
import Derived.Test.YtabcaljnpahgpaaDoorG4
namespace Go.Proofs.YtabcaljnpahgpaaDoor
set_option linter.unusedSimpArgs false
set_option linter.unusedVariables false
open Go Go.RowKit
set_option maxHeartbeats 8000000 in
set_option maxRecDepth 100000 in
theorem def_any (b g : Nat) (n : Nat) (hnb : n ≤ 1600) (s : Rd.St) (w : World) (h : RdAt w b g s) (hn : s.err ≠ 0 ∨ s.rest.length ≤ n) (hd : 0 ≤ s.deep ∧ s.deep + n ≤ 900000) :
    Calls Tryd.prog 14 #[.pointer (some ⟨b, 0, none⟩)] w (Got b g w (Sd.def_ (n + 1) s).2.d (Sd.def_ (n + 1) s).1) := by
  have hlb := h.lt
  have H := Lib.hid h
  have HN := Lib.hid hn
  obtain ⟨d0, d1⟩ := hd
  have hba : Below w.heap.size w ((w.alloc (.cells #[.pointer (some ⟨b, 0, none⟩)] 60)).alloc (.cells #[.int .i64 0, .string ⟨#[]⟩, .slice none 0 0, .slice none 0 0, .slice none 0 0, .slice none 0 0, .int .i64 0] 33)) := ((Below.refl _ _).alloc (Nat.le_refl _) _).alloc (by simp) _
  have HBA := Lib.hid hba
  have hA : ((w.alloc (.cells #[.pointer (some ⟨b, 0, none⟩)] 60)).alloc (.cells #[.int .i64 0, .string ⟨#[]⟩, .slice none 0 0, .slice none 0 0, .slice none 0 0, .slice none 0 0, .int .i64 0] 33)).heap[w.heap.size]? = some (.cells #[.pointer (some ⟨b, 0, none⟩)] 60 (0, 0)) := by
    rw [Lib.alloc_old _ _ _ (by simp)]; exact heap_at_new _ _
  have hB : ((w.alloc (.cells #[.pointer (some ⟨b, 0, none⟩)] 60)).alloc (.cells #[.int .i64 0, .string ⟨#[]⟩, .slice none 0 0, .slice none 0 0, .slice none 0 0, .slice none 0 0, .int .i64 0] 33)).heap[w.heap.size + 1]? = some (.cells #[.int .i64 0, .string ⟨#[]⟩, .slice none 0 0, .slice none 0 0, .slice none 0 0, .slice none 0 0, .int .i64 0] 33 (0, 0)) := by
    have := heap_at_new (w.alloc (.cells #[.pointer (some ⟨b, 0, none⟩)] 60)) (.cells #[.int .i64 0, .string ⟨#[]⟩, .slice none 0 0, .slice none 0 0, .slice none 0 0, .slice none 0 0, .int .i64 0] 33)
    rw [show (w.alloc (.cells #[.pointer (some ⟨b, 0, none⟩)] 60)).heap.size = w.heap.size + 1 by simp] at this
    exact this
  have hW0 : ((w.alloc (.cells #[.pointer (some ⟨b, 0, none⟩)] 60)).alloc (.cells #[.int .i64 0, .string ⟨#[]⟩, .slice none 0 0, .slice none 0 0, .slice none 0 0, .slice none 0 0, .int .i64 0] 33)).heap.size = w.heap.size + 2 := by simp
  have HA := Lib.hid hA
  have HBB := Lib.hid hB
  have HW0 := Lib.hid hW0
  have HMB : Hid ((w.heap.size, Obj.cells #[.pointer (some ⟨b, 0, none⟩)] 60 (0, 0)) ∈ [(w.heap.size, Obj.cells #[.pointer (some ⟨b, 0, none⟩)] 60 (0, 0)), (w.heap.size + 1, Obj.cells #[.int .i64 0, .string ⟨#[]⟩, .slice none 0 0, .slice none 0 0, .slice none 0 0, .slice none 0 0, .int .i64 0] 33 (0, 0))]) := Lib.hid List.mem_cons_self
  have HMR : Hid ((w.heap.size + 1, Obj.cells #[.int .i64 0, .string ⟨#[]⟩, .slice none 0 0, .slice none 0 0, .slice none 0 0, .slice none 0 0, .int .i64 0] 33 (0, 0)) ∈ [(w.heap.size, Obj.cells #[.pointer (some ⟨b, 0, none⟩)] 60 (0, 0)), (w.heap.size + 1, Obj.cells #[.int .i64 0, .string ⟨#[]⟩, .slice none 0 0, .slice none 0 0, .slice none 0 0, .slice none 0 0, .int .i64 0] 33 (0, 0))]) := Lib.hid (List.mem_cons_of_mem _ List.mem_cons_self)
  have k2 := blk_cell hA 0 (.pointer (some ⟨b, 0, none⟩)) rfl
  clear h hn hba hA hB hW0
  go_enter Tryd.func14, Tryd.ntmps14
  go_wp2_with fail
  refine (told_any b g s _ (H.out.below HBA.out)).mono ?_
  rintro r w1 ⟨rfl, h1, f1⟩
  obtain ⟨s1, hs1⟩ : ∃ x, x = Sd.told s := ⟨_, rfl⟩
  rw [← hs1] at h1
  have HS1 := Lib.hid hs1
  have H1 := Lib.hid h1
  have F1 := Lib.hid f1
  clear h1 f1 hs1 k2
  have HA1 : Hid (w1.heap[w.heap.size]? = some (.cells #[.pointer (some ⟨b, 0, none⟩)] 60 (0, 0))) := Lib.hid (by rw [F1.out.block w.heap.size (by rw [HW0.out]; omega) (by omega)]; exact HA.out)
  have HB1 : Hid (w1.heap[w.heap.size + 1]? = some (.cells #[.int .i64 0, .string ⟨#[]⟩, .slice none 0 0, .slice none 0 0, .slice none 0 0, .slice none 0 0, .int .i64 0] 33 (0, 0))) := Lib.hid (by rw [F1.out.block (w.heap.size + 1) (by rw [HW0.out]; omega) (by omega)]; exact HBB.out)
  have hS : w1.cell? ⟨w.heap.size, 0, none⟩ = some (.pointer (some ⟨b, 0, none⟩)) := blk_cell HA1.out 0 (.pointer (some ⟨b, 0, none⟩)) rfl
  have HSS := Lib.hid hS
  go_wp2_with fail
  refine wp_region_phase (fun w' => w'.cell? ⟨w.heap.size, 0, none⟩ = some (.pointer (some ⟨b, 0, none⟩))) 6 (by kernel_rfl) ?_
  refine wpAnyB_take (i := 0) (v := (.pointer (some ⟨b, 0, none⟩))) (by kernel_rfl) (by decide) rfl (by kernel_rfl) (by kernel_rfl) (by kernel_rfl) (fun _ _ _ h => h) (Or.inl ⟨by rfl, fun w hSw => by have s0 := hSw; go_simp⟩) hS ?_; simp only [Act.put, List.setIfInBounds_toArray, List.set_cons_zero, List.set_cons_succ]
  refine wpAnyB_take (i := 1) (v := (.pointer (some ⟨b, 0, none⟩))) (by kernel_rfl) (by decide) rfl (by kernel_rfl) (by kernel_rfl) (by kernel_rfl) (fun _ _ _ h => h) (Or.inl ⟨by rfl, fun w hSw => by have s0 := hSw; go_simp⟩) hS ?_; simp only [Act.put, List.setIfInBounds_toArray, List.set_cons_zero, List.set_cons_succ]
  refine wpAnyB_take (i := 2) (v := (.pointer (some ⟨b, 0, none⟩))) (by kernel_rfl) (by decide) rfl (by kernel_rfl) (by kernel_rfl) (by kernel_rfl) (fun _ _ _ h => h) (Or.inl ⟨by rfl, fun w hSw => by have s0 := hSw; go_simp⟩) hS ?_; simp only [Act.put, List.setIfInBounds_toArray, List.set_cons_zero, List.set_cons_succ]
  clear hS
  refine wpAnyB_one (i := 3) (by kernel_rfl) ?_
  refine wpOp_intro (by decide) (fun K HK => ?_)
  simp only [List.drop_succ_cons, List.drop_zero]
  go_wp2_with fail
  refine (words_any _).mono ?_
  rintro r w2 ⟨rfl, f2, hx2⟩
  have F2 : Hid (Below w1.heap.size w1 w2) := Lib.hid ⟨f2.os, f2.tape, f2.output, f2.size, f2.block⟩
  have HX2 := Lib.hid hx2
  clear f2 hx2
  have HS2 : Hid (w2.cell? ⟨w.heap.size, 0, none⟩ = some (.pointer (some ⟨b, 0, none⟩))) := Lib.hid (by rw [F2.out.cell (by simpa using block_lt HA1.out)]; exact HSS.out)
  have H2 : Hid (RdAt w2 b g s1) := Lib.hid (H1.out.below F2.out)
  go_wp2_with fail
  refine HK.out _ _ ⟨fun _ => HS2.out, ?_⟩
  clear HK
  refine wpAnyB_one (i := 4) (by kernel_rfl) ?_
  refine wpOp_intro (by decide) (fun K4 HK4 => ?_)
  simp only [List.drop_succ_cons, List.drop_zero]
  go_wp2_with fail
  refine (rword_any b g s1 _ Sd.words _ H2.out HX2.out (by decide)).mono ?_
  rintro r w3 ⟨rfl, f3⟩
  have F3 := Lib.hid f3
  clear f3
  have HS3 : Hid (w3.cell? ⟨w.heap.size, 0, none⟩ = some (.pointer (some ⟨b, 0, none⟩))) := Lib.hid (by rw [F3.out.cell (cell_lt HS2.out)]; exact HS2.out)
  have H3 : Hid (RdAt w3 b g s1) := Lib.hid (H2.out.below F3.out)
  go_wp2_with fail
  refine HK4.out _ _ ⟨fun _ => HS3.out, ?_⟩
  clear HK4
  refine wpAnyB_one (i := 5) (by kernel_rfl) ?_
  refine wpOp_intro (by decide) (fun K5 HK5 => ?_)
  simp only [List.drop_succ_cons, List.drop_zero]
  go_wp2_with fail
  refine HK5.out _ _ ⟨fun _ => HS3.out, ?_⟩
  clear HK5
  refine wpAnyB_done (by kernel_rfl) ?_ _
  have hs3 := HS3.out
  rename_i K1 hK1 K0 hK0
  obtain ⟨s2, hs2⟩ : ∃ x, x = (if Rd.isW s1 Sd.words then s1 else Rd.wrong s1) := ⟨_, rfl⟩
  have HS2E := Lib.hid hs2
  clear hs2
  have F13 : Hid (Fr b ((w.alloc (.cells #[.pointer (some ⟨b, 0, none⟩)] 60)).alloc (.cells #[.int .i64 0, .string ⟨#[]⟩, .slice none 0 0, .slice none 0 0, .slice none 0 0, .slice none 0 0, .int .i64 0] 33)) w3) := Lib.hid (F1.out.trans (But.of_below (Below.trans F2.out (F3.out.mono F2.out.size))))
  have HJ : Hid (∀ (v11 v12 v13 v14 v15 v16 : Value) (w4 : World), RdAt w4 b g s2 → Fr b ((w.alloc (.cells #[.pointer (some ⟨b, 0, none⟩)] 60)).alloc (.cells #[.int .i64 0, .string ⟨#[]⟩, .slice none 0 0, .slice none 0 0, .slice none 0 0, .slice none 0 0, .int .i64 0] 33)) w4 → K1 { tmps := #[(.pointer (some ⟨b, 0, none⟩)), .pointer (some ⟨w.heap.size, 0, none⟩), .pointer (some ⟨w.heap.size + 1, 0, none⟩), undef, undef, (.pointer (some ⟨b, 0, none⟩)), .tuple #[], (.pointer (some ⟨b, 0, none⟩)), (.pointer (some ⟨b, 0, none⟩)), (.pointer (some ⟨b, 0, none⟩)), .slice (some ⟨w1.heap.size, 0, none⟩) 6 6, v11, v12, v13, v14, v15, v16, undef, undef, undef, undef, undef, undef, undef, undef, undef, undef, undef, undef, undef, undef, undef, undef, undef, undef, undef, undef, undef, undef, undef, undef, undef, undef, undef, undef, undef, undef, undef, undef, undef, undef, undef, undef, undef, undef, undef, undef, undef, undef, undef, undef, undef, undef, undef, undef, undef, undef, undef, undef, undef, undef, undef, undef, undef], defers := [] } w4) := Lib.hid (by
    intro v11 v12 v13 v14 v15 v16 w4 h4 f14
    refine hK1 _ _ ?_
    clear hK0 hK1 hs3
    have H4 := Lib.hid h4
    have F14 := Lib.hid f14
    clear h4 f14
    have HA4 : Hid (w4.heap[w.heap.size]? = some (.cells #[.pointer (some ⟨b, 0, none⟩)] 60 (0, 0))) := Lib.hid (by rw [F14.out.block w.heap.size (by rw [HW0.out]; omega) (by omega)]; exact HA.out)
    have HB4 : Hid (w4.heap[w.heap.size + 1]? = some (.cells #[.int .i64 0, .string ⟨#[]⟩, .slice none 0 0, .slice none 0 0, .slice none 0 0, .slice none 0 0, .int .i64 0] 33 (0, 0))) := Lib.hid (by rw [F14.out.block (w.heap.size + 1) (by rw [HW0.out]; omega) (by omega)]; exact HBB.out)
    have hs4 : w4.cell? ⟨w.heap.size, 0, none⟩ = some (.pointer (some ⟨b, 0, none⟩)) := blk_cell HA4.out 0 (.pointer (some ⟨b, 0, none⟩)) rfl
    go_wp2_with fail
    refine (rnext_any b g s2 w4 H4.out).mono ?_
    rintro r w5 ⟨rfl, h5, f5⟩
    have H5 := Lib.hid h5
    have F15 := Lib.hid (F14.out.trans f5)
    clear h5 f5 hs4
    have HA5 : Hid (w5.heap[w.heap.size]? = some (.cells #[.pointer (some ⟨b, 0, none⟩)] 60 (0, 0))) := Lib.hid (by rw [F15.out.block w.heap.size (by rw [HW0.out]; omega) (by omega)]; exact HA.out)
    have HB5 : Hid (w5.heap[w.heap.size + 1]? = some (.cells #[.int .i64 0, .string ⟨#[]⟩, .slice none 0 0, .slice none 0 0, .slice none 0 0, .slice none 0 0, .int .i64 0] 33 (0, 0))) := Lib.hid (by rw [F15.out.block (w.heap.size + 1) (by rw [HW0.out]; omega) (by omega)]; exact HBB.out)
    have hs5 : w5.cell? ⟨w.heap.size, 0, none⟩ = some (.pointer (some ⟨b, 0, none⟩)) := blk_cell HA5.out 0 (.pointer (some ⟨b, 0, none⟩)) rfl
    go_wp2_with fail
    rename_i K2 hK2
    obtain ⟨tk, htk⟩ : ∃ x, x = Rd.peek s2 := ⟨_, rfl⟩
    rw [← htk]
    have HTK := Lib.hid htk
    clear htk
    obtain ⟨wt, hwt⟩ : ∃ x, x = w5.alloc (.cells #[.int .i64 tk.kind, .string ⟨tk.text.toArray⟩, .int .i64 tk.at_] 68) := ⟨_, rfl⟩
    rw [← hwt]
    have HT5 : Hid (wt.heap[w5.heap.size]? = some (.cells #[.int .i64 tk.kind, .string ⟨tk.text.toArray⟩, .int .i64 tk.at_] 68 (0, 0))) := Lib.hid (by rw [hwt]; exact heap_at_new _ _)
    have FWT : Hid (Below w5.heap.size w5 wt) := Lib.hid (by rw [hwt]; exact (Below.refl _ _).alloc (Nat.le_refl _) _)
    clear hs5 hwt
    have hS : wt.cell? ⟨w5.heap.size, 1, none⟩ = some (.string ⟨tk.text.toArray⟩) ∧ wt.cell? ⟨w5.heap.size, 2, none⟩ = some (.int .i64 tk.at_) := ⟨blk_cell HT5.out 1 _ rfl, blk_cell HT5.out 2 _ rfl⟩
    have HSS := Lib.hid hS
    refine wp_region_phase (fun w' => w'.cell? ⟨w5.heap.size, 1, none⟩ = some (.string ⟨tk.text.toArray⟩) ∧ w'.cell? ⟨w5.heap.size, 2, none⟩ = some (.int .i64 tk.at_)) 9 (by kernel_rfl) ?_
    refine wpAnyB_take (i := 1) (v := (.pointer (some ⟨w5.heap.size, 1, none⟩))) (by kernel_rfl) (by decide) rfl (by kernel_rfl) (by kernel_rfl) (by kernel_rfl) (fun _ _ _ h => h) (Or.inl ⟨by rfl, fun w hSw => by obtain ⟨s0, s1⟩ := hSw; go_simp⟩) hS ?_; simp only [Act.put, List.setIfInBounds_toArray, List.set_cons_zero, List.set_cons_succ]
    refine wpAnyB_take (i := 2) (v := (.string ⟨tk.text.toArray⟩)) (by kernel_rfl) (by decide) rfl (by kernel_rfl) (by kernel_rfl) (by kernel_rfl) (fun _ _ _ h => h) (Or.inl ⟨by rfl, fun w hSw => by obtain ⟨s0, s1⟩ := hSw; go_simp⟩) hS ?_; simp only [Act.put, List.setIfInBounds_toArray, List.set_cons_zero, List.set_cons_succ]
    refine wpAnyB_take (i := 5) (v := (.pointer (some ⟨w5.heap.size, 2, none⟩))) (by kernel_rfl) (by decide) rfl (by kernel_rfl) (by kernel_rfl) (by kernel_rfl) (fun _ _ _ h => h) (Or.inl ⟨by rfl, fun w hSw => by obtain ⟨s0, s1⟩ := hSw; go_simp⟩) hS ?_; simp only [Act.put, List.setIfInBounds_toArray, List.set_cons_zero, List.set_cons_succ]
    refine wpAnyB_take (i := 6) (v := (.int .i64 tk.at_)) (by kernel_rfl) (by decide) rfl (by kernel_rfl) (by kernel_rfl) (by kernel_rfl) (fun _ _ _ h => h) (Or.inl ⟨by rfl, fun w hSw => by obtain ⟨s0, s1⟩ := hSw; go_simp⟩) hS ?_; simp only [Act.put, List.setIfInBounds_toArray, List.set_cons_zero, List.set_cons_succ]
    clear hS
    have HJ2 : Hid (∀ (v20 v21 v22 v23 v24 v25 v26 v27 v28 : Value) (x : Nat) (w6 : World), w5.heap.size < x → x < w6.heap.size → w6.heap[x]? = some (.cells #[.int .i64 (Sd.kindOf tk.text), .string ⟨#[]⟩, .slice none 0 0, .slice none 0 0, .slice none 0 0, .slice none 0 0, .int .i64 tk.at_] 33 (0, 0)) → Below w5.heap.size w5 w6 → K2 { tmps := #[(.pointer (some ⟨b, 0, none⟩)), .pointer (some ⟨w.heap.size, 0, none⟩), .pointer (some ⟨w.heap.size + 1, 0, none⟩), .pointer (some ⟨w5.heap.size, 0, none⟩), .pointer (some ⟨x, 0, none⟩), (.pointer (some ⟨b, 0, none⟩)), .tuple #[], (.pointer (some ⟨b, 0, none⟩)), (.pointer (some ⟨b, 0, none⟩)), (.pointer (some ⟨b, 0, none⟩)), .slice (some ⟨w1.heap.size, 0, none⟩) 6 6, v11, v12, v13, v14, v15, v16, (.pointer (some ⟨b, 0, none⟩)), (.pointer (some ⟨b, 0, none⟩)), (.pointer (some ⟨b, 0, none⟩)), v20, v21, v22, v23, v24, v25, v26, v27, v28, undef, undef, undef, undef, undef, undef, undef, undef, undef, undef, undef, undef, undef, undef, undef, undef, undef, undef, undef, undef, undef, undef, undef, undef, undef, undef, undef, undef, undef, undef, undef, undef, undef, undef, undef, undef, undef, undef, undef, undef, undef, undef, undef, undef, undef], defers := [] } w6) := Lib.hid (by
      intro v20 v21 v22 v23 v24 v25 v26 v27 v28 x w6 hx0 hx1 hx f6
      refine hK2 _ _ ?_
      have hl1 := F15.out.size
      rw [HW0.out] at hl1
      obtain ⟨s5, hs5⟩ : ∃ z, z = Rd.next s2 := ⟨_, rfl⟩
      have HS5 := Lib.hid hs5
      obtain ⟨kd, hkd⟩ : ∃ z, z = Sd.kindOf tk.text := ⟨_, rfl⟩
      rw [← hkd] at hx
      have HKD := Lib.hid hkd
      have hkl : kd ≤ 6 := by rw [hkd]; exact kindOf_le _
      have HB6 : Hid (BI w b g x [(w.heap.size, Obj.cells #[.pointer (some ⟨b, 0, none⟩)] 60 (0, 0)), (w.heap.size + 1, Obj.cells #[.int .i64 0, .string ⟨#[]⟩, .slice none 0 0, .slice none 0 0, .slice none 0 0, .slice none 0 0, .int .i64 0] 33 (0, 0))] 33 #[.int .i64 kd, .string ⟨#[]⟩, .slice none 0 0, .slice none 0 0, .slice none 0 0, .slice none 0 0, .int .i64 tk.at_] s5 w6) := Lib.hid (by
        refine ⟨by rw [hs5]; exact H5.out.below f6, fun p hp => ?_, hx, ((But.of_below HBA.out).trans F15.out).trans (But.of_below f6), hlb.1, hlb.2, fun p hp => ?_, by omega⟩
        · simp only [List.mem_cons, List.not_mem_nil, or_false] at hp
          rcases hp with rfl | rfl
          · show w6.heap[w.heap.size]? = _
            rw [f6.block w.heap.size (by omega)]
            exact HA5.out
          · show w6.heap[w.heap.size + 1]? = _
            rw [f6.block (w.heap.size + 1) (by omega)]
            exact HB5.out
        · simp only [List.mem_cons, List.not_mem_nil, or_false] at hp
          rcases hp with rfl | rfl <;> (simp only; omega))
      have HDEF5 : Hid (Sd.def_ (n + 1) s = Sd.body (n + 1) kd (Rd.name s5).2 tk.at_ (Rd.name s5).1) := by
        refine Lib.hid ?_
        unfold Sd.def_
        dsimp only
        rw [← HS1.out, ← HS2E.out, ← HTK.out, ← HS5.out, ← HKD.out]
      have HOK5 : Hid (Rd.Ok s s5) := by
        rw [HS5.out, HS2E.out, HS1.out]
        refine Lib.hid (Rd.Ok.trans ?_ (Rd.ok_next _))
        split
        · exact Sd.ok_told s
        · exact (Sd.ok_told s).trans (Rd.ok_wrong _)
      have HDP5 : Hid (s5.deep = s.deep) := by
        rw [HS5.out, Rd.next_deep, HS2E.out, HS1.out]
        refine Lib.hid ?_
        split
        · exact Sd.told_deep s
        · rw [Rd.wrong_deep]; exact Sd.told_deep s
      clear hx hx1 f6 hs5 hkd
      have hkc : kd < 2 ∨ kd = 2 ∨ kd = 3 ∨ kd = 4 ∨ kd = 5 ∨ kd = 6 := by omega
      rcases hkc with hkc | hkc | hkc | hkc | hkc | hkc
      · exact def_tail0 b g n hnb s w hlb HN d0 d1 kd x tk s5 w6 HB6 HDEF5 HOK5 HDP5 hkl hkc _ _ _ _ _ _ _ _ _ _ _ _ _ _ _ _ _ _ _ _ _ _ _ _ _
      · exact def_tail2 b g n hnb s w hlb HN d0 d1 kd x tk s5 w6 HB6 HDEF5 HOK5 HDP5 hkl hkc _ _ _ _ _ _ _ _ _ _ _ _ _ _ _ _ _ _ _ _ _ _ _ _ _
      · exact def_tail3 b g n hnb s w hlb HN d0 d1 kd x tk s5 w6 HB6 HDEF5 HOK5 HDP5 hkl hkc _ _ _ _ _ _ _ _ _ _ _ _ _ _ _ _ _ _ _ _ _ _ _ _ _
      · exact def_tail4 b g n hnb s w hlb HN d0 d1 kd x tk s5 w6 HB6 HDEF5 HOK5 HDP5 hkl hkc _ _ _ _ _ _ _ _ _ _ _ _ _ _ _ _ _ _ _ _ _ _ _ _ _
      · exact def_tail5 b g n hnb s w hlb HN d0 d1 kd x tk s5 w6 HB6 HDEF5 HOK5 HDP5 hkl hkc _ _ _ _ _ _ _ _ _ _ _ _ _ _ _ _ _ _ _ _ _ _ _ _ _
      · exact def_tail6 b g n hnb s w hlb HN d0 d1 kd x tk s5 w6 HB6 HDEF5 HOK5 HDP5 hkl hkc _ _ _ _ _ _ _ _ _ _ _ _ _ _ _ _ _ _ _ _ _ _ _ _ _
    )
    clear hK2
    refine wpAnyB_two (i := 0) (k := 8) (by kernel_rfl) ?_ ?_
    · refine wpOp_intro (by decide) (fun K0 HK0 => ?_); simp only [List.drop_succ_cons, List.drop_zero]
      go_wp2_with fail
      refine (words_any _).mono ?_
      rintro r w6 ⟨rfl, f, hx⟩
      have Fw6 : Hid (Below wt.heap.size wt w6) := Lib.hid ⟨f.os, f.tape, f.output, f.size, f.block⟩
      have HXw6 := Lib.hid hx
      clear f hx
      have HSw6 : Hid (w6.cell? ⟨w5.heap.size, 1, none⟩ = some (.string ⟨tk.text.toArray⟩) ∧ w6.cell? ⟨w5.heap.size, 2, none⟩ = some (.int .i64 tk.at_)) := Lib.hid ⟨by rw [Fw6.out.cell (cell_lt HSS.out.1)]; exact HSS.out.1, by rw [Fw6.out.cell (cell_lt HSS.out.2)]; exact HSS.out.2⟩
      go_wp2_with fail
      refine HK0.out _ _ ⟨fun _ => HSw6.out, ?_⟩
      clear HK0
      refine wpAnyB_two (i := 3) (k := 8) (by kernel_rfl) ?_ ?_
      · refine wpOp_intro (by decide) (fun K3 HK3 => ?_); simp only [List.drop_succ_cons, List.drop_zero]
        go_wp2_with fail
        refine (idx_any w6 _ _ _ HXw6.out).mono ?_
        rintro r w7 ⟨rfl, rfl⟩
        go_wp2_with fail
        refine HK3.out _ _ ⟨fun _ => HSw6.out, ?_⟩
        clear HK3
        have hk := idx_kind tk.text
        have hkl := kindOf_le tk.text
        obtain ⟨q, hq⟩ : ∃ q, q = Lib.idxOfS (List.map (fun s => (⟨s.toArray⟩ : ByteArray)) Sd.words) ⟨tk.text.toArray⟩ := ⟨_, rfl⟩
        rw [← hq] at hk ⊢
        clear hq
        have hq0 : -1 ≤ q := by omega
        have hq1 : q ≤ 5 := by omega
        obtain ⟨kd, hkd⟩ : ∃ x, x = Sd.kindOf tk.text := ⟨_, rfl⟩
        rw [← hkd] at hk hkl
        have HKD := Lib.hid hkd
        clear hkd
        have hw : IntKind.i64.wrap (kd : Int) = kd := by rw [IntKind.wrap_i64]; omega
        have hw2 : IntKind.i64.wrap (1 + q) = kd := by rw [hk]; exact hw
        have hS := HSw6.out
        refine wpAnyB_take (i := 4) (v := (.int .i64 kd)) (by kernel_rfl) (by decide) rfl (by kernel_rfl) (by kernel_rfl) (by kernel_rfl) (fun _ _ _ h => h) (Or.inl ⟨by rfl, fun w hSw => by obtain ⟨s0, s1⟩ := hSw; go_simp; first | done | exact hw | exact hw2⟩) hS ?_; simp only [Act.put, List.setIfInBounds_toArray, List.set_cons_zero, List.set_cons_succ]
        refine wpAnyB_take (i := 7) (v := (.agg #[.int .i64 kd, .string ⟨#[]⟩, .slice none 0 0, .slice none 0 0, .slice none 0 0, .slice none 0 0, .int .i64 tk.at_])) (by kernel_rfl) (by decide) rfl (by kernel_rfl) (by kernel_rfl) (by kernel_rfl) (fun _ _ _ h => h) (Or.inl ⟨by rfl, fun w hSw => by obtain ⟨s0, s1⟩ := hSw; go_simp; first | done | exact hw | exact hw2⟩) hS ?_; simp only [Act.put, List.setIfInBounds_toArray, List.set_cons_zero, List.set_cons_succ]
        clear hS
        refine wpAnyB_one (i := 8) (by kernel_rfl) ?_
        refine wpOp_intro (by decide) (fun K8 HK8 => ?_); simp only [List.drop_succ_cons, List.drop_zero]
        go_wp2_with fail
        have HBX : Hid (Below w7.heap.size w7 (w7.alloc (.cells #[.int .i64 0, .string ⟨#[]⟩, .slice none 0 0, .slice none 0 0, .slice none 0 0, .slice none 0 0, .int .i64 0] 33))) := Lib.hid ((Below.refl _ _).alloc (Nat.le_refl _) _)
        refine HK8.out _ _ ⟨fun _ => ⟨by rw [HBX.out.cell (cell_lt HSw6.out.1)]; exact HSw6.out.1, by rw [HBX.out.cell (cell_lt HSw6.out.2)]; exact HSw6.out.2⟩, ?_⟩
        clear HK8
        refine wpAnyB_one (i := 9) (by kernel_rfl) ?_
        refine wpOp_intro (by decide) (fun K9 HK9 => ?_); simp only [List.drop_succ_cons, List.drop_zero]
        go_wp2_with fail
        refine HK9.out _ _ ⟨fun h => absurd h (by decide), ?_⟩
        clear HK9
        refine wpAnyB_done (by kernel_rfl) ?_ _
        have hl5 := block_lt HT5.out
        have hl6 := Fw6.out.size
        exact HJ2.out _ _ _ _ _ _ _ _ _ w7.heap.size _ (by omega) (by simp) (by rw [← HKD.out]; exact heap_at_new _ _) ((FWT.out.trans (Fw6.out.mono FWT.out.size)).trans (((Below.refl _ _).alloc (Nat.le_refl _) _).mono (by have := FWT.out.size; omega)))
      · refine wpOp_intro (by decide) (fun K8 HK8 => ?_); simp only [List.drop_succ_cons, List.drop_zero]
        go_wp2_with fail
        have HBX : Hid (Below w6.heap.size w6 (w6.alloc (.cells #[.int .i64 0, .string ⟨#[]⟩, .slice none 0 0, .slice none 0 0, .slice none 0 0, .slice none 0 0, .int .i64 0] 33))) := Lib.hid ((Below.refl _ _).alloc (Nat.le_refl _) _)
        have HSx : Hid ((w6.alloc (.cells #[.int .i64 0, .string ⟨#[]⟩, .slice none 0 0, .slice none 0 0, .slice none 0 0, .slice none 0 0, .int .i64 0] 33)).cell? ⟨w5.heap.size, 1, none⟩ = some (.string ⟨tk.text.toArray⟩) ∧ (w6.alloc (.cells #[.int .i64 0, .string ⟨#[]⟩, .slice none 0 0, .slice none 0 0, .slice none 0 0, .slice none 0 0, .int .i64 0] 33)).cell? ⟨w5.heap.size, 2, none⟩ = some (.int .i64 tk.at_)) := Lib.hid ⟨by rw [HBX.out.cell (cell_lt HSw6.out.1)]; exact HSw6.out.1, by rw [HBX.out.cell (cell_lt HSw6.out.2)]; exact HSw6.out.2⟩
        refine HK8.out _ _ ⟨fun _ => HSx.out, ?_⟩
        clear HK8
        refine wpAnyB_one (i := 3) (by kernel_rfl) ?_
        refine wpOp_intro (by decide) (fun K3 HK3 => ?_); simp only [List.drop_succ_cons, List.drop_zero]
        go_wp2_with fail
        refine (idx_any _ _ _ _ (HXw6.out.below HBX.out)).mono ?_
        rintro r w7 ⟨rfl, rfl⟩
        go_wp2_with fail
        refine HK3.out _ _ ⟨fun _ => HSx.out, ?_⟩
        clear HK3
        have hk := idx_kind tk.text
        have hkl := kindOf_le tk.text
        obtain ⟨q, hq⟩ : ∃ q, q = Lib.idxOfS (List.map (fun s => (⟨s.toArray⟩ : ByteArray)) Sd.words) ⟨tk.text.toArray⟩ := ⟨_, rfl⟩
        rw [← hq] at hk ⊢
        clear hq
        have hq0 : -1 ≤ q := by omega
        have hq1 : q ≤ 5 := by omega
        obtain ⟨kd, hkd⟩ : ∃ x, x = Sd.kindOf tk.text := ⟨_, rfl⟩
        rw [← hkd] at hk hkl
        have HKD := Lib.hid hkd
        clear hkd
        have hw : IntKind.i64.wrap (kd : Int) = kd := by rw [IntKind.wrap_i64]; omega
        have hw2 : IntKind.i64.wrap (1 + q) = kd := by rw [hk]; exact hw
        have hS := HSx.out
        refine wpAnyB_take (i := 4) (v := (.int .i64 kd)) (by kernel_rfl) (by decide) rfl (by kernel_rfl) (by kernel_rfl) (by kernel_rfl) (fun _ _ _ h => h) (Or.inl ⟨by rfl, fun w hSw => by obtain ⟨s0, s1⟩ := hSw; go_simp; first | done | exact hw | exact hw2⟩) hS ?_; simp only [Act.put, List.setIfInBounds_toArray, List.set_cons_zero, List.set_cons_succ]
        refine wpAnyB_take (i := 7) (v := (.agg #[.int .i64 kd, .string ⟨#[]⟩, .slice none 0 0, .slice none 0 0, .slice none 0 0, .slice none 0 0, .int .i64 tk.at_])) (by kernel_rfl) (by decide) rfl (by kernel_rfl) (by kernel_rfl) (by kernel_rfl) (fun _ _ _ h => h) (Or.inl ⟨by rfl, fun w hSw => by obtain ⟨s0, s1⟩ := hSw; go_simp; first | done | exact hw | exact hw2⟩) hS ?_; simp only [Act.put, List.setIfInBounds_toArray, List.set_cons_zero, List.set_cons_succ]
        clear hS
        refine wpAnyB_one (i := 9) (by kernel_rfl) ?_
        refine wpOp_intro (by decide) (fun K9 HK9 => ?_); simp only [List.drop_succ_cons, List.drop_zero]
        go_wp2_with fail
        refine HK9.out _ _ ⟨fun h => absurd h (by decide), ?_⟩
        clear HK9
        refine wpAnyB_done (by kernel_rfl) ?_ _
        have hl5 := block_lt HT5.out
        have hl6 := Fw6.out.size
        exact HJ2.out _ _ _ _ _ _ _ _ _ w6.heap.size _ (by omega) (by simp) (by rw [← HKD.out]; exact heap_at_new _ _) ((FWT.out.trans (Fw6.out.mono FWT.out.size)).trans (((Below.refl _ _).alloc (Nat.le_refl _) _).mono (by have := FWT.out.size; omega)))
    · refine wpOp_intro (by decide) (fun K8 HK8 => ?_); simp only [List.drop_succ_cons, List.drop_zero]
      go_wp2_with fail
      have HBX : Hid (Below wt.heap.size wt (wt.alloc (.cells #[.int .i64 0, .string ⟨#[]⟩, .slice none 0 0, .slice none 0 0, .slice none 0 0, .slice none 0 0, .int .i64 0] 33))) := Lib.hid ((Below.refl _ _).alloc (Nat.le_refl _) _)
      have HSx : Hid ((wt.alloc (.cells #[.int .i64 0, .string ⟨#[]⟩, .slice none 0 0, .slice none 0 0, .slice none 0 0, .slice none 0 0, .int .i64 0] 33)).cell? ⟨w5.heap.size, 1, none⟩ = some (.string ⟨tk.text.toArray⟩) ∧ (wt.alloc (.cells #[.int .i64 0, .string ⟨#[]⟩, .slice none 0 0, .slice none 0 0, .slice none 0 0, .slice none 0 0, .int .i64 0] 33)).cell? ⟨w5.heap.size, 2, none⟩ = some (.int .i64 tk.at_)) := Lib.hid ⟨by rw [HBX.out.cell (cell_lt HSS.out.1)]; exact HSS.out.1, by rw [HBX.out.cell (cell_lt HSS.out.2)]; exact HSS.out.2⟩
      have HZ0 : Hid ((wt.alloc (.cells #[.int .i64 0, .string ⟨#[]⟩, .slice none 0 0, .slice none 0 0, .slice none 0 0, .slice none 0 0, .int .i64 0] 33)).heap[wt.heap.size]? = some (.cells #[.int .i64 0, .string ⟨#[]⟩, .slice none 0 0, .slice none 0 0, .slice none 0 0, .slice none 0 0, .int .i64 0] 33 (0, 0))) := Lib.hid (heap_at_new _ _)
      refine HK8.out _ _ ⟨fun _ => HSx.out, ?_⟩
      clear HK8
      refine wpAnyB_one (i := 0) (by kernel_rfl) ?_
      refine wpOp_intro (by decide) (fun K0 HK0 => ?_); simp only [List.drop_succ_cons, List.drop_zero]
      go_wp2_with fail
      refine (words_any _).mono ?_
      rintro r w6 ⟨rfl, f, hx⟩
      have Fw6 : Hid (Below (wt.alloc (.cells #[.int .i64 0, .string ⟨#[]⟩, .slice none 0 0, .slice none 0 0, .slice none 0 0, .slice none 0 0, .int .i64 0] 33)).heap.size (wt.alloc (.cells #[.int .i64 0, .string ⟨#[]⟩, .slice none 0 0, .slice none 0 0, .slice none 0 0, .slice none 0 0, .int .i64 0] 33)) w6) := Lib.hid ⟨f.os, f.tape, f.output, f.size, f.block⟩
      rw [show (wt.alloc (.cells #[.int .i64 0, .string ⟨#[]⟩, .slice none 0 0, .slice none 0 0, .slice none 0 0, .slice none 0 0, .int .i64 0] 33)).drew.heap.size = wt.heap.size + 1 from by simp] at hx
      have HXw6 := Lib.hid hx
      clear f hx
      have HSw6 : Hid (w6.cell? ⟨w5.heap.size, 1, none⟩ = some (.string ⟨tk.text.toArray⟩) ∧ w6.cell? ⟨w5.heap.size, 2, none⟩ = some (.int .i64 tk.at_)) := Lib.hid ⟨by rw [Fw6.out.cell (cell_lt HSx.out.1)]; exact HSx.out.1, by rw [Fw6.out.cell (cell_lt HSx.out.2)]; exact HSx.out.2⟩
      have HZ : Hid (w6.heap[wt.heap.size]? = some (.cells #[.int .i64 0, .string ⟨#[]⟩, .slice none 0 0, .slice none 0 0, .slice none 0 0, .slice none 0 0, .int .i64 0] 33 (0, 0))) := Lib.hid (by rw [Fw6.out.block _ (block_lt HZ0.out)]; exact HZ0.out)
      go_wp2_with fail
      refine HK0.out _ _ ⟨fun _ => HSw6.out, ?_⟩
      clear HK0
      refine wpAnyB_one (i := 3) (by kernel_rfl) ?_
      refine wpOp_intro (by decide) (fun K3 HK3 => ?_); simp only [List.drop_succ_cons, List.drop_zero]
      go_wp2_with fail
      refine (idx_any w6 _ _ _ HXw6.out).mono ?_
      rintro r w7 ⟨rfl, rfl⟩
      go_wp2_with fail
      refine HK3.out _ _ ⟨fun _ => HSw6.out, ?_⟩
      clear HK3
      have hk := idx_kind tk.text
      have hkl := kindOf_le tk.text
      obtain ⟨q, hq⟩ : ∃ q, q = Lib.idxOfS (List.map (fun s => (⟨s.toArray⟩ : ByteArray)) Sd.words) ⟨tk.text.toArray⟩ := ⟨_, rfl⟩
      rw [← hq] at hk ⊢
      clear hq
      have hq0 : -1 ≤ q := by omega
      have hq1 : q ≤ 5 := by omega
      obtain ⟨kd, hkd⟩ : ∃ x, x = Sd.kindOf tk.text := ⟨_, rfl⟩
      rw [← hkd] at hk hkl
      have HKD := Lib.hid hkd
      clear hkd
      have hw : IntKind.i64.wrap (kd : Int) = kd := by rw [IntKind.wrap_i64]; omega
      have hw2 : IntKind.i64.wrap (1 + q) = kd := by rw [hk]; exact hw
      have hS := HSw6.out
      refine wpAnyB_take (i := 4) (v := (.int .i64 kd)) (by kernel_rfl) (by decide) rfl (by kernel_rfl) (by kernel_rfl) (by kernel_rfl) (fun _ _ _ h => h) (Or.inl ⟨by rfl, fun w hSw => by obtain ⟨s0, s1⟩ := hSw; go_simp; first | done | exact hw | exact hw2⟩) hS ?_; simp only [Act.put, List.setIfInBounds_toArray, List.set_cons_zero, List.set_cons_succ]
      refine wpAnyB_take (i := 7) (v := (.agg #[.int .i64 kd, .string ⟨#[]⟩, .slice none 0 0, .slice none 0 0, .slice none 0 0, .slice none 0 0, .int .i64 tk.at_])) (by kernel_rfl) (by decide) rfl (by kernel_rfl) (by kernel_rfl) (by kernel_rfl) (fun _ _ _ h => h) (Or.inl ⟨by rfl, fun w hSw => by obtain ⟨s0, s1⟩ := hSw; go_simp; first | done | exact hw | exact hw2⟩) hS ?_; simp only [Act.put, List.setIfInBounds_toArray, List.set_cons_zero, List.set_cons_succ]
      clear hS
      refine wpAnyB_one (i := 9) (by kernel_rfl) ?_
      refine wpOp_intro (by decide) (fun K9 HK9 => ?_); simp only [List.drop_succ_cons, List.drop_zero]
      have z0 := blk_cell HZ.out 0 (.int .i64 0) rfl
      have zf0 := blk_free HZ.out 0
      have z1 := blk_cell HZ.out 1 (.string ⟨#[]⟩) rfl
      have zf1 := blk_free HZ.out 1
      have z2 := blk_cell HZ.out 2 (.slice none 0 0) rfl
      have zf2 := blk_free HZ.out 2
      have z3 := blk_cell HZ.out 3 (.slice none 0 0) rfl
      have zf3 := blk_free HZ.out 3
      have z4 := blk_cell HZ.out 4 (.slice none 0 0) rfl
      have zf4 := blk_free HZ.out 4
      have z5 := blk_cell HZ.out 5 (.slice none 0 0) rfl
      have zf5 := blk_free HZ.out 5
      have z6 := blk_cell HZ.out 6 (.int .i64 0) rfl
      have zf6 := blk_free HZ.out 6
      go_wp2_with fail
      refine HK9.out _ _ ⟨fun h => absurd h (by decide), ?_⟩
      clear HK9
      refine wpAnyB_done (by kernel_rfl) ?_ _
      have hl5 := block_lt HT5.out
      have hl6 := Fw6.out.size
      have hlx := block_lt HZ.out
      have e0 := heap_set1 (k := 6) (v := .int .i64 tk.at_) (heap_set1 (k := 5) (v := .slice none 0 0) (heap_set1 (k := 4) (v := .slice none 0 0) (heap_set1 (k := 3) (v := .slice none 0 0) (heap_set1 (k := 2) (v := .slice none 0 0) (heap_set1 (k := 1) (v := .string ⟨#[]⟩) (heap_set1 (k := 0) (v := .int .i64 kd) HZ.out))))))
      exact HJ2.out _ _ _ _ _ _ _ _ _ wt.heap.size _ (by omega) (by simp only [size_set]; exact hlx) (by rw [← HKD.out]; exact e0) (((((((((FWT.out.trans (HBX.out.mono FWT.out.size)).trans (Fw6.out.mono (by have := FWT.out.size; have := HBX.out.size; omega))).setCell (by show _ ≤ wt.heap.size; omega) _).setCell (by show _ ≤ wt.heap.size; omega) _).setCell (by show _ ≤ wt.heap.size; omega) _).setCell (by show _ ≤ wt.heap.size; omega) _).setCell (by show _ ≤ wt.heap.size; omega) _).setCell (by show _ ≤ wt.heap.size; omega) _).setCell (by show _ ≤ wt.heap.size; omega) _)
    )
  refine hK0 _ _ ?_
  clear hK0 hK1
  obtain ⟨B, hB⟩ : ∃ B, B = Rd.isW s1 Sd.words := ⟨_, rfl⟩
  have HB := Lib.hid hB
  rw [← hB]
  clear hB
  cases B
  · go_wp2_with fail
    refine (rwrong_any b g _ w3 H3.out).mono ?_
    rintro r w4 ⟨rfl, h4, f4⟩
    have HEE : Hid (s2 = Rd.wrong s1) := Lib.hid (by rw [HS2E.out, if_neg (by rw [← HB.out]; simp)])
    have H4 := Lib.hid h4
    have F4 := Lib.hid f4
    clear h4 f4
    go_wp2_with fail
    exact HJ.out _ _ _ _ _ _ w4 (by rw [HEE.out]; exact H4.out) (F13.out.trans F4.out)
  · have HEE : Hid (s2 = s1) := Lib.hid (by rw [HS2E.out, if_pos HB.out.symm])
    go_wp2_with fail
    exact HJ.out _ _ _ _ _ _ w3 (by rw [HEE.out]; exact H3.out) F13.out
end Go.Proofs.YtabcaljnpahgpaaDoor
namespace Go.Proofs.YtabcaljnpahgpaaDoor
set_option linter.unusedSimpArgs false
set_option linter.unusedVariables false
open Go Go.RowKit

theorem infoTd : (Tryd.prog.info? 33).map (fun i => (i.zero, i.size, i.bytes)) = some (some (.agg #[.int .i64 0, .string ⟨#[]⟩, .slice none 0 0, .slice none 0 0, .slice none 0 0, .slice none 0 0, .int .i64 0]), 7, 128) := by kernel_rfl
theorem Td_cells {w : World} {P : Nat → Prop} {x : Sd.Td} {cs : List Value} (h : Reads w P x.d cs) : ∃ (k a : Int) (nm : ByteArray) (a1 a2 a3 a4 : Option Addr) (n1 c1 n2 c2 n3 c3 n4 c4 : Nat), cs = [.int .i64 k, .string nm, .slice a1 n1 c1, .slice a2 n2 c2, .slice a3 n3 c3, .slice a4 n4 c4, .int .i64 a] := by
  unfold Sd.Td.d at h
  obtain ⟨x1, r1, rfl, e1, h1⟩ := h.obj_inv.cons_inv
  obtain ⟨x2, r2, rfl, e2, h2⟩ := h1.cons_inv
  obtain ⟨x3, r3, rfl, e3, h3⟩ := h2.cons_inv
  obtain ⟨x4, r4, rfl, e4, h4⟩ := h3.cons_inv
  obtain ⟨x5, r5, rfl, e5, h5⟩ := h4.cons_inv
  obtain ⟨x6, r6, rfl, e6, h6⟩ := h5.cons_inv
  obtain ⟨x7, r7, rfl, e7, h7⟩ := h6.cons_inv
  obtain rfl := e1.int_inv
  obtain rfl := e2.str_inv
  obtain ⟨b3, d3, rfl, _⟩ := e3.seq_inv
  obtain ⟨b4, d4, rfl, _⟩ := e4.seq_inv
  obtain ⟨b5, d5, rfl, _⟩ := e5.seq_inv
  obtain ⟨b6, d6, rfl, _⟩ := e6.seq_inv
  obtain rfl := e7.int_inv
  obtain rfl := h7.nil_inv
  exact ⟨_, _, _, _, _, _, _, _, _, _, _, _, _, _, _, rfl⟩

namespace Sd
open Rd
/-- The loop of Parse, from a round on. -/
def pgo (n : Nat) (ff : Bool) (m : Nat) (s : Rd.St) (out : List Td) : Rd.St × List Td := if s.err = 0 ∧ (ff = true ∨ (peek s).kind ≠ 0) then defs n m (def_ n s).1 (out ++ [(def_ n s).2]) else (s, out)
theorem parse_go (l : List UInt8) : parse l = pgo ((begin_ l).rest.length + 1) true ((begin_ l).rest.length + 1) (begin_ l) [] := by
  unfold parse pgo
  dsimp only
  by_cases h : (begin_ l).err = 0
  · rw [if_pos h, if_pos ⟨h, .inl rfl⟩]; rfl
  · rw [if_neg h, if_neg (fun x => h x.1)]
theorem defs_go (n m : Nat) (s : Rd.St) (out : List Td) : defs n (m + 1) s out = pgo n false m s out := by
  unfold defs pgo
  simp
end Sd

/-- What 'Parse' leaves. -/
def SdPost (l : List UInt8) (w : World) (r : Ending) (w' : World) : Prop :=
  Below w.heap.size w w' ∧ StdAll l ∧ ((∃ a c, (Sd.parse l).1.err = 0 ∧ r = .returned (.tuple #[.slice a (Sd.parse l).2.length c, .int .i64 0, .int .i64 0]) ∧ Reads w' (fun x => w.heap.size ≤ x) (.seq 7 ((Sd.parse l).2.map Sd.Td.d)) [.slice a (Sd.parse l).2.length c]) ∨
    ((Sd.parse l).1.err ≠ 0 ∧ r = .returned (.tuple #[.slice none 0 0, .int .i64 (Sd.parse l).1.at_, .int .i64 (Sd.parse l).1.err])))

theorem below_fr {n b : Nat} {w w2 wr : World} (h : Below n w w2) (hw : n ≤ w.heap.size) (hf : Fr b w2 wr) (hb : n ≤ b) : Below n w wr :=
  ⟨hf.os.trans h.os, hf.tape.trans h.tape, hf.output.trans h.output, Nat.le_trans h.size hf.size, fun k hk => by rw [hf.block k (by have := h.size; omega) (by omega)]; exact h.block k hk⟩
set_option maxHeartbeats 2000000 in
set_option maxRecDepth 100000 in
theorem sparse_any (s : ByteArray) (w : World) (hs : s.size ≤ 9223372036854775807) (hE : Env w) (h3 : 3 ≤ w.heap.size) :
    Calls Tryd.prog 7 #[.string s] w (SdPost s.data.toList w) := by
  obtain ⟨i0, hi, hz0, hz1, hz2⟩ := info_parts infoTd
  have HE := Lib.hid hE
  clear hE
  go_enter Tryd.func7, Tryd.ntmps7
  go_wp2_with fail
  refine (rnew_any s w hs HE.out h3).mono ?_
  rintro r w1 ⟨hb1, hstd, g, cap, ts, a, e, rfl, hg, hrow, hok, hpos, hbg⟩
  obtain ⟨w2, hw2⟩ : ∃ z, z = w1.alloc (.cells #[.slice (some ⟨g, 0, none⟩) ts.length cap, .int .i64 0, .int .i64 0, .int .i64 a, .int .i64 e] 66) := ⟨_, rfl⟩
  obtain ⟨s0, hs0⟩ : ∃ z, z = Rd.begin_ s.data.toList := ⟨_, rfl⟩
  have hb2 : Below w1.heap.size w1 w2 := by rw [hw2]; exact (Below.refl _ _).alloc (Nat.le_refl _) _
  have hR : RdAt w2 w1.heap.size g s0 := by
    rw [hs0]
    have hgl := hrow.lt
    exact NewPost.rdAt (T := 66) (by rw [hw2]; exact heap_at_new _ _) (hrow.heap hb2.size (hb2.block g hgl)) (by omega) hok hpos hbg
  have HSTD := Lib.hid hstd
  clear hstd
  have HBW := Lib.hid (hb1.trans (hb2.mono hb1.size))
  have HGI := Lib.hid (GI.nil hR 33 7)
  have hm := hR.rest_len
  obtain ⟨n, hn⟩ : ∃ z, z = s0.rest.length := ⟨_, rfl⟩
  have HPG : Hid (Sd.parse s.data.toList = Sd.pgo (n + 1) true (n + 1) s0 []) := by rw [Sd.parse_go, hn, hs0]; exact Lib.hid rfl
  have HD0 : Hid (s0.deep = 0) := by rw [hs0, hbg]; exact Lib.hid rfl
  have hsz1 := hb1.size
  have HN := Lib.hid hn
  have hnb : n ≤ 1501 := by omega
  have HX := Lib.hid hw2
  have hwb : w.heap.size ≤ w1.heap.size := hsz1
  clear hbg hs0 hn hb2 hR hrow hok hb1 hm hsz1 hg hw2
  go_wp2_with fail
  rw [← HX.out]
  obtain ⟨b, hb⟩ : ∃ z, z = w1.heap.size := ⟨_, rfl⟩
  rw [← hb] at HGI hwb ⊢
  clear hb HX
  go_loopg [6, 7] (n + 2) (fun k s6 s7 wr => ∃ (m : Nat) (ff : Bool) (sr : Rd.St) (out : List Sd.Td), k = m + 1 ∧ s7 = .bool ff ∧ (sr.err ≠ 0 ∨ sr.rest.length ≤ m) ∧ out.length + m ≤ n + 1 ∧ sr.deep = 0 ∧ sr.rest.length ≤ n ∧ GI w2 b g 33 7 sr s6 (out.map Sd.Td.d) wr ∧ Sd.pgo (n + 1) ff m sr out = Sd.parse s.data.toList)
  case atStart => exact ⟨n + 1, true, s0, [], rfl, rfl, .inr (by have := HN.out; omega), by simp, HD0.out, by rw [HN.out]; exact Nat.le_refl _, HGI.out, HPG.out.symm⟩
  case round =>
    obtain ⟨m, ff, sr, out, rfl, rfl, hm, hol, hdp, hrn, hN, hgo⟩ := hrel
    obtain ⟨va, vc, hv⟩ := hN.row.form
    rw [List.length_map] at hv
    subst hv
    have HN2 := Lib.hid hN
    have HGO := Lib.hid hgo
    have HM := Lib.hid hm
    have HDP := Lib.hid hdp
    have c4' := hN.rd.c4
    clear hN hgo HGI hm hdp HN
    by_cases he : sr.err = 0
    · have e4 := eqT (n := sr.err) (k := 0) (by omega)
      have e5 := neF (n := sr.err) (k := 0) (by omega)
      have HERR := Lib.hid he
      clear he
      have hml : sr.rest.length ≤ m := by rcases HM.out with h | h; exact absurd HERR.out h; exact h
      have hpos := HN2.out.rd.rest_len
      obtain ⟨m', rfl⟩ : ∃ m', m = m' + 1 := ⟨m - 1, by omega⟩
      cases ff
      · go_wp2_with fail
        refine (rpeek_any b g sr wr HN2.out.rd).mono ?_
        rintro r w7 ⟨rfl, hb7⟩
        have HN3 := Lib.hid (HN2.out.below hb7)
        obtain ⟨tk, htk⟩ : ∃ z, z = Rd.peek sr := ⟨_, rfl⟩
        have HTK := Lib.hid htk
        rw [← htk]
        clear hb7 htk c4'
        have c4' := HN3.out.rd.c4
        by_cases hk : tk.kind = 0
        · have e6 := neF (n := tk.kind) (k := 0) (by omega)
          have HE2 : Hid (Sd.parse s.data.toList = (sr, out)) := by
            rw [← HGO.out]
            refine Lib.hid ?_
            unfold Sd.pgo
            rw [if_neg (by rw [← HTK.out]; simp [hk])]
          clear hk
          go_wp2_with fail
          refine bodyPost_ret (v := .tuple #[.slice va out.length vc, .int .i64 0, .int .i64 0]) (by simp [results, Tryd.results7, go_sem]) rfl ?_
          refine ⟨below_fr HBW.out (Nat.le_refl _) HN3.out.fr hwb, HSTD.out, .inl ⟨va, vc, ?_⟩⟩
          rw [HE2.out]
          have hr := HN3.out.reads
          refine ⟨HERR.out, rfl, ?_⟩
          exact hr.to (Stands.sub _ (fun x _ hp => Nat.le_trans HBW.out.size hp))
        · have e6 := neT (n := tk.kind) (k := 0) (by omega)
          have HGOES : Hid (sr.err = 0 ∧ (false = true ∨ (Rd.peek sr).kind ≠ 0)) := Lib.hid ⟨HERR.out, .inr (by rw [← HTK.out]; exact hk)⟩
          clear hk
          have HDE : Hid (Sd.defs (n + 1) (m' + 1) (Sd.def_ (n + 1) sr).1 (out ++ [(Sd.def_ (n + 1) sr).2]) = Sd.parse s.data.toList) := by
            rw [← HGO.out]
            refine Lib.hid ?_
            unfold Sd.pgo
            rw [if_pos HGOES.out]
          go_wp2_with fail
          refine (def_any b g n (by omega) sr _ HN3.out.rd (.inr hrn) (by rw [HDP.out]; omega)).mono ?_
          rintro r w3 ⟨cs, rfl, hrd, hr3, hf3⟩
          obtain ⟨k, a', nm, a1, a2, a3, a4, n1, c1, n2, c2, n3, c3, n4, c4, rfl⟩ := Td_cells hrd
          have hA : Below w3.heap.size w3 (w3.alloc (.cells #[.int .i64 k, .string nm, .slice a1 n1 c1, .slice a2 n2 c2, .slice a3 n3 c3, .slice a4 n4 c4, .int .i64 a'] 33)) := (Below.refl _ _).alloc (Nat.le_refl _) _
          have hN6 := (HN3.out.step hr3 hf3).below hA
          obtain ⟨⟨xs, hx, hRo⟩, hap⟩ := hN6.row
          rw [List.length_map] at hx
          have HN6 := Lib.hid hN6
          have HXX := Lib.hid hx
          have HRO := Lib.hid hRo
          have HDD := Lib.hid ((HN3.out.data hrd).to (Stands.below hA))
          have HONE := Lib.hid (Reads.one hrd)
          have HLIT : Hid (∀ j u, ([.int .i64 k, .string nm, .slice a1 n1 c1, .slice a2 n2 c2, .slice a3 n3 c3, .slice a4 n4 c4, .int .i64 a'] : List Value)[j]? = some u → (w3.alloc (.cells #[.int .i64 k, .string nm, .slice a1 n1 c1, .slice a2 n2 c2, .slice a3 n3 c3, .slice a4 n4 c4, .int .i64 a'] 33)).cell? ((⟨w3.heap.size, 0, none⟩ : Addr).add j) = some u) := Lib.hid (lit_cells (fz := (0, 0)) (heap_at_new _ _))
          have hbase : w2.heap.size ≤ (w3.alloc (.cells #[.int .i64 k, .string nm, .slice a1 n1 c1, .slice a2 n2 c2, .slice a3 n3 c3, .slice a4 n4 c4, .int .i64 a'] 33)).heap.size := hN6.fr.size
          clear hrd hr3 hf3 hA hN6 hx hRo hap c4'
          go_wp2_with (first | (at_builtin; refine wpList_append_own_at _ rfl _ _ 23 rfl w2.heap.size 33 i0 _ 7 128 Tryd.underlying23 hi hz0 hz1 hz2 rfl (by decide) (.slice va out.length vc) out.length xs rfl HXX.out ⟨w3.heap.size, 0, none⟩ 1 1 [.int .i64 k, .string nm, .slice a1 n1 c1, .slice a2 n2 c2, .slice a3 n3 c3, .slice a4 n4 c4, .int .i64 a'] rfl rfl HLIT.out HONE.out (by unfold maxLen; omega) (by omega) hbase ?_; intro v' w8 hrow8 hg8 hnil8 hloc8; clear hnil8; have HROW := Lib.hid hrow8; have HG8 := Lib.hid hg8; have HL8 := Lib.hid hloc8; clear hrow8 hg8 hloc8) | fail)
          go_roundg (m' + 1)
          case measure => omega
          case rel =>
            have hok := Sd.ok_def (n + 1) sr
            have hgs := Sd.def_goes (n + 1) sr HERR.out
            refine ⟨m', false, (Sd.def_ (n + 1) sr).1, out ++ [(Sd.def_ (n + 1) sr).2], rfl, rfl, ?_, by rw [List.length_append]; simp; omega, by rw [Sd.def_deep]; exact HDP.out, Nat.le_trans hok.len hrn, ?_, by rw [← Sd.defs_go]; exact HDE.out⟩
            · rcases hgs with h | h
              · exact .inl h
              · exact .inr (by omega)
            · rw [List.map_append]
              exact HN6.out.more (by rw [List.length_map]; exact HXX.out) HRO.out HDD.out rfl HG8.out HL8.out (by rw [List.length_map]; exact HROW.out)
      · have HN3 := HN2
        have HGOES : Hid (sr.err = 0 ∧ (true = true ∨ (Rd.peek sr).kind ≠ 0)) := Lib.hid ⟨HERR.out, .inl rfl⟩
        have HDE : Hid (Sd.defs (n + 1) (m' + 1) (Sd.def_ (n + 1) sr).1 (out ++ [(Sd.def_ (n + 1) sr).2]) = Sd.parse s.data.toList) := by
          rw [← HGO.out]
          refine Lib.hid ?_
          unfold Sd.pgo
          rw [if_pos HGOES.out]
        go_wp2_with fail
        refine (def_any b g n (by omega) sr _ HN3.out.rd (.inr hrn) (by rw [HDP.out]; omega)).mono ?_
        rintro r w3 ⟨cs, rfl, hrd, hr3, hf3⟩
        obtain ⟨k, a', nm, a1, a2, a3, a4, n1, c1, n2, c2, n3, c3, n4, c4, rfl⟩ := Td_cells hrd
        have hA : Below w3.heap.size w3 (w3.alloc (.cells #[.int .i64 k, .string nm, .slice a1 n1 c1, .slice a2 n2 c2, .slice a3 n3 c3, .slice a4 n4 c4, .int .i64 a'] 33)) := (Below.refl _ _).alloc (Nat.le_refl _) _
        have hN6 := (HN3.out.step hr3 hf3).below hA
        obtain ⟨⟨xs, hx, hRo⟩, hap⟩ := hN6.row
        rw [List.length_map] at hx
        have HN6 := Lib.hid hN6
        have HXX := Lib.hid hx
        have HRO := Lib.hid hRo
        have HDD := Lib.hid ((HN3.out.data hrd).to (Stands.below hA))
        have HONE := Lib.hid (Reads.one hrd)
        have HLIT : Hid (∀ j u, ([.int .i64 k, .string nm, .slice a1 n1 c1, .slice a2 n2 c2, .slice a3 n3 c3, .slice a4 n4 c4, .int .i64 a'] : List Value)[j]? = some u → (w3.alloc (.cells #[.int .i64 k, .string nm, .slice a1 n1 c1, .slice a2 n2 c2, .slice a3 n3 c3, .slice a4 n4 c4, .int .i64 a'] 33)).cell? ((⟨w3.heap.size, 0, none⟩ : Addr).add j) = some u) := Lib.hid (lit_cells (fz := (0, 0)) (heap_at_new _ _))
        have hbase : w2.heap.size ≤ (w3.alloc (.cells #[.int .i64 k, .string nm, .slice a1 n1 c1, .slice a2 n2 c2, .slice a3 n3 c3, .slice a4 n4 c4, .int .i64 a'] 33)).heap.size := hN6.fr.size
        clear hrd hr3 hf3 hA hN6 hx hRo hap c4'
        go_wp2_with (first | (at_builtin; refine wpList_append_own_at _ rfl _ _ 23 rfl w2.heap.size 33 i0 _ 7 128 Tryd.underlying23 hi hz0 hz1 hz2 rfl (by decide) (.slice va out.length vc) out.length xs rfl HXX.out ⟨w3.heap.size, 0, none⟩ 1 1 [.int .i64 k, .string nm, .slice a1 n1 c1, .slice a2 n2 c2, .slice a3 n3 c3, .slice a4 n4 c4, .int .i64 a'] rfl rfl HLIT.out HONE.out (by unfold maxLen; omega) (by omega) hbase ?_; intro v' w8 hrow8 hg8 hnil8 hloc8; clear hnil8; have HROW := Lib.hid hrow8; have HG8 := Lib.hid hg8; have HL8 := Lib.hid hloc8; clear hrow8 hg8 hloc8) | fail)
        go_roundg (m' + 1)
        case measure => omega
        case rel =>
          have hok := Sd.ok_def (n + 1) sr
          have hgs := Sd.def_goes (n + 1) sr HERR.out
          refine ⟨m', false, (Sd.def_ (n + 1) sr).1, out ++ [(Sd.def_ (n + 1) sr).2], rfl, rfl, ?_, by rw [List.length_append]; simp; omega, by rw [Sd.def_deep]; exact HDP.out, Nat.le_trans hok.len hrn, ?_, by rw [← Sd.defs_go]; exact HDE.out⟩
          · rcases hgs with h | h
            · exact .inl h
            · exact .inr (by omega)
          · rw [List.map_append]
            exact HN6.out.more (by rw [List.length_map]; exact HXX.out) HRO.out HDD.out rfl HG8.out HL8.out (by rw [List.length_map]; exact HROW.out)
    · have e4 := eqF (n := sr.err) (k := 0) (by omega)
      have e5 := neT (n := sr.err) (k := 0) (by omega)
      have HERR := Lib.hid he
      clear he
      have HE2 : Hid (Sd.parse s.data.toList = (sr, out)) := by
        rw [← HGO.out]
        refine Lib.hid ?_
        unfold Sd.pgo
        rw [if_neg (fun x => HERR.out x.1)]
      have c3' := HN2.out.rd.c3
      go_wp2_with fail
      refine wp_region_cuts [] (by kernel_rfl) (by kernel_rfl) ?_; simp only [wpMix, List.take_succ_cons, List.take_zero, List.drop_succ_cons, List.drop_zero, Nat.sub_zero, Nat.reduceSub, Nat.reduceAdd]
      repeat (go_big_quiet_step (fail))
      refine wpQuiet_nil ?_
      rintro _ ⟨nq, rfl⟩
      go_wp2_with fail
      refine bodyPost_ret (v := .tuple #[.slice none 0 0, .int .i64 sr.at_, .int .i64 sr.err]) (by simp [results, Tryd.results7, go_sem]) rfl ?_
      refine ⟨below_fr HBW.out (Nat.le_refl _) (HN2.out.fr.drewN _) hwb, HSTD.out, .inr ?_⟩
      rw [HE2.out]
      exact ⟨HERR.out, rfl⟩
end Go.Proofs.YtabcaljnpahgpaaDoor
namespace Go.Proofs.YtabcaljnpahgpaaDoor
set_option linter.unusedSimpArgs false
set_option linter.unusedVariables false
open Go Go.RowKit

section
variable {w : World} {P : Nat → Prop}
theorem Reads.elem {k : Nat} {xs : List D} {a : Option Addr} {n c : Nat} (h : Reads w P (.seq k xs) [.slice a n c]) : n = xs.length ∧ ∀ (j : Nat) d, xs[j]? = some d → ∃ g o cs, a = some ⟨g, o, none⟩ ∧ P g ∧ g < w.heap.size ∧ cs.length = k ∧
    (∀ (q : Nat) v, cs[q]? = some v → w.cell? ⟨g, o + j * k + q, none⟩ = some v) ∧ Reads w P d cs := by
  obtain ⟨a', c', e, hr⟩ := h.seq_inv
  obtain ⟨rfl, rfl, rfl⟩ : a = a' ∧ n = xs.length ∧ c = c' := by simpa using e
  refine ⟨rfl, fun j d hj => ?_⟩
  have := hr.at j d hj
  rw [Nat.zero_add] at this
  exact this
theorem Td_open {x : Sd.Td} {cs : List Value} (h : Reads w P x.d cs) : ∃ (a1 a2 a3 a4 : Option Addr) (c1 c2 c3 c4 : Nat),
    cs = [.int .i64 x.kind, .string ⟨x.name.toArray⟩, .slice a1 x.impl.length c1, .slice a2 x.fields.length c2, .slice a3 x.members.length c3, .slice a4 x.inputs.length c4, .int .i64 x.at_] ∧
    Reads w P (.seq 1 (sds x.impl)) [.slice a1 x.impl.length c1] ∧ Reads w P (.seq 4 (x.fields.map Sd.Fd.d)) [.slice a2 x.fields.length c2] ∧ Reads w P (.seq 1 (sds x.members)) [.slice a3 x.members.length c3] ∧ Reads w P (.seq 9 (x.inputs.map Sd.In.d)) [.slice a4 x.inputs.length c4] := by
  unfold Sd.Td.d at h
  obtain ⟨x1, r1, rfl, e1, h1⟩ := h.obj_inv.cons_inv
  obtain ⟨x2, r2, rfl, e2, h2⟩ := h1.cons_inv
  obtain ⟨x3, r3, rfl, e3, h3⟩ := h2.cons_inv
  obtain ⟨x4, r4, rfl, e4, h4⟩ := h3.cons_inv
  obtain ⟨x5, r5, rfl, e5, h5⟩ := h4.cons_inv
  obtain ⟨x6, r6, rfl, e6, h6⟩ := h5.cons_inv
  obtain ⟨x7, r7, rfl, e7, h7⟩ := h6.cons_inv
  obtain rfl := e1.int_inv
  obtain rfl := e2.str_inv
  obtain ⟨b3, d3, rfl, _⟩ := e3.seq_inv
  obtain ⟨b4, d4, rfl, _⟩ := e4.seq_inv
  obtain ⟨b5, d5, rfl, _⟩ := e5.seq_inv
  obtain ⟨b6, d6, rfl, _⟩ := e6.seq_inv
  obtain rfl := e7.int_inv
  obtain rfl := h7.nil_inv
  simp only [sds_len, List.length_map] at e3 e4 e5 e6 ⊢
  exact ⟨b3, b4, b5, b6, d3, d4, d5, d6, rfl, e3, e4, e5, e6⟩
theorem Fd_open {x : Sd.Fd} {cs : List Value} (h : Reads w P x.d cs) : ∃ (a1 : Option Addr) (c1 : Nat),
    cs = [.string ⟨x.name.toArray⟩, .slice a1 x.args.length c1, .string ⟨x.type.toArray⟩, .int .i64 x.at_] ∧ Reads w P (.seq 9 (x.args.map Sd.In.d)) [.slice a1 x.args.length c1] := by
  unfold Sd.Fd.d at h
  obtain ⟨x1, r1, rfl, e1, h1⟩ := h.obj_inv.cons_inv
  obtain ⟨x2, r2, rfl, e2, h2⟩ := h1.cons_inv
  obtain ⟨x3, r3, rfl, e3, h3⟩ := h2.cons_inv
  obtain ⟨x4, r4, rfl, e4, h4⟩ := h3.cons_inv
  obtain rfl := e1.str_inv
  obtain ⟨b1, d1, rfl, _⟩ := e2.seq_inv
  obtain rfl := e3.str_inv
  obtain rfl := e4.int_inv
  obtain rfl := h4.nil_inv
  simp only [List.length_map] at e2 ⊢
  exact ⟨b1, d1, rfl, e2⟩
theorem V_open {v : Rd.V} {cs : List Value} (h : Reads w P v.d cs) : ∃ (a1 a2 : Option Addr) (c1 c2 : Nat), cs = [.int .i64 v.kind, .string ⟨v.text.toArray⟩, .slice a1 v.items.length c1, .slice a2 v.fields.length c2, .int .i64 v.at_] ∧
    Reads w P (.seq 5 (v.items.map Rd.V.d)) [.slice a1 v.items.length c1] ∧ Reads w P (.seq 7 (v.fields.map Rd.A.d)) [.slice a2 v.fields.length c2] := by
  cases v with
  | mk k t is fs a =>
    unfold Rd.V.d at h
    rw [Rd.V.dl_map, Rd.A.dl_map] at h
    obtain ⟨x1, r1, rfl, e1, h1⟩ := h.obj_inv.cons_inv
    obtain ⟨x2, r2, rfl, e2, h2⟩ := h1.cons_inv
    obtain ⟨x3, r3, rfl, e3, h3⟩ := h2.cons_inv
    obtain ⟨x4, r4, rfl, e4, h4⟩ := h3.cons_inv
    obtain ⟨x5, r5, rfl, e5, h5⟩ := h4.cons_inv
    obtain rfl := e1.int_inv
    obtain rfl := e2.str_inv
    obtain ⟨b3, d3, rfl, _⟩ := e3.seq_inv
    obtain ⟨b4, d4, rfl, _⟩ := e4.seq_inv
    obtain rfl := e5.int_inv
    obtain rfl := h5.nil_inv
    simp only [List.length_map] at e3 e4 ⊢
    exact ⟨b3, b4, d3, d4, rfl, e3, e4⟩
theorem In_open {x : Sd.In} {cs : List Value} (h : Reads w P x.d cs) : ∃ (a1 a2 : Option Addr) (c1 c2 : Nat),
    cs = [.string ⟨x.name.toArray⟩, .string ⟨x.type.toArray⟩, .bool x.has, .int .i64 x.dflt.kind, .string ⟨x.dflt.text.toArray⟩, .slice a1 x.dflt.items.length c1, .slice a2 x.dflt.fields.length c2, .int .i64 x.dflt.at_, .int .i64 x.at_] ∧
    Reads w P (.seq 5 (x.dflt.items.map Rd.V.d)) [.slice a1 x.dflt.items.length c1] ∧ Reads w P (.seq 7 (x.dflt.fields.map Rd.A.d)) [.slice a2 x.dflt.fields.length c2] := by
  unfold Sd.In.d at h
  obtain ⟨x1, r1, rfl, e1, h1⟩ := h.obj_inv.cons_inv
  obtain ⟨x2, r2, rfl, e2, h2⟩ := h1.cons_inv
  obtain ⟨x3, r3, rfl, e3, h3⟩ := h2.cons_inv
  obtain ⟨x4, r4, rfl, e4, h4⟩ := h3.cons_inv
  obtain ⟨x5, r5, rfl, e5, h5⟩ := h4.cons_inv
  obtain rfl := e1.str_inv
  obtain rfl := e2.str_inv
  obtain rfl := e3.bool_inv
  obtain ⟨a1, a2, c1, c2, rfl, k1, k2⟩ := V_open e4
  obtain rfl := e5.int_inv
  obtain rfl := h5.nil_inv
  exact ⟨a1, a2, c1, c2, rfl, k1, k2⟩
end
end Go.Proofs.YtabcaljnpahgpaaDoor
namespace Go.Proofs.YtabcaljnpahgpaaDoor
set_option linter.unusedSimpArgs false
set_option linter.unusedVariables false
open Go Go.RowKit

def sdT1 : List Lx.Tok := [⟨1, [116, 121, 112, 101], 0⟩, ⟨1, [81, 117, 101, 114, 121], 5⟩, ⟨1, [105, 109, 112, 108, 101, 109, 101, 110, 116, 115], 11⟩, ⟨1, [78], 22⟩, ⟨5, [38], 24⟩, ⟨1, [77], 26⟩, ⟨5, [123], 28⟩, ⟨1, [97], 29⟩, ⟨5, [40], 30⟩, ⟨1, [98], 31⟩, ⟨5, [58], 32⟩, ⟨1, [73, 110, 116], 34⟩, ⟨5, [61], 38⟩, ⟨2, [49], 40⟩, ⟨5, [41], 41⟩, ⟨5, [58], 42⟩, ⟨5, [91], 44⟩, ⟨1, [84], 45⟩, ⟨5, [33], 46⟩, ⟨5, [93], 47⟩, ⟨5, [33], 48⟩, ⟨5, [125], 49⟩, ⟨0, [], 50⟩]
def sdT2 : List Lx.Tok := [⟨1, [117, 110, 105, 111, 110], 0⟩, ⟨1, [85], 6⟩, ⟨5, [61], 8⟩, ⟨0, [], 9⟩]
set_option maxRecDepth 100000 in
theorem lex_sd1 : Lx.lex [116, 121, 112, 101, 32, 81, 117, 101, 114, 121, 32, 105, 109, 112, 108, 101, 109, 101, 110, 116, 115, 32, 78, 32, 38, 32, 77, 32, 123, 97, 40, 98, 58, 32, 73, 110, 116, 32, 61, 32, 49, 41, 58, 32, 91, 84, 33, 93, 33, 125] = .ok sdT1 := by
  simp (decide := true) [Lx.lex, Lx.lexGo, Lx.gap, Lx.token, sdT1, Lx.isBlank, Lx.bom, Lx.isLetter, Lx.isDigit, Lx.isWord, Lx.number, Lx.hd, Lx.digits, Lx.numFrac, Lx.numExp, Lx.numEnd, Lx.quotes3, Lx.dots3, Lx.signs]
theorem lex_sd2 : Lx.lex [117, 110, 105, 111, 110, 32, 85, 32, 61] = .ok sdT2 := by
  simp (decide := true) [Lx.lex, Lx.lexGo, Lx.gap, Lx.token, sdT2, Lx.isBlank, Lx.bom, Lx.isLetter, Lx.isDigit, Lx.isWord, Lx.number, Lx.hd, Lx.digits, Lx.numFrac, Lx.numExp, Lx.numEnd, Lx.quotes3, Lx.dots3, Lx.signs]
def sdD1 : Sd.Td := ⟨2, [81, 117, 101, 114, 121], [[78], [77]], [⟨[97], [⟨[98], [73, 110, 116], true, .mk 2 [49] [] [] 40, 31⟩], [91, 84, 33, 93, 33], 29⟩], [], [], 0⟩
theorem parse_sd1 : (Sd.parse [116, 121, 112, 101, 32, 81, 117, 101, 114, 121, 32, 105, 109, 112, 108, 101, 109, 101, 110, 116, 115, 32, 78, 32, 38, 32, 77, 32, 123, 97, 40, 98, 58, 32, 73, 110, 116, 32, 61, 32, 49, 41, 58, 32, 91, 84, 33, 93, 33, 125]).1.err = 0 ∧ (Sd.parse [116, 121, 112, 101, 32, 81, 117, 101, 114, 121, 32, 105, 109, 112, 108, 101, 109, 101, 110, 116, 115, 32, 78, 32, 38, 32, 77, 32, 123, 97, 40, 98, 58, 32, 73, 110, 116, 32, 61, 32, 49, 41, 58, 32, 91, 84, 33, 93, 33, 125]).2 = [sdD1] := by
  have e : Rd.begin_ [116, 121, 112, 101, 32, 81, 117, 101, 114, 121, 32, 105, 109, 112, 108, 101, 109, 101, 110, 116, 115, 32, 78, 32, 38, 32, 77, 32, 123, 97, 40, 98, 58, 32, 73, 110, 116, 32, 61, 32, 49, 41, 58, 32, 91, 84, 33, 93, 33, 125] = ⟨sdT1, 0, 0, 0⟩ := by unfold Rd.begin_; rw [lex_sd1]
  unfold Sd.parse
  rw [e]
  exact ⟨rfl, rfl⟩
theorem parse_sd2 : (Sd.parse [117, 110, 105, 111, 110, 32, 85, 32, 61]).1.err = 41 ∧ (Sd.parse [117, 110, 105, 111, 110, 32, 85, 32, 61]).1.at_ = 9 := by
  have e : Rd.begin_ [117, 110, 105, 111, 110, 32, 85, 32, 61] = ⟨sdT2, 0, 0, 0⟩ := by unfold Rd.begin_; rw [lex_sd2]
  unfold Sd.parse
  rw [e]
  exact ⟨rfl, rfl⟩

set_option maxHeartbeats 1000000 in
set_option maxRecDepth 100000 in
theorem sdAwake_any (w : World) (hE : Env w) (h3 : 3 ≤ w.heap.size) :
    Calls Tryd.prog 6 #[] w (fun e w' => e = .returned (.bool true) ∧ Below w.heap.size w w' ∧ Env w') := by
  have HE := Lib.hid hE
  clear hE
  go_enter Tryd.func6, Tryd.ntmps6
  go_wp2_with fail
  refine (sparse_any _ w (by decide) HE.out h3).mono ?_
  rintro e w1 ⟨hb1, -, hres⟩
  rcases hres with ⟨a, c, he, rfl, hrd⟩ | ⟨he, -⟩
  rotate_left
  · exact absurd parse_sd1.1 he
  rw [show (ByteArray.mk #[116, 121, 112, 101, 32, 81, 117, 101, 114, 121, 32, 105, 109, 112, 108, 101, 109, 101, 110, 116, 115, 32, 78, 32, 38, 32, 77, 32, 123, 97, 40, 98, 58, 32, 73, 110, 116, 32, 61, 32, 49, 41, 58, 32, 91, 84, 33, 93, 33, 125]).data.toList = [116, 121, 112, 101, 32, 81, 117, 101, 114, 121, 32, 105, 109, 112, 108, 101, 109, 101, 110, 116, 115, 32, 78, 32, 38, 32, 77, 32, 123, 97, 40, 98, 58, 32, 73, 110, 116, 32, 61, 32, 49, 41, 58, 32, 91, 84, 33, 93, 33, 125] from rfl, parse_sd1.2] at hrd ⊢
  clear he
  obtain ⟨g, o, cs, rfl, -, hgl, hlen, hcell, hd⟩ := hrd.elem.2 0 sdD1.d rfl
  obtain ⟨a1, a2, a3, a4, c1, c2, c3, c4, rfl, -, hf, -, -⟩ := Td_open hd
  obtain ⟨g2, o2, cs2, rfl, -, hgl2, hlen2, hcell2, hd2⟩ := hf.elem.2 0 (Sd.Fd.d ⟨[97], [⟨[98], [73, 110, 116], true, .mk 2 [49] [] [] 40, 31⟩], [91, 84, 33, 93, 33], 29⟩) rfl
  obtain ⟨b1, d1, rfl, -⟩ := Fd_open hd2
  have HC0 := Lib.hid (hcell 0 _ rfl)
  have HC2 := Lib.hid (hcell 2 _ rfl)
  have HC3 := Lib.hid (hcell 3 _ rfl)
  have HF2 := Lib.hid (hcell2 2 _ rfl)
  have HE1 := Lib.hid (HE.out.below hb1)
  have HB1 := Lib.hid hb1
  have h31 : 3 ≤ w1.heap.size := by have := hb1.size; omega
  clear hrd hcell hd hf hcell2 hd2 hlen hlen2 hb1
  go_wp2_with fail
  refine (sparse_any _ w1 (by decide) HE1.out h31).mono ?_
  rintro e w2 ⟨hb2, -, hres⟩
  rcases hres with ⟨a, c', he, -, -⟩ | ⟨he, rfl⟩
  · rw [show (ByteArray.mk #[117, 110, 105, 111, 110, 32, 85, 32, 61]).data.toList = [117, 110, 105, 111, 110, 32, 85, 32, 61] from rfl, parse_sd2.1] at he
    exact absurd he (by decide)
  rw [show (ByteArray.mk #[117, 110, 105, 111, 110, 32, 85, 32, 61]).data.toList = [117, 110, 105, 111, 110, 32, 85, 32, 61] from rfl, parse_sd2.1, parse_sd2.2]
  have HB2 := Lib.hid hb2
  have k0 : w2.cell? ⟨g, o, none⟩ = some (.int .i64 2) := (hb2.cell (p := ⟨g, o, none⟩) hgl).trans HC0.out
  have k2 : w2.cell? ⟨g, o + 2, none⟩ = some (.slice a1 2 c1) := (hb2.cell (p := ⟨g, o + 2, none⟩) hgl).trans HC2.out
  have k3 : w2.cell? ⟨g, o + 3, none⟩ = some (.slice (some ⟨g2, o2, none⟩) 1 c2) := (hb2.cell (p := ⟨g, o + 3, none⟩) hgl).trans HC3.out
  have k4 : w2.cell? ⟨g2, o2 + 2, none⟩ = some (.string ⟨#[91, 84, 33, 93, 33]⟩) := (hb2.cell (p := ⟨g2, o2 + 2, none⟩) hgl2).trans HF2.out
  clear hb2 he
  go_wp2_with fail
  refine bodyPost_ret (v := .bool true) (by simp [results, Tryd.results6, go_sem]) rfl ?_
  exact ⟨rfl, HB1.out.trans (HB2.out.mono HB1.out.size), HE1.out.below HB2.out⟩
end Go.Proofs.YtabcaljnpahgpaaDoor
namespace Go.Proofs.YtabcaljnpahgpaaDoor
set_option linter.unusedSimpArgs false
set_option linter.unusedVariables false
open Go Go.RowKit

set_option maxHeartbeats 1000000 in
set_option maxRecDepth 100000 in
theorem sdnext_any (t2 t3 : Nat) (last : Int) (s nm : ByteArray) (a : Nat) (w : World) (c2 : w.cell? ⟨t2, 0, none⟩ = some (.int .i64 last)) (c3 : w.cell? ⟨t3, 0, none⟩ = some (.string s)) (f2 : w.frozen? ⟨t2, 0, none⟩ = false)
    (hsz : s.size ≤ 4096) (hl0 : -1 ≤ last) (h1 : last < a) (h2 : a < s.size) (h3 : a + nm.size ≤ s.size) (h4 : s.extract a (a + nm.size) = nm) :
    Calls Tryd.prog 8 #[.int .i64 a, .string nm, .pointer (some ⟨t2, 0, none⟩), .pointer (some ⟨t3, 0, none⟩)] w fun e w' => e = .returned (.bool true) ∧ w' = w.setCell ⟨t2, 0, none⟩ (.int .i64 a) := by
  have e1 : decide (last < (a : Int)) = true := decide_eq_true h1
  have e2 : decide (a < s.size) = true := decide_eq_true h2
  have e3 : decide ((nm.size : Int) ≤ (s.size : Int) - (a : Int)) = true := decide_eq_true (by omega)
  have hi1 : (0 : Int) ≤ (a : Int) := Int.natCast_nonneg _
  have hi3 : (a : Int) ≤ (a : Int) + nm.size := by omega
  have hi4 : (a : Int) + nm.size ≤ s.size := by omega
  have HX := Lib.hid h4
  clear h4
  go_enter Tryd.func8, Tryd.ntmps8
  go_wp2_with fail
  go_ret
  exact ⟨by rw [HX.out]; simp, rfl⟩

/-- Behind the box of 'last': what stood stands, but for that box. -/
structure PW (w1 : World) (t2 : Nat) (last : Int) (w : World) : Prop where
  fr : Fr t2 w1 w
  b : w.heap[t2]? = some (.cells #[.int .i64 last] 3 (0, 0))
section
variable {w1 w w' : World} {t2 : Nat} {last : Int}
theorem PW.c2 (h : PW w1 t2 last w) : w.cell? ⟨t2, 0, none⟩ = some (.int .i64 last) := blk_cell h.b 0 _ rfl
theorem PW.f2 (h : PW w1 t2 last w) : w.frozen? ⟨t2, 0, none⟩ = false := blk_free h.b 0
theorem PW.below (h : PW w1 t2 last w) (hb : Below w.heap.size w w') : PW w1 t2 last w' := ⟨h.fr.trans (But.of_below hb), by rw [hb.block t2 (block_lt h.b)]; exact h.b⟩
theorem PW.alloc (h : PW w1 t2 last w) (o : Obj) : PW w1 t2 last (w.alloc o) := h.below ((Below.refl _ _).alloc (Nat.le_refl _) _)
theorem PW.drewN (h : PW w1 t2 last w) (n : Nat) : PW w1 t2 last (w.drewN n) := ⟨h.fr.drewN n, h.b⟩
theorem PW.drew (h : PW w1 t2 last w) : PW w1 t2 last w.drew := ⟨h.fr.drew, h.b⟩
theorem PW.set (h : PW w1 t2 last w) (a : Int) : PW w1 t2 a (w.setCell ⟨t2, 0, none⟩ (.int .i64 a)) := ⟨Fr.set h.fr _ _, heap_set1 h.b⟩
theorem PW.at (h : PW w1 t2 last w) {g o : Nat} {v : Value} (hc : w1.cell? ⟨g, o, none⟩ = some v) (hn : g ≠ t2) : w.cell? ⟨g, o, none⟩ = some v := by
  rw [h.fr.cell (p := ⟨g, o, none⟩) (cell_lt hc) hn]; exact hc
theorem PW.start (hb : w.heap[t2]? = some (.cells #[.int .i64 last] 3 (0, 0))) : PW w t2 last w := ⟨But.refl _ _, hb⟩
theorem PW.trans {w2 : World} {l2 : Int} (h : PW w1 t2 last w) (k : PW w t2 l2 w2) : PW w1 t2 l2 w2 := ⟨h.fr.trans k.fr, k.b⟩
end
theorem rise_next {s : ByteArray} {last : Int} {a : Nat} {t : List UInt8} {r : List Rd.Pl} (h : Rd.Rise s last ((a, some t) :: r)) : last < a ∧ a < s.size ∧ a + (⟨t.toArray⟩ : ByteArray).size ≤ s.size ∧ s.extract a (a + (⟨t.toArray⟩ : ByteArray).size) = ⟨t.toArray⟩ ∧ Rd.Rise s a r := by
  unfold Rd.Rise at h
  obtain ⟨h1, h2, h3, h4⟩ := h
  obtain ⟨h5, h6⟩ := h3 t rfl
  have hl : (⟨t.toArray⟩ : ByteArray).size = t.length := rfl
  refine ⟨h1, h2, by rw [hl]; exact h5, ?_, h4⟩
  rw [extract_between, hl, show a + t.length - a = t.length by omega, ← h6]
end Go.Proofs.YtabcaljnpahgpaaDoor
namespace Go.Proofs.YtabcaljnpahgpaaDoor
set_option linter.unusedSimpArgs false
set_option linter.unusedVariables false
open Go Go.RowKit

def fstC : Code → Code
  | .seq c _ => c
  | c => c
def inC : Code → Code
  | .block _ c => c
  | .loop c => c
  | c => c
theorem rise_len {s : ByteArray} : ∀ {ps : List Rd.Pl} {last : Int}, Rd.Rise s last ps → -1 ≤ last → last + 1 ≤ s.size → (ps.length : Int) + last + 1 ≤ s.size
  | [], _, _, _, h => by simpa using h
  | (a, x) :: r, last, h, h0, _ => by
    unfold Rd.Rise at h
    obtain ⟨h1, h2, h3, h4⟩ := h
    have := rise_len h4 (by omega) (by omega)
    simp only [List.length_cons]
    omega
theorem flat_len {α : Type} (f : α → List Rd.Pl) (hf : ∀ x, f x ≠ []) : ∀ xs : List α, xs.length ≤ (xs.flatMap f).length
  | [] => Nat.le_refl _
  | x :: xs => by
    have := flat_len f hf xs
    have := List.length_pos_iff.2 (hf x)
    rw [List.flatMap_cons, List.length_append, List.length_cons]
    omega
theorem rise_list {α : Type} {s : ByteArray} {last : Int} (f : α → List Rd.Pl) (hf : ∀ x, f x ≠ []) {xs : List α} {R : List Rd.Pl} (h : Rd.Rise s last (xs.flatMap f ++ R)) (h0 : -1 ≤ last) (hs : s.size ≤ 4096) : xs.length ≤ 4097 := by
  have h1 := flat_len f hf xs
  rcases Int.lt_or_le s.size (last + 1) with h2 | h2
  · cases hx : xs.flatMap f ++ R with
    | nil =>
      have : (xs.flatMap f).length = 0 := by rw [(List.append_eq_nil_iff.1 hx).1]; rfl
      omega
    | cons p r =>
      rw [hx] at h
      obtain ⟨a, x⟩ := p
      unfold Rd.Rise at h
      omega
  · have := rise_len h h0 h2
    rw [List.length_append] at this
    omega
noncomputable def plTop : Code := (Tryd.f3.body.map (fun c => sndC (sndC (sndC (sndC (sndC (sndC (sndC c)))))))).getD .skip
noncomputable def plB1 : Code := inC (fstC (sndC (sndC (inC (inC (sndC (fstC plTop)))))))
noncomputable def plF : Code := inC (sndC (fstC (sndC (sndC plB1))))
noncomputable def plI : Code := inC (sndC (sndC (sndC (sndC plB1))))
noncomputable def plB3 : Code := inC (fstC (sndC (sndC (inC plF))))
noncomputable def plA : Code := inC (sndC (sndC (sndC plB3)))

set_option maxHeartbeats 2000000 in
set_option maxRecDepth 100000 in
theorem args_part (s : ByteArray) (bs : Nat) (wE : World) (t2 : Nat) (l : Int) (ef : Nat) (xs : List Sd.In) (a : Option Addr) (c : Nat) (R : List Rd.Pl) (wF : World) (hs : s.size ≤ 4096) (HSE : Hid (wE.cell? ⟨bs, 0, none⟩ = some (.string s))) (hbs : bs ≠ t2)
    (HRE : Hid (Reads wE (fun x => x < t2) (.seq 9 (xs.map Sd.In.d)) [.slice a xs.length c])) (HP : Hid (PW wE t2 l wF)) (hl : -1 ≤ l) (HR : Hid (Rd.Rise s l (xs.flatMap Sd.In.pl ++ R))) (HOK : Hid (∀ x ∈ xs, x.ok))
    (Q : Exit → Act → World → Prop) (c0 c1 c2 c3 c4 c5 c6 c8 c9 c10 c11 c13 c14 c15 c16 c17 c18 c19 c20 c21 c22 c23 c24 c25 c26 c27 c28 c29 c30 c31 c32 c33 c34 c35 c36 c37 c38 c39 c40 c41 c42 c43 c44 c45 c46 c47 c48 c49 c50 c51 c52 c53 c54 c55 c56 c57 c58 c59 c60 c61 c62 c63 c64 c65 c66 c67 c68 c69 c70 c71 c72 c73 c74 c75 c76 c77 c78 c79 c80 c81 c82 c83 c84 c85 c86 c87 c91 c92 c93 c94 c95 c96 c97 c98 c99 c100 c101 c102 c103 c104 c105 c106 c107 c108 c109 c110 c111 c112 c113 c114 c115 c116 c117 c118 c119 c120 c121 c122 c123 c124 c125 c126 c127 c128 c129 c130 c131 c132 c133 c134 c135 : Value) (HQ : Hid (∀ (u2 u14 u90 u91 u92 u93 u94 u95 u96 u97 u98 u99 u100 u101 u102 u103 u104 u105 u106 u107 u108 u109 u110 : Value) (l' : Int) (w' : World), -1 ≤ l' → PW wF t2 l' w' → Rd.Rise s l' R → Q .normal ⟨#[c0, c1, u2, c3, c4, c5, c6, .func (.func 8) #[] #[.pointer (some ⟨t2, 0, none⟩), .pointer (some ⟨bs, 0, none⟩)], c8, c9, c10, c11, .pointer (some ⟨ef, 0, none⟩), c13, u14, c15, c16, c17, c18, c19, c20, c21, c22, c23, c24, c25, c26, c27, c28, c29, c30, c31, c32, c33, c34, c35, c36, c37, c38, c39, c40, c41, c42, c43, c44, c45, c46, c47, c48, c49, c50, c51, c52, c53, c54, c55, c56, c57, c58, c59, c60, c61, c62, c63, c64, c65, c66, c67, c68, c69, c70, c71, c72, c73, c74, c75, c76, c77, c78, c79, c80, c81, c82, c83, c84, c85, c86, c87, .slice a xs.length c, .int .i64 xs.length, u90, u91, u92, u93, u94, u95, u96, u97, u98, u99, u100, u101, u102, u103, u104, u105, u106, u107, u108, u109, u110, c111, c112, c113, c114, c115, c116, c117, c118, c119, c120, c121, c122, c123, c124, c125, c126, c127, c128, c129, c130, c131, c132, c133, c134, c135], []⟩ w')) :
    Code.wp Tryd.prog plA (Exit.inBlock 4 Q) ⟨#[c0, c1, c2, c3, c4, c5, c6, .func (.func 8) #[] #[.pointer (some ⟨t2, 0, none⟩), .pointer (some ⟨bs, 0, none⟩)], c8, c9, c10, c11, .pointer (some ⟨ef, 0, none⟩), c13, c14, c15, c16, c17, c18, c19, c20, c21, c22, c23, c24, c25, c26, c27, c28, c29, c30, c31, c32, c33, c34, c35, c36, c37, c38, c39, c40, c41, c42, c43, c44, c45, c46, c47, c48, c49, c50, c51, c52, c53, c54, c55, c56, c57, c58, c59, c60, c61, c62, c63, c64, c65, c66, c67, c68, c69, c70, c71, c72, c73, c74, c75, c76, c77, c78, c79, c80, c81, c82, c83, c84, c85, c86, c87, .slice a xs.length c, .int .i64 xs.length, .int .i64 (0 : Nat), c91, c92, c93, c94, c95, c96, c97, c98, c99, c100, c101, c102, c103, c104, c105, c106, c107, c108, c109, c110, c111, c112, c113, c114, c115, c116, c117, c118, c119, c120, c121, c122, c123, c124, c125, c126, c127, c128, c129, c130, c131, c132, c133, c134, c135], []⟩ wF := by
  have hxb : xs.length ≤ 4097 := rise_list Sd.In.pl (fun x => by unfold Sd.In.pl; simp) HR.out hl hs
  conv => arg 2; whnf
  conv => arg 4; zeta
  go_loopg [90] (xs.length + 1) (fun k i wr => ∃ (j : Nat) (l2 : Int), k = xs.length + 1 - j ∧ j ≤ xs.length ∧ i = .int .i64 j ∧ -1 ≤ l2 ∧ PW wF t2 l2 wr ∧ Rd.Rise s l2 ((xs.drop j).flatMap Sd.In.pl ++ R))
  case atStart => exact ⟨0, l, rfl, Nat.zero_le _, rfl, hl, PW.start HP.out.b, HR.out⟩
  case round =>
    obtain ⟨j, l2, hk, hj, rfl, hl2, hP2, hR2⟩ := hrel
    have HP2 := Lib.hid hP2
    have HPE := Lib.hid (HP.out.trans hP2)
    have HR2 := Lib.hid hR2
    have HK := Lib.hid hk
    clear hP2 hR2 hk
    by_cases hjl : j < xs.length
    · have e4 : decide (j < xs.length) = true := decide_eq_true hjl
      obtain ⟨x, hx⟩ : ∃ z, xs[j]? = some z := ⟨xs[j], List.getElem?_eq_getElem hjl⟩
      have hdr : xs.drop j = x :: xs.drop (j + 1) := by rw [List.drop_eq_getElem_cons hjl]; rw [List.getElem?_eq_getElem hjl] at hx; rw [Option.some.inj hx]
      have hR3 := HR2.out
      rw [hdr, List.flatMap_cons, List.append_assoc] at hR3
      have hok := HOK.out x (List.mem_of_getElem? hx)
      obtain ⟨g, o, cs, ha, hgt, hgl, hlen, hcell, hd⟩ := HRE.out.elem.2 j (Sd.In.d x) (by rw [List.getElem?_map, hx]; rfl)
      obtain ⟨a1, a2, d1, d2, rfl, -, -⟩ := In_open hd
      subst ha
      have hgn : g ≠ t2 := by omega
      have k0 : wr.cell? ⟨g, o + j * 9, none⟩ = _ := HPE.out.at (hcell 0 _ rfl) hgn
      have k1 := HPE.out.at (hcell 1 _ rfl) hgn
      have k2 := HPE.out.at (hcell 2 _ rfl) hgn
      have k3 := HPE.out.at (hcell 3 _ rfl) hgn
      have k4 := HPE.out.at (hcell 4 _ rfl) hgn
      have k5 := HPE.out.at (hcell 5 _ rfl) hgn
      have k6 := HPE.out.at (hcell 6 _ rfl) hgn
      have k7 := HPE.out.at (hcell 7 _ rfl) hgn
      have k8 := HPE.out.at (hcell 8 _ rfl) hgn
      have HR3 := Lib.hid hR3
      have HX := Lib.hid hok
      clear hx hdr hR3 hok hlen hcell hd HR2
      have hn := rise_next HR3.out
      obtain ⟨n1, n2, n3, n4, n5⟩ := hn
      have HN4 := Lib.hid n4
      have HR4 := Lib.hid n5
      have hP6 := HPE.out.alloc (.cells #[.string ⟨x.name.toArray⟩, .string ⟨x.type.toArray⟩, .bool x.has, .int .i64 x.dflt.kind, .string ⟨x.dflt.text.toArray⟩, .slice a1 x.dflt.items.length d1, .slice a2 x.dflt.fields.length d2, .int .i64 x.dflt.at_, .int .i64 x.at_] 41)
      have HCALL := Lib.hid (sdnext_any t2 bs l2 s ⟨x.name.toArray⟩ x.at_ (wr.alloc (.cells #[.string ⟨x.name.toArray⟩, .string ⟨x.type.toArray⟩, .bool x.has, .int .i64 x.dflt.kind, .string ⟨x.dflt.text.toArray⟩, .slice a1 x.dflt.items.length d1, .slice a2 x.dflt.fields.length d2, .int .i64 x.dflt.at_, .int .i64 x.at_] 41)) hP6.c2 (hP6.at HSE.out hbs) hP6.f2 hs hl2 n1 n2 n3 HN4.out)
      have HP8 := Lib.hid ((HP2.out.alloc (.cells #[.string ⟨x.name.toArray⟩, .string ⟨x.type.toArray⟩, .bool x.has, .int .i64 x.dflt.kind, .string ⟨x.dflt.text.toArray⟩, .slice a1 x.dflt.items.length d1, .slice a2 x.dflt.fields.length d2, .int .i64 x.dflt.at_, .int .i64 x.at_] 41)).set x.at_)
      have het : wr.heap.size ≠ t2 := by have := block_lt HP2.out.b; omega
      have HEF : Hid (((wr.alloc (.cells #[.string ⟨x.name.toArray⟩, .string ⟨x.type.toArray⟩, .bool x.has, .int .i64 x.dflt.kind, .string ⟨x.dflt.text.toArray⟩, .slice a1 x.dflt.items.length d1, .slice a2 x.dflt.fields.length d2, .int .i64 x.dflt.at_, .int .i64 x.at_] 41)).setCell ⟨t2, 0, none⟩ (.int .i64 x.at_)).heap[wr.heap.size]? = some (.cells #[.string ⟨x.name.toArray⟩, .string ⟨x.type.toArray⟩, .bool x.has, .int .i64 x.dflt.kind, .string ⟨x.dflt.text.toArray⟩, .slice a1 x.dflt.items.length d1, .slice a2 x.dflt.fields.length d2, .int .i64 x.dflt.at_, .int .i64 x.at_] 41 (0, 0))) := by rw [heap_set_ne het]; exact Lib.hid (heap_at_new _ _)
      clear n4 n5 hP6
      go_wp2_with fail
      refine HCALL.out.mono ?_
      rintro e' w' ⟨rfl, rfl⟩
      obtain ⟨wG, hwG⟩ : ∃ z, z = ((wr.alloc (.cells #[.string ⟨x.name.toArray⟩, .string ⟨x.type.toArray⟩, .bool x.has, .int .i64 x.dflt.kind, .string ⟨x.dflt.text.toArray⟩, .slice a1 x.dflt.items.length d1, .slice a2 x.dflt.fields.length d2, .int .i64 x.dflt.at_, .int .i64 x.at_] 41)).setCell ⟨t2, 0, none⟩ (.int .i64 x.at_)) := ⟨_, rfl⟩
      rw [← hwG] at HP8 HEF ⊢
      clear hwG HCALL k0 k1 k2 k3 k4 k5 k6 k7 k8
      have p3 : wG.cell? ⟨wr.heap.size, 3, none⟩ = some (.int .i64 x.dflt.kind) := blk_cell HEF.out 3 _ rfl
      by_cases hkz : x.dflt.kind = 0
      · have hh : x.has = false := by rw [HX.out.2]; exact decide_eq_false (fun h => h hkz)
        have p2 : wG.cell? ⟨wr.heap.size, 2, none⟩ = some (.bool false) := by have := blk_cell HEF.out 2 (.bool x.has) rfl; rw [this, hh]
        have e7 : ((x.dflt.kind : Int) != 0) = false := neF (by omega)
        clear hh hkz
        go_wp2_with fail
        go_roundg (xs.length + 1 - (j + 1))
        case measure => rw [HK.out]; omega
        case rel => exact ⟨j + 1, x.at_, rfl, by omega, by go_num, by omega, HP8.out, HR4.out⟩
      · have hh : x.has = true := by rw [HX.out.2]; exact decide_eq_true hkz
        have p2 : wG.cell? ⟨wr.heap.size, 2, none⟩ = some (.bool true) := by have := blk_cell HEF.out 2 (.bool x.has) rfl; rw [this, hh]
        have e7 : ((x.dflt.kind : Int) != 0) = true := neT (by omega)
        clear hh hkz
        go_wp2_with fail
        go_roundg (xs.length + 1 - (j + 1))
        case measure => rw [HK.out]; omega
        case rel => exact ⟨j + 1, x.at_, rfl, by omega, by go_num, by omega, HP8.out, HR4.out⟩
    · have hje : j = xs.length := by omega
      have e4 : decide (j < xs.length) = false := decide_eq_false hjl
      have HF2 := Lib.hid (show (xs.drop j).flatMap Sd.In.pl ++ R = R by rw [hje, List.drop_length]; rfl)
      clear hje
      go_wp2_with fail
      exact HQ.out _ _ _ _ _ _ _ _ _ _ _ _ _ _ _ _ _ _ _ _ _ _ _ l2 wr hl2 HP2.out (by rw [← HF2.out]; exact HR2.out)

set_option maxHeartbeats 2000000 in
set_option maxRecDepth 100000 in
theorem inputs_part (s : ByteArray) (bs : Nat) (wE : World) (t2 : Nat) (l : Int) (ef : Nat) (xs : List Sd.In) (a : Option Addr) (c : Nat) (R : List Rd.Pl) (wF : World) (hs : s.size ≤ 4096) (HSE : Hid (wE.cell? ⟨bs, 0, none⟩ = some (.string s))) (hbs : bs ≠ t2)
    (HRE : Hid (Reads wE (fun x => x < t2) (.seq 9 (xs.map Sd.In.d)) [.slice a xs.length c])) (HP : Hid (PW wE t2 l wF)) (hl : -1 ≤ l) (HR : Hid (Rd.Rise s l (xs.flatMap Sd.In.pl ++ R))) (HOK : Hid (∀ x ∈ xs, x.ok))
    (Q : Exit → Act → World → Prop) (c0 c1 c2 c3 c4 c5 c6 c8 c9 c11 c12 c13 c14 c15 c16 c17 c18 c19 c20 c21 c22 c23 c24 c25 c26 c27 c28 c29 c30 c31 c32 c33 c34 c35 c36 c37 c38 c39 c40 c41 c42 c43 c44 c45 c46 c47 c48 c49 c50 c51 c52 c53 c54 c55 c56 c57 c58 c59 c60 c61 c62 c63 c64 c65 c66 c67 c68 c69 c70 c71 c72 c73 c74 c75 c76 c77 c78 c79 c80 c81 c82 c83 c84 c85 c86 c87 c88 c89 c90 c91 c92 c93 c94 c95 c96 c97 c98 c99 c100 c101 c102 c103 c104 c105 c106 c107 c108 c109 c110 c111 c112 c116 c117 c118 c119 c120 c121 c122 c123 c124 c125 c126 c127 c128 c129 c130 c131 c132 c133 c134 c135 : Value) (HQ : Hid (∀ (u2 u16 u115 u116 u117 u118 u119 u120 u121 u122 u123 u124 u125 u126 u127 u128 u129 u130 u131 : Value) (l' : Int) (w' : World), -1 ≤ l' → PW wF t2 l' w' → Rd.Rise s l' R → Q .normal ⟨#[c0, c1, u2, c3, c4, c5, c6, .func (.func 8) #[] #[.pointer (some ⟨t2, 0, none⟩), .pointer (some ⟨bs, 0, none⟩)], c8, c9, .pointer (some ⟨ef, 0, none⟩), c11, c12, c13, c14, c15, u16, c17, c18, c19, c20, c21, c22, c23, c24, c25, c26, c27, c28, c29, c30, c31, c32, c33, c34, c35, c36, c37, c38, c39, c40, c41, c42, c43, c44, c45, c46, c47, c48, c49, c50, c51, c52, c53, c54, c55, c56, c57, c58, c59, c60, c61, c62, c63, c64, c65, c66, c67, c68, c69, c70, c71, c72, c73, c74, c75, c76, c77, c78, c79, c80, c81, c82, c83, c84, c85, c86, c87, c88, c89, c90, c91, c92, c93, c94, c95, c96, c97, c98, c99, c100, c101, c102, c103, c104, c105, c106, c107, c108, c109, c110, c111, c112, .slice a xs.length c, .int .i64 xs.length, u115, u116, u117, u118, u119, u120, u121, u122, u123, u124, u125, u126, u127, u128, u129, u130, u131, c132, c133, c134, c135], []⟩ w')) :
    Code.wp Tryd.prog plI (Exit.inBlock 6 Q) ⟨#[c0, c1, c2, c3, c4, c5, c6, .func (.func 8) #[] #[.pointer (some ⟨t2, 0, none⟩), .pointer (some ⟨bs, 0, none⟩)], c8, c9, .pointer (some ⟨ef, 0, none⟩), c11, c12, c13, c14, c15, c16, c17, c18, c19, c20, c21, c22, c23, c24, c25, c26, c27, c28, c29, c30, c31, c32, c33, c34, c35, c36, c37, c38, c39, c40, c41, c42, c43, c44, c45, c46, c47, c48, c49, c50, c51, c52, c53, c54, c55, c56, c57, c58, c59, c60, c61, c62, c63, c64, c65, c66, c67, c68, c69, c70, c71, c72, c73, c74, c75, c76, c77, c78, c79, c80, c81, c82, c83, c84, c85, c86, c87, c88, c89, c90, c91, c92, c93, c94, c95, c96, c97, c98, c99, c100, c101, c102, c103, c104, c105, c106, c107, c108, c109, c110, c111, c112, .slice a xs.length c, .int .i64 xs.length, .int .i64 (0 : Nat), c116, c117, c118, c119, c120, c121, c122, c123, c124, c125, c126, c127, c128, c129, c130, c131, c132, c133, c134, c135], []⟩ wF := by
  have hxb : xs.length ≤ 4097 := rise_list Sd.In.pl (fun x => by unfold Sd.In.pl; simp) HR.out hl hs
  conv => arg 2; whnf
  conv => arg 4; zeta
  go_loopg [115] (xs.length + 1) (fun k i wr => ∃ (j : Nat) (l2 : Int), k = xs.length + 1 - j ∧ j ≤ xs.length ∧ i = .int .i64 j ∧ -1 ≤ l2 ∧ PW wF t2 l2 wr ∧ Rd.Rise s l2 ((xs.drop j).flatMap Sd.In.pl ++ R))
  case atStart => exact ⟨0, l, rfl, Nat.zero_le _, rfl, hl, PW.start HP.out.b, HR.out⟩
  case round =>
    obtain ⟨j, l2, hk, hj, rfl, hl2, hP2, hR2⟩ := hrel
    have HP2 := Lib.hid hP2
    have HPE := Lib.hid (HP.out.trans hP2)
    have HR2 := Lib.hid hR2
    have HK := Lib.hid hk
    clear hP2 hR2 hk
    by_cases hjl : j < xs.length
    · have e4 : decide (j < xs.length) = true := decide_eq_true hjl
      obtain ⟨x, hx⟩ : ∃ z, xs[j]? = some z := ⟨xs[j], List.getElem?_eq_getElem hjl⟩
      have hdr : xs.drop j = x :: xs.drop (j + 1) := by rw [List.drop_eq_getElem_cons hjl]; rw [List.getElem?_eq_getElem hjl] at hx; rw [Option.some.inj hx]
      have hR3 := HR2.out
      rw [hdr, List.flatMap_cons, List.append_assoc] at hR3
      have hok := HOK.out x (List.mem_of_getElem? hx)
      obtain ⟨g, o, cs, ha, hgt, hgl, hlen, hcell, hd⟩ := HRE.out.elem.2 j (Sd.In.d x) (by rw [List.getElem?_map, hx]; rfl)
      obtain ⟨a1, a2, d1, d2, rfl, -, -⟩ := In_open hd
      subst ha
      have hgn : g ≠ t2 := by omega
      have k0 : wr.cell? ⟨g, o + j * 9, none⟩ = _ := HPE.out.at (hcell 0 _ rfl) hgn
      have k1 := HPE.out.at (hcell 1 _ rfl) hgn
      have k2 := HPE.out.at (hcell 2 _ rfl) hgn
      have k3 := HPE.out.at (hcell 3 _ rfl) hgn
      have k4 := HPE.out.at (hcell 4 _ rfl) hgn
      have k5 := HPE.out.at (hcell 5 _ rfl) hgn
      have k6 := HPE.out.at (hcell 6 _ rfl) hgn
      have k7 := HPE.out.at (hcell 7 _ rfl) hgn
      have k8 := HPE.out.at (hcell 8 _ rfl) hgn
      have HR3 := Lib.hid hR3
      have HX := Lib.hid hok
      clear hx hdr hR3 hok hlen hcell hd HR2
      have hn := rise_next HR3.out
      obtain ⟨n1, n2, n3, n4, n5⟩ := hn
      have HN4 := Lib.hid n4
      have HR4 := Lib.hid n5
      have hP6 := HPE.out.alloc (.cells #[.string ⟨x.name.toArray⟩, .string ⟨x.type.toArray⟩, .bool x.has, .int .i64 x.dflt.kind, .string ⟨x.dflt.text.toArray⟩, .slice a1 x.dflt.items.length d1, .slice a2 x.dflt.fields.length d2, .int .i64 x.dflt.at_, .int .i64 x.at_] 41)
      have HCALL := Lib.hid (sdnext_any t2 bs l2 s ⟨x.name.toArray⟩ x.at_ (wr.alloc (.cells #[.string ⟨x.name.toArray⟩, .string ⟨x.type.toArray⟩, .bool x.has, .int .i64 x.dflt.kind, .string ⟨x.dflt.text.toArray⟩, .slice a1 x.dflt.items.length d1, .slice a2 x.dflt.fields.length d2, .int .i64 x.dflt.at_, .int .i64 x.at_] 41)) hP6.c2 (hP6.at HSE.out hbs) hP6.f2 hs hl2 n1 n2 n3 HN4.out)
      have HP8 := Lib.hid ((HP2.out.alloc (.cells #[.string ⟨x.name.toArray⟩, .string ⟨x.type.toArray⟩, .bool x.has, .int .i64 x.dflt.kind, .string ⟨x.dflt.text.toArray⟩, .slice a1 x.dflt.items.length d1, .slice a2 x.dflt.fields.length d2, .int .i64 x.dflt.at_, .int .i64 x.at_] 41)).set x.at_)
      have het : wr.heap.size ≠ t2 := by have := block_lt HP2.out.b; omega
      have HEF : Hid (((wr.alloc (.cells #[.string ⟨x.name.toArray⟩, .string ⟨x.type.toArray⟩, .bool x.has, .int .i64 x.dflt.kind, .string ⟨x.dflt.text.toArray⟩, .slice a1 x.dflt.items.length d1, .slice a2 x.dflt.fields.length d2, .int .i64 x.dflt.at_, .int .i64 x.at_] 41)).setCell ⟨t2, 0, none⟩ (.int .i64 x.at_)).heap[wr.heap.size]? = some (.cells #[.string ⟨x.name.toArray⟩, .string ⟨x.type.toArray⟩, .bool x.has, .int .i64 x.dflt.kind, .string ⟨x.dflt.text.toArray⟩, .slice a1 x.dflt.items.length d1, .slice a2 x.dflt.fields.length d2, .int .i64 x.dflt.at_, .int .i64 x.at_] 41 (0, 0))) := by rw [heap_set_ne het]; exact Lib.hid (heap_at_new _ _)
      have ety : x.type.isEmpty = false := by have := HX.out.1; cases h : x.type with | nil => exact absurd h this | cons _ _ => rfl
      clear n4 n5 hP6
      go_wp2_with fail
      refine HCALL.out.mono ?_
      rintro e' w' ⟨rfl, rfl⟩
      obtain ⟨wG, hwG⟩ : ∃ z, z = ((wr.alloc (.cells #[.string ⟨x.name.toArray⟩, .string ⟨x.type.toArray⟩, .bool x.has, .int .i64 x.dflt.kind, .string ⟨x.dflt.text.toArray⟩, .slice a1 x.dflt.items.length d1, .slice a2 x.dflt.fields.length d2, .int .i64 x.dflt.at_, .int .i64 x.at_] 41)).setCell ⟨t2, 0, none⟩ (.int .i64 x.at_)) := ⟨_, rfl⟩
      rw [← hwG] at HP8 HEF ⊢
      clear hwG HCALL k0 k1 k2 k3 k4 k5 k6 k7 k8
      have p1 : wG.cell? ⟨wr.heap.size, 1, none⟩ = some (.string ⟨x.type.toArray⟩) := blk_cell HEF.out 1 _ rfl
      go_wp2_with fail
      go_roundg (xs.length + 1 - (j + 1))
      case measure => rw [HK.out]; omega
      case rel => exact ⟨j + 1, x.at_, rfl, by omega, by go_num, by omega, HP8.out, HR4.out⟩
    · have hje : j = xs.length := by omega
      have e4 : decide (j < xs.length) = false := decide_eq_false hjl
      have HF2 := Lib.hid (show (xs.drop j).flatMap Sd.In.pl ++ R = R by rw [hje, List.drop_length]; rfl)
      clear hje
      go_wp2_with fail
      exact HQ.out _ _ _ _ _ _ _ _ _ _ _ _ _ _ _ _ _ _ _ l2 wr hl2 HP2.out (by rw [← HF2.out]; exact HR2.out)

set_option maxHeartbeats 2000000 in
set_option maxRecDepth 100000 in
theorem fields_part (s : ByteArray) (bs : Nat) (wE : World) (t2 : Nat) (l : Int) (ef : Nat) (xs : List Sd.Fd) (a : Option Addr) (c : Nat) (R : List Rd.Pl) (wF : World) (hs : s.size ≤ 4096) (HSE : Hid (wE.cell? ⟨bs, 0, none⟩ = some (.string s))) (hbs : bs ≠ t2)
    (HRE : Hid (Reads wE (fun x => x < t2) (.seq 4 (xs.map Sd.Fd.d)) [.slice a xs.length c])) (HP : Hid (PW wE t2 l wF)) (hl : -1 ≤ l) (HR : Hid (Rd.Rise s l (xs.flatMap Sd.Fd.pl ++ R))) (HOK : Hid (∀ x ∈ xs, x.ok))
    (Q : Exit → Act → World → Prop) (c0 c1 c2 c3 c4 c5 c6 c8 c9 c11 c12 c13 c14 c15 c16 c17 c18 c19 c20 c21 c22 c23 c24 c25 c26 c27 c28 c29 c30 c31 c32 c33 c34 c35 c36 c37 c38 c39 c40 c41 c42 c43 c44 c45 c46 c47 c48 c49 c50 c51 c52 c53 c54 c55 c56 c57 c58 c59 c60 c61 c62 c63 c64 c65 c66 c67 c68 c72 c73 c74 c75 c76 c77 c78 c79 c80 c81 c82 c83 c84 c85 c86 c87 c88 c89 c90 c91 c92 c93 c94 c95 c96 c97 c98 c99 c100 c101 c102 c103 c104 c105 c106 c107 c108 c109 c110 c111 c112 c113 c114 c115 c116 c117 c118 c119 c120 c121 c122 c123 c124 c125 c126 c127 c128 c129 c130 c131 c132 c133 c134 c135 : Value) (HQ : Hid (∀ (u2 u12 u14 u71 u72 u73 u74 u75 u76 u77 u78 u79 u80 u81 u82 u83 u84 u85 u86 u87 u88 u89 u90 u91 u92 u93 u94 u95 u96 u97 u98 u99 u100 u101 u102 u103 u104 u105 u106 u107 u108 u109 u110 u111 : Value) (l' : Int) (w' : World), -1 ≤ l' → PW wF t2 l' w' → Rd.Rise s l' R → Q .normal ⟨#[c0, c1, u2, c3, c4, c5, c6, .func (.func 8) #[] #[.pointer (some ⟨t2, 0, none⟩), .pointer (some ⟨bs, 0, none⟩)], c8, c9, .pointer (some ⟨ef, 0, none⟩), c11, u12, c13, u14, c15, c16, c17, c18, c19, c20, c21, c22, c23, c24, c25, c26, c27, c28, c29, c30, c31, c32, c33, c34, c35, c36, c37, c38, c39, c40, c41, c42, c43, c44, c45, c46, c47, c48, c49, c50, c51, c52, c53, c54, c55, c56, c57, c58, c59, c60, c61, c62, c63, c64, c65, c66, c67, c68, .slice a xs.length c, .int .i64 xs.length, u71, u72, u73, u74, u75, u76, u77, u78, u79, u80, u81, u82, u83, u84, u85, u86, u87, u88, u89, u90, u91, u92, u93, u94, u95, u96, u97, u98, u99, u100, u101, u102, u103, u104, u105, u106, u107, u108, u109, u110, u111, c112, c113, c114, c115, c116, c117, c118, c119, c120, c121, c122, c123, c124, c125, c126, c127, c128, c129, c130, c131, c132, c133, c134, c135], []⟩ w')) :
    Code.wp Tryd.prog plF (Exit.inBlock 2 Q) ⟨#[c0, c1, c2, c3, c4, c5, c6, .func (.func 8) #[] #[.pointer (some ⟨t2, 0, none⟩), .pointer (some ⟨bs, 0, none⟩)], c8, c9, .pointer (some ⟨ef, 0, none⟩), c11, c12, c13, c14, c15, c16, c17, c18, c19, c20, c21, c22, c23, c24, c25, c26, c27, c28, c29, c30, c31, c32, c33, c34, c35, c36, c37, c38, c39, c40, c41, c42, c43, c44, c45, c46, c47, c48, c49, c50, c51, c52, c53, c54, c55, c56, c57, c58, c59, c60, c61, c62, c63, c64, c65, c66, c67, c68, .slice a xs.length c, .int .i64 xs.length, .int .i64 (0 : Nat), c72, c73, c74, c75, c76, c77, c78, c79, c80, c81, c82, c83, c84, c85, c86, c87, c88, c89, c90, c91, c92, c93, c94, c95, c96, c97, c98, c99, c100, c101, c102, c103, c104, c105, c106, c107, c108, c109, c110, c111, c112, c113, c114, c115, c116, c117, c118, c119, c120, c121, c122, c123, c124, c125, c126, c127, c128, c129, c130, c131, c132, c133, c134, c135], []⟩ wF := by
  have hxb : xs.length ≤ 4097 := rise_list Sd.Fd.pl (fun x => by unfold Sd.Fd.pl; simp) HR.out hl hs
  conv => arg 2; whnf
  conv => arg 4; zeta
  go_loopg [71] (xs.length + 1) (fun k i wr => ∃ (j : Nat) (l2 : Int), k = xs.length + 1 - j ∧ j ≤ xs.length ∧ i = .int .i64 j ∧ -1 ≤ l2 ∧ PW wF t2 l2 wr ∧ Rd.Rise s l2 ((xs.drop j).flatMap Sd.Fd.pl ++ R))
  case atStart => exact ⟨0, l, rfl, Nat.zero_le _, rfl, hl, PW.start HP.out.b, HR.out⟩
  case round =>
    obtain ⟨j, l2, hk, hj, rfl, hl2, hP2, hR2⟩ := hrel
    have HP2 := Lib.hid hP2
    have HPE := Lib.hid (HP.out.trans hP2)
    have HR2 := Lib.hid hR2
    have HK := Lib.hid hk
    clear hP2 hR2 hk
    by_cases hjl : j < xs.length
    · have e4 : decide (j < xs.length) = true := decide_eq_true hjl
      obtain ⟨x, hx⟩ : ∃ z, xs[j]? = some z := ⟨xs[j], List.getElem?_eq_getElem hjl⟩
      have hdr : xs.drop j = x :: xs.drop (j + 1) := by rw [List.drop_eq_getElem_cons hjl]; rw [List.getElem?_eq_getElem hjl] at hx; rw [Option.some.inj hx]
      have hR3 := HR2.out
      rw [hdr, List.flatMap_cons, List.append_assoc] at hR3
      have hok := HOK.out x (List.mem_of_getElem? hx)
      obtain ⟨g, o, cs, ha, hgt, hgl, hlen, hcell, hd⟩ := HRE.out.elem.2 j (Sd.Fd.d x) (by rw [List.getElem?_map, hx]; rfl)
      obtain ⟨b1, d1, rfl, har⟩ := Fd_open hd
      subst ha
      have hgn : g ≠ t2 := by omega
      have k0 : wr.cell? ⟨g, o + j * 4, none⟩ = _ := HPE.out.at (hcell 0 _ rfl) hgn
      have k1 := HPE.out.at (hcell 1 _ rfl) hgn
      have k2 := HPE.out.at (hcell 2 _ rfl) hgn
      have k3 := HPE.out.at (hcell 3 _ rfl) hgn
      have HR3 := Lib.hid hR3
      have HX := Lib.hid hok
      clear hx hdr hR3 hok hlen hcell hd HR2
      have hn := rise_next HR3.out
      obtain ⟨n1, n2, n3, n4, n5⟩ := hn
      have HN4 := Lib.hid n4
      have HR4 := Lib.hid n5
      have hP6 := HPE.out.alloc (.cells #[.string ⟨x.name.toArray⟩, .slice b1 x.args.length d1, .string ⟨x.type.toArray⟩, .int .i64 x.at_] 35)
      have HCALL := Lib.hid (sdnext_any t2 bs l2 s ⟨x.name.toArray⟩ x.at_ (wr.alloc (.cells #[.string ⟨x.name.toArray⟩, .slice b1 x.args.length d1, .string ⟨x.type.toArray⟩, .int .i64 x.at_] 35)) hP6.c2 (hP6.at HSE.out hbs) hP6.f2 hs hl2 n1 n2 n3 HN4.out)
      have HP8 := Lib.hid ((HP2.out.alloc (.cells #[.string ⟨x.name.toArray⟩, .slice b1 x.args.length d1, .string ⟨x.type.toArray⟩, .int .i64 x.at_] 35)).set x.at_)
      have het : wr.heap.size ≠ t2 := by have := block_lt HP2.out.b; omega
      have HEF : Hid (((wr.alloc (.cells #[.string ⟨x.name.toArray⟩, .slice b1 x.args.length d1, .string ⟨x.type.toArray⟩, .int .i64 x.at_] 35)).setCell ⟨t2, 0, none⟩ (.int .i64 x.at_)).heap[wr.heap.size]? = some (.cells #[.string ⟨x.name.toArray⟩, .slice b1 x.args.length d1, .string ⟨x.type.toArray⟩, .int .i64 x.at_] 35 (0, 0))) := by rw [heap_set_ne het]; exact Lib.hid (heap_at_new _ _)
      have ety : x.type.isEmpty = false := by have := HX.out.1; cases h : x.type with | nil => exact absurd h this | cons _ _ => rfl
      have HAR := Lib.hid har
      clear har
      have HP7 := Lib.hid (hP6.set x.at_)
      have HR5 : Hid (Rd.Rise s x.at_ (x.args.flatMap Sd.In.pl ++ ((xs.drop (j + 1)).flatMap Sd.Fd.pl ++ R))) := Lib.hid n5
      clear n4 n5 hP6
      go_wp2_with fail
      refine HCALL.out.mono ?_
      rintro e' w' ⟨rfl, rfl⟩
      obtain ⟨wG, hwG⟩ : ∃ z, z = ((wr.alloc (.cells #[.string ⟨x.name.toArray⟩, .slice b1 x.args.length d1, .string ⟨x.type.toArray⟩, .int .i64 x.at_] 35)).setCell ⟨t2, 0, none⟩ (.int .i64 x.at_)) := ⟨_, rfl⟩
      rw [← hwG] at HP7 HP8 HEF ⊢
      clear hwG HCALL k0 k1 k2 k3
      have p2 : wG.cell? ⟨wr.heap.size, 2, none⟩ = some (.string ⟨x.type.toArray⟩) := blk_cell HEF.out 2 _ rfl
      have p1 : wG.cell? ⟨wr.heap.size, 1, none⟩ = some (.slice b1 x.args.length d1) := blk_cell HEF.out 1 _ rfl
      go_wp2_with fail
      refine args_part s bs wE t2 x.at_ wr.heap.size x.args b1 d1 ((xs.drop (j + 1)).flatMap Sd.Fd.pl ++ R) wG hs HSE hbs HAR HP7 (by omega) HR5 (Lib.hid HX.out.2) _ _ _ _ _ _ _ _ _ _ _ _ _ _ _ _ _ _ _ _ _ _ _ _ _ _ _ _ _ _ _ _ _ _ _ _ _ _ _ _ _ _ _ _ _ _ _ _ _ _ _ _ _ _ _ _ _ _ _ _ _ _ _ _ _ _ _ _ _ _ _ _ _ _ _ _ _ _ _ _ _ _ _ _ _ _ _ _ _ _ _ _ _ _ _ _ _ _ _ _ _ _ _ _ _ _ _ _ _ _ _ _ _ _ _ _ _ _ _ _ _ _ _ _ _ _ _ _ _ _ _ _ (Lib.hid ?_)
      intro u2 u14 u90 u91 u92 u93 u94 u95 u96 u97 u98 u99 u100 u101 u102 u103 u104 u105 u106 u107 u108 u109 u110 l' w' hl' hPP hRR
      have HP9 := Lib.hid (HP8.out.trans hPP)
      have HR9 := Lib.hid hRR
      clear hPP hRR p1 p2
      go_wp2_with fail
      go_roundg (xs.length + 1 - (j + 1))
      case measure => rw [HK.out]; omega
      case rel => exact ⟨j + 1, l', rfl, by omega, by go_num, hl', HP9.out, HR9.out⟩
    · have hje : j = xs.length := by omega
      have e4 : decide (j < xs.length) = false := decide_eq_false hjl
      have HF2 := Lib.hid (show (xs.drop j).flatMap Sd.Fd.pl ++ R = R by rw [hje, List.drop_length]; rfl)
      clear hje
      go_wp2_with fail
      exact HQ.out _ _ _ _ _ _ _ _ _ _ _ _ _ _ _ _ _ _ _ _ _ _ _ _ _ _ _ _ _ _ _ _ _ _ _ _ _ _ _ _ _ _ _ _ l2 wr hl2 HP2.out (by rw [← HF2.out]; exact HR2.out)
end Go.Proofs.YtabcaljnpahgpaaDoor
namespace Go.Proofs.YtabcaljnpahgpaaDoor
set_option linter.unusedSimpArgs false
set_option linter.unusedVariables false
open Go Go.RowKit

set_option maxHeartbeats 2000000 in
set_option maxRecDepth 100000 in
theorem sdplaces_any (s : ByteArray) (w : World) (hs : s.size ≤ 9223372036854775807) (hE : Env w) (h3 : 3 ≤ w.heap.size) :
    Calls Tryd.prog 3 #[.string s] w (fun e w' => e = .returned (.bool true) ∧ Below w.heap.size w w') := by
  have hb0 : Below w.heap.size w (w.alloc (.cells #[.string s] 9)) := (Below.refl _ _).alloc (Nat.le_refl _) _
  have HB0 := Lib.hid hb0
  have HS0 : Hid ((w.alloc (.cells #[.string s] 9)).heap[w.heap.size]? = some (.cells #[.string s] 9 (0, 0))) := Lib.hid (heap_at_new _ _)
  have hE0 := hE.below hb0
  have hz0 : 3 ≤ (w.alloc (.cells #[.string s] 9)).heap.size := by have := hb0.size; omega
  have HE0 := Lib.hid hE0
  clear hb0 hE hE0
  go_enter Tryd.func3, Tryd.ntmps3
  by_cases hbig : 4096 < s.size
  · go_wp2_with fail
    refine (sdAwake_any _ HE0.out hz0).mono ?_
    rintro e w1 ⟨rfl, hb1, hE1⟩
    have HB1 := Lib.hid (HB0.out.trans (hb1.mono HB0.out.size))
    have HE1 := Lib.hid hE1
    have k1 := blk_cell (show w1.heap[w.heap.size]? = some (.cells #[.string s] 9 (0, 0)) by rw [hb1.block w.heap.size (by simp)]; exact HS0.out) 0 (.string s) rfl
    have hz1 : 3 ≤ w1.heap.size := by have := hb1.size; omega
    clear hb1 hE1
    go_wp2_with fail
    refine (sdAwake_any w1 HE1.out hz1).mono ?_
    rintro e w2 ⟨rfl, hb2, -⟩
    go_wp2_with fail
    refine bodyPost_ret (v := .bool true) (by simp [results, Tryd.results3, go_sem]) rfl ?_
    exact ⟨rfl, HB1.out.trans (hb2.mono HB1.out.size)⟩
  · go_wp2_with fail
    refine (sdAwake_any _ HE0.out hz0).mono ?_
    rintro e w1 ⟨rfl, hb1, hE1⟩
    have HB1 := Lib.hid (HB0.out.trans (hb1.mono HB0.out.size))
    have HE1 := Lib.hid hE1
    have HS1 : Hid (w1.heap[w.heap.size]? = some (.cells #[.string s] 9 (0, 0))) := Lib.hid (by rw [hb1.block w.heap.size (by simp)]; exact HS0.out)
    have k1 := blk_cell HS1.out 0 (.string s) rfl
    have hz1 : 3 ≤ w1.heap.size := by have := hb1.size; omega
    clear hb1 hE1
    go_wp2_with fail
    refine (sparse_any s w1 hs HE1.out hz1).mono ?_
    rintro e w2 ⟨hb2, hstd, hres⟩
    have HB2 := Lib.hid (HB1.out.trans (hb2.mono HB1.out.size))
    rcases hres with ⟨a, c, he, rfl, hrd⟩ | ⟨he, rfl⟩
    · have HRD := Lib.hid hrd
      have HER := Lib.hid he
      have hpo := Sd.parse_ok2 (s := s) (fun ts h => by have := hstd ts h; rwa [show (⟨s.data.toList.toArray⟩ : ByteArray) = s from by cases s; simp] at this) he
      clear hstd
      obtain ⟨tds, htds⟩ : ∃ z, z = (Sd.parse s.data.toList).2 := ⟨_, rfl⟩
      rw [← htds] at HRD ⊢
      have HTD := Lib.hid htds
      rw [← htds] at hpo
      obtain ⟨hne, hri, hokt⟩ := hpo
      have htb : tds.length ≤ 4097 := rise_list (R := []) Sd.Td.pl (fun x => by unfold Sd.Td.pl; simp) (by rw [List.append_nil]; exact hri) (by omega) (by omega)
      have HRI := Lib.hid hri
      have HOKT := Lib.hid hokt
      have hn0 : 0 < tds.length := List.length_pos_iff.2 hne
      have hne0 : decide (0 < tds.length) = true := decide_eq_true hn0
      have HS2 : Hid (w2.heap[w.heap.size]? = some (.cells #[.string s] 9 (0, 0))) := Lib.hid (by rw [hb2.block w.heap.size (block_lt HS1.out)]; exact HS1.out)
      have e5 : (((Sd.parse s.data.toList).1.err : Int) != 0) = false := neF (by omega)
      clear hb2 hrd he htds k1 hri hokt hne
      clear e5
      go_wp2_with fail
      obtain ⟨wE, hwE⟩ : ∃ z, z = (w2.alloc (.cells #[.int .i64 (-1)] 3)).alloc (.cells #[.string ⟨#[]⟩, .string ⟨#[115, 99, 97, 108, 97, 114]⟩, .string ⟨#[116, 121, 112, 101]⟩, .string ⟨#[105, 110, 116, 101, 114, 102, 97, 99, 101]⟩, .string ⟨#[117, 110, 105, 111, 110]⟩, .string ⟨#[101, 110, 117, 109]⟩, .string ⟨#[105, 110, 112, 117, 116]⟩] 28) := ⟨_, rfl⟩
      rw [← hwE]
      obtain ⟨t2, ht2⟩ : ∃ z, z = w2.heap.size := ⟨_, rfl⟩
      have hBE : Below w2.heap.size w2 wE := by rw [hwE]; exact ((Below.refl _ _).alloc (Nat.le_refl _) _).alloc (by simp) _
      have hPW : PW wE t2 (-1) wE := PW.start (by rw [hwE, Lib.alloc_old _ _ _ (by rw [ht2]; simp), ht2]; exact heap_at_new _ _)
      have hWW : wE.heap[t2 + 1]? = some (.cells #[.string ⟨#[]⟩, .string ⟨#[115, 99, 97, 108, 97, 114]⟩, .string ⟨#[116, 121, 112, 101]⟩, .string ⟨#[105, 110, 116, 101, 114, 102, 97, 99, 101]⟩, .string ⟨#[117, 110, 105, 111, 110]⟩, .string ⟨#[101, 110, 117, 109]⟩, .string ⟨#[105, 110, 112, 117, 116]⟩] 28 (0, 0)) := by
        have h1 := heap_at_new (w2.alloc (.cells #[.int .i64 (-1)] 3)) (.cells #[.string ⟨#[]⟩, .string ⟨#[115, 99, 97, 108, 97, 114]⟩, .string ⟨#[116, 121, 112, 101]⟩, .string ⟨#[105, 110, 116, 101, 114, 102, 97, 99, 101]⟩, .string ⟨#[117, 110, 105, 111, 110]⟩, .string ⟨#[101, 110, 117, 109]⟩, .string ⟨#[105, 110, 112, 117, 116]⟩] 28)
        rw [show (w2.alloc (.cells #[.int .i64 (-1)] 3)).heap.size = t2 + 1 by rw [ht2]; simp] at h1
        rw [hwE]; exact h1
      have hWD : ∀ k : Nat, 1 ≤ k → k ≤ 6 → wE.cell? ⟨t2 + 1, k, none⟩ = some (.string ⟨(Sd.words.getD (k - 1) []).toArray⟩) := fun k h1 h6 => by
        have : k = 1 ∨ k = 2 ∨ k = 3 ∨ k = 4 ∨ k = 5 ∨ k = 6 := by omega
        rcases this with rfl | rfl | rfl | rfl | rfl | rfl <;> exact blk_cell hWW _ _ rfl
      have hRE : Reads wE (fun x => x < t2) (.seq 7 (tds.map Sd.Td.d)) [.slice a tds.length c] := (HRD.out.to (Q := fun x => x < t2) (Stands.sub w2 (fun x hx _ => by rw [ht2]; exact hx))).to (Stands.below hBE)
      have hSE : wE.cell? ⟨w.heap.size, 0, none⟩ = some (.string s) := blk_cell (by rw [hBE.block _ (block_lt HS2.out)]; exact HS2.out) 0 _ rfl
      have hw2 : w.heap.size < t2 := by rw [ht2]; exact block_lt HS2.out
      have HBE := Lib.hid (HB2.out.trans (hBE.mono HB2.out.size))
      have HPW := Lib.hid hPW
      have HWD := Lib.hid hWD
      have HRE := Lib.hid hRE
      have HSE := Lib.hid hSE
      rw [← ht2]
      clear hwE ht2 hBE hPW hWW hWD hRE hSE HRD HS2 HS0 HS1 HE1 HE0
      go_loopg [40] (tds.length + 1) (fun k i wr => ∃ (j : Nat) (last : Int), k = tds.length + 1 - j ∧ j ≤ tds.length ∧ i = .int .i64 j ∧ -1 ≤ last ∧ PW wE t2 last wr ∧ Rd.Rise s last ((tds.drop j).flatMap Sd.Td.pl))
      case atStart => exact ⟨0, -1, rfl, Nat.zero_le _, rfl, by omega, HPW.out, HRI.out⟩
      case round =>
        obtain ⟨j, last, hk, hj, rfl, hl1, hP, hR⟩ := hrel
        have HP := Lib.hid hP
        have HR := Lib.hid hR
        have HK := Lib.hid hk
        clear hP hR hk
        by_cases hjl : j < tds.length
        · have e1 : decide (j < tds.length) = true := decide_eq_true hjl
          obtain ⟨td, htd⟩ : ∃ z, tds[j]? = some z := ⟨tds[j], List.getElem?_eq_getElem hjl⟩
          have hdr : tds.drop j = td :: tds.drop (j + 1) := by rw [List.drop_eq_getElem_cons hjl]; rw [List.getElem?_eq_getElem hjl] at htd; rw [Option.some.inj htd]
          have hR2 := HR.out
          rw [hdr, List.flatMap_cons] at hR2
          have hok := HOKT.out td (List.mem_of_getElem? htd)
          obtain ⟨g, o, cs, ha, hgt, hgl, hlen, hcell, hd⟩ := HRE.out.elem.2 j td.d (by rw [List.getElem?_map, htd]; rfl)
          obtain ⟨a1, a2, a3, a4, c1, c2, c3, c4, rfl, -, hf, -, hin⟩ := Td_open hd
          subst ha
          have hgn : g ≠ t2 := by omega
          have k0 : wr.cell? ⟨g, o + j * 7, none⟩ = _ := HP.out.at (hcell 0 _ rfl) hgn
          have k1 := HP.out.at (hcell 1 _ rfl) hgn
          have k2 := HP.out.at (hcell 2 _ rfl) hgn
          have k3 := HP.out.at (hcell 3 _ rfl) hgn
          have k4 := HP.out.at (hcell 4 _ rfl) hgn
          have k5 := HP.out.at (hcell 5 _ rfl) hgn
          have k6 := HP.out.at (hcell 6 _ rfl) hgn
          have HF := Lib.hid hf
          have HIN := Lib.hid hin
          have HR2 := Lib.hid hR2
          have HOK := Lib.hid hok
          clear htd hdr hR2 hok hlen hcell hd hf hin HR
          go_wp2_with fail
          obtain ⟨wB, hwB⟩ : ∃ z, z = wr.alloc (.cells #[.int .i64 td.kind, .string ⟨td.name.toArray⟩, .slice a1 td.impl.length c1, .slice a2 td.fields.length c2, .slice a3 td.members.length c3, .slice a4 td.inputs.length c4, .int .i64 td.at_] 33) := ⟨_, rfl⟩
          obtain ⟨e, he⟩ : ∃ z, z = wr.heap.size := ⟨_, rfl⟩
          rw [← hwB, ← he]
          have hE0 : wB.heap[e]? = some (.cells #[.int .i64 td.kind, .string ⟨td.name.toArray⟩, .slice a1 td.impl.length c1, .slice a2 td.fields.length c2, .slice a3 td.members.length c3, .slice a4 td.inputs.length c4, .int .i64 td.at_] 33 (0, 0)) := by rw [hwB, he]; exact heap_at_new _ _
          have hPB : PW wE t2 last wB := by rw [hwB]; exact HP.out.alloc _
          have het : e ≠ t2 := by rw [he]; have := block_lt HP.out.b; omega
          have HE0 := Lib.hid hE0
          have HPB := Lib.hid hPB
          obtain ⟨kd, hkd⟩ : ∃ z, z = td.kind := ⟨_, rfl⟩
          have HKD := Lib.hid hkd
          have hk1 : 1 ≤ kd := by rw [hkd]; exact HOK.out.k1
          have hk6 : kd ≤ 6 := by rw [hkd]; exact HOK.out.k6
          obtain ⟨wd, hwd⟩ : ∃ z : List UInt8, z = Sd.words.getD (kd - 1) [] := ⟨_, rfl⟩
          have HWX := Lib.hid hwd
          have q0 : wB.cell? ⟨e, 0, none⟩ = some (.int .i64 kd) := by rw [hkd]; exact blk_cell hE0 0 _ rfl
          have q1 : wB.cell? ⟨e, 1, none⟩ = some (.string ⟨td.name.toArray⟩) := blk_cell hE0 1 _ rfl
          have q6 : wB.cell? ⟨e, 6, none⟩ = some (.int .i64 td.at_) := blk_cell hE0 6 _ rfl
          have qw : wB.cell? ⟨t2 + 1, kd, none⟩ = some (.string ⟨wd.toArray⟩) := by rw [hwd]; exact hPB.at (HWD.out kd hk1 hk6) (by omega)
          have hS : wB.cell? ⟨e, 0, none⟩ = some (.int .i64 kd) ∧ wB.cell? ⟨e, 1, none⟩ = some (.string ⟨td.name.toArray⟩) ∧ wB.cell? ⟨e, 6, none⟩ = some (.int .i64 td.at_) ∧ wB.cell? ⟨t2 + 1, kd, none⟩ = some (.string ⟨wd.toArray⟩) := ⟨q0, q1, q6, qw⟩
          have HR3 : Hid (Rd.Rise s last ((td.at_, some wd) :: ((td.fields.flatMap Sd.Fd.pl ++ td.inputs.flatMap Sd.In.pl) ++ (tds.drop (j + 1)).flatMap Sd.Td.pl))) := by
            have := HR2.out
            unfold Sd.Td.pl at this
            rw [← hkd, ← hwd] at this
            exact Lib.hid this
          have hnx := rise_next HR3.out
          obtain ⟨n1, n2, n3, n4, n5⟩ := hnx
          have HN4 := Lib.hid n4
          have HR4 := Lib.hid n5
          have c2' := hPB.c2
          have f2' := hPB.f2
          have c3' : wB.cell? ⟨w.heap.size, 0, none⟩ = some (.string s) := hPB.at HSE.out (by omega)
          have hS2 : (wB.drew.setCell ⟨t2, 0, none⟩ (.int .i64 td.at_)).cell? ⟨e, 0, none⟩ = some (.int .i64 kd) ∧ (wB.drew.setCell ⟨t2, 0, none⟩ (.int .i64 td.at_)).cell? ⟨e, 1, none⟩ = some (.string ⟨td.name.toArray⟩) ∧ (wB.drew.setCell ⟨t2, 0, none⟩ (.int .i64 td.at_)).cell? ⟨e, 6, none⟩ = some (.int .i64 td.at_) ∧ (wB.drew.setCell ⟨t2, 0, none⟩ (.int .i64 td.at_)).cell? ⟨t2 + 1, kd, none⟩ = some (.string ⟨wd.toArray⟩) := by
            have hh : ∀ x k, x ≠ t2 → (wB.drew.setCell ⟨t2, 0, none⟩ (.int .i64 td.at_)).cell? ⟨x, k, none⟩ = wB.cell? ⟨x, k, none⟩ := fun x k hx => World.cell?_of_block (heap_set_ne hx)
            exact ⟨(hh _ _ het).trans q0, (hh _ _ het).trans q1, (hh _ _ het).trans q6, (hh _ _ (by omega)).trans qw⟩
          have HCALL := Lib.hid (sdnext_any t2 w.heap.size last s ⟨wd.toArray⟩ td.at_ wB.drew c2' c3' f2' (by omega) hl1 n1 n2 n3 HN4.out)
          have e2 : decide ((kd : Int) < 1) = false := decide_eq_false (by omega)
          have e3 : decide ((6 : Int) < kd) = false := decide_eq_false (by omega)
          have ki0 : (0 : Int) ≤ (kd : Int) := Int.natCast_nonneg _
          have ki7 : (kd : Int) < 7 := by omega
          have enm : td.name = [] ↔ False := ⟨fun h => HOK.out.name h, fun h => h.elim⟩
          have HS2 := Lib.hid hS2
          clear hwB he hE0 hPB hkd hwd q0 q1 q6 qw n4 n5 c2' f2' c3' hS2 k0 k1 k2 k3 k4 k5 k6
          refine wp_region_phase (fun w' => w'.cell? ⟨e, 0, none⟩ = some (.int .i64 kd) ∧ w'.cell? ⟨e, 1, none⟩ = some (.string ⟨td.name.toArray⟩) ∧ w'.cell? ⟨e, 6, none⟩ = some (.int .i64 td.at_) ∧ w'.cell? ⟨t2 + 1, kd, none⟩ = some (.string ⟨wd.toArray⟩)) 24 (by kernel_rfl) ?_
          refine wpAnyB_take (i := 0) (v := (.pointer (some ⟨e, 0, none⟩))) (by kernel_rfl) (by decide) rfl (by kernel_rfl) (by kernel_rfl) (by kernel_rfl) (fun _ _ _ h => h) (Or.inl ⟨by rfl, fun w hSw => by obtain ⟨s0, s1, s2, s3⟩ := hSw; go_simp⟩) hS ?_; simp only [Act.put, Array.getInternal_eq_getElem, List.getElem_toArray, List.getElem_cons_zero, List.getElem_cons_succ, List.setIfInBounds_toArray, List.set_cons_zero, List.set_cons_succ]
          refine wpAnyB_take (i := 1) (v := (.int .i64 kd)) (by kernel_rfl) (by decide) rfl (by kernel_rfl) (by kernel_rfl) (by kernel_rfl) (fun _ _ _ h => h) (Or.inl ⟨by rfl, fun w hSw => by obtain ⟨s0, s1, s2, s3⟩ := hSw; go_simp⟩) hS ?_; simp only [Act.put, Array.getInternal_eq_getElem, List.getElem_toArray, List.getElem_cons_zero, List.getElem_cons_succ, List.setIfInBounds_toArray, List.set_cons_zero, List.set_cons_succ]
          refine wpAnyB_take (i := 2) (v := (.bool false)) (by kernel_rfl) (by decide) rfl (by kernel_rfl) (by kernel_rfl) (by kernel_rfl) (fun _ _ _ h => h) (Or.inl ⟨by rfl, fun w hSw => by obtain ⟨s0, s1, s2, s3⟩ := hSw; go_simp⟩) hS ?_; simp only [Act.put, Array.getInternal_eq_getElem, List.getElem_toArray, List.getElem_cons_zero, List.getElem_cons_succ, List.setIfInBounds_toArray, List.set_cons_zero, List.set_cons_succ]
          refine wpAnyB_take (i := 3) (v := (.bool false)) (by kernel_rfl) (by decide) rfl (by kernel_rfl) (by kernel_rfl) (by kernel_rfl) (fun _ _ _ h => h) (Or.inl ⟨by rfl, fun w hSw => by obtain ⟨s0, s1, s2, s3⟩ := hSw; go_simp⟩) hS ?_; simp only [Act.put, Array.getInternal_eq_getElem, List.getElem_toArray, List.getElem_cons_zero, List.getElem_cons_succ, List.setIfInBounds_toArray, List.set_cons_zero, List.set_cons_succ]
          refine wpAnyB_take (i := 4) (v := (.pointer (some ⟨e, 0, none⟩))) (by kernel_rfl) (by decide) rfl (by kernel_rfl) (by kernel_rfl) (by kernel_rfl) (fun _ _ _ h => h) (Or.inl ⟨by rfl, fun w hSw => by obtain ⟨s0, s1, s2, s3⟩ := hSw; go_simp⟩) hS ?_; simp only [Act.put, Array.getInternal_eq_getElem, List.getElem_toArray, List.getElem_cons_zero, List.getElem_cons_succ, List.setIfInBounds_toArray, List.set_cons_zero, List.set_cons_succ]
          refine wpAnyB_take (i := 5) (v := (.int .i64 kd)) (by kernel_rfl) (by decide) rfl (by kernel_rfl) (by kernel_rfl) (by kernel_rfl) (fun _ _ _ h => h) (Or.inl ⟨by rfl, fun w hSw => by obtain ⟨s0, s1, s2, s3⟩ := hSw; go_simp⟩) hS ?_; simp only [Act.put, Array.getInternal_eq_getElem, List.getElem_toArray, List.getElem_cons_zero, List.getElem_cons_succ, List.setIfInBounds_toArray, List.set_cons_zero, List.set_cons_succ]
          refine wpAnyB_take (i := 6) (v := (.bool false)) (by kernel_rfl) (by decide) rfl (by kernel_rfl) (by kernel_rfl) (by kernel_rfl) (fun _ _ _ h => h) (Or.inl ⟨by rfl, fun w hSw => by obtain ⟨s0, s1, s2, s3⟩ := hSw; go_simp⟩) hS ?_; simp only [Act.put, Array.getInternal_eq_getElem, List.getElem_toArray, List.getElem_cons_zero, List.getElem_cons_succ, List.setIfInBounds_toArray, List.set_cons_zero, List.set_cons_succ]
          refine wpAnyB_take (i := 7) (v := (.bool false)) (by kernel_rfl) (by decide) rfl (by kernel_rfl) (by kernel_rfl) (by kernel_rfl) (fun _ _ _ h => h) (Or.inl ⟨by rfl, fun w hSw => by obtain ⟨s0, s1, s2, s3⟩ := hSw; go_simp⟩) hS ?_; simp only [Act.put, Array.getInternal_eq_getElem, List.getElem_toArray, List.getElem_cons_zero, List.getElem_cons_succ, List.setIfInBounds_toArray, List.set_cons_zero, List.set_cons_succ]
          refine wpAnyB_take (i := 8) (v := (.bool false)) (by kernel_rfl) (by decide) rfl (by kernel_rfl) (by kernel_rfl) (by kernel_rfl) (fun _ _ _ h => h) (Or.inl ⟨by rfl, fun w hSw => by obtain ⟨s0, s1, s2, s3⟩ := hSw; go_simp⟩) hS ?_; simp only [Act.put, Array.getInternal_eq_getElem, List.getElem_toArray, List.getElem_cons_zero, List.getElem_cons_succ, List.setIfInBounds_toArray, List.set_cons_zero, List.set_cons_succ]
          refine wpAnyB_take (i := 9) (v := (.func (.func 8) #[] #[.pointer (some ⟨t2, 0, none⟩), .pointer (some ⟨w.heap.size, 0, none⟩)])) (by kernel_rfl) (by decide) rfl (by kernel_rfl) (by kernel_rfl) (by kernel_rfl) (fun _ _ _ h => h) (Or.inl ⟨by rfl, fun w hSw => by obtain ⟨s0, s1, s2, s3⟩ := hSw; go_simp⟩) hS ?_; simp only [Act.put, Array.getInternal_eq_getElem, List.getElem_toArray, List.getElem_cons_zero, List.getElem_cons_succ, List.setIfInBounds_toArray, List.set_cons_zero, List.set_cons_succ]
          refine wpAnyB_take (i := 10) (v := (.pointer (some ⟨e, 6, none⟩))) (by kernel_rfl) (by decide) rfl (by kernel_rfl) (by kernel_rfl) (by kernel_rfl) (fun _ _ _ h => h) (Or.inl ⟨by rfl, fun w hSw => by obtain ⟨s0, s1, s2, s3⟩ := hSw; go_simp⟩) hS ?_; simp only [Act.put, Array.getInternal_eq_getElem, List.getElem_toArray, List.getElem_cons_zero, List.getElem_cons_succ, List.setIfInBounds_toArray, List.set_cons_zero, List.set_cons_succ]
          refine wpAnyB_take (i := 11) (v := (.int .i64 td.at_)) (by kernel_rfl) (by decide) rfl (by kernel_rfl) (by kernel_rfl) (by kernel_rfl) (fun _ _ _ h => h) (Or.inl ⟨by rfl, fun w hSw => by obtain ⟨s0, s1, s2, s3⟩ := hSw; go_simp⟩) hS ?_; simp only [Act.put, Array.getInternal_eq_getElem, List.getElem_toArray, List.getElem_cons_zero, List.getElem_cons_succ, List.setIfInBounds_toArray, List.set_cons_zero, List.set_cons_succ]
          refine wpAnyB_take (i := 12) (v := (.pointer (some ⟨e, 0, none⟩))) (by kernel_rfl) (by decide) rfl (by kernel_rfl) (by kernel_rfl) (by kernel_rfl) (fun _ _ _ h => h) (Or.inl ⟨by rfl, fun w hSw => by obtain ⟨s0, s1, s2, s3⟩ := hSw; go_simp⟩) hS ?_; simp only [Act.put, Array.getInternal_eq_getElem, List.getElem_toArray, List.getElem_cons_zero, List.getElem_cons_succ, List.setIfInBounds_toArray, List.set_cons_zero, List.set_cons_succ]
          refine wpAnyB_take (i := 13) (v := (.int .i64 kd)) (by kernel_rfl) (by decide) rfl (by kernel_rfl) (by kernel_rfl) (by kernel_rfl) (fun _ _ _ h => h) (Or.inl ⟨by rfl, fun w hSw => by obtain ⟨s0, s1, s2, s3⟩ := hSw; go_simp⟩) hS ?_; simp only [Act.put, Array.getInternal_eq_getElem, List.getElem_toArray, List.getElem_cons_zero, List.getElem_cons_succ, List.setIfInBounds_toArray, List.set_cons_zero, List.set_cons_succ]
          refine wpAnyB_take (i := 14) (v := (.pointer (some ⟨t2 + 1, kd, none⟩))) (by kernel_rfl) (by decide) rfl (by kernel_rfl) (by kernel_rfl) (by kernel_rfl) (fun _ _ _ h => h) (Or.inl ⟨by rfl, fun w hSw => by obtain ⟨s0, s1, s2, s3⟩ := hSw; go_simp⟩) hS ?_; simp only [Act.put, Array.getInternal_eq_getElem, List.getElem_toArray, List.getElem_cons_zero, List.getElem_cons_succ, List.setIfInBounds_toArray, List.set_cons_zero, List.set_cons_succ]
          refine wpAnyB_take (i := 15) (v := (.string ⟨wd.toArray⟩)) (by kernel_rfl) (by decide) rfl (by kernel_rfl) (by kernel_rfl) (by kernel_rfl) (fun _ _ _ h => h) (Or.inl ⟨by rfl, fun w hSw => by obtain ⟨s0, s1, s2, s3⟩ := hSw; go_simp⟩) hS ?_; simp only [Act.put, Array.getInternal_eq_getElem, List.getElem_toArray, List.getElem_cons_zero, List.getElem_cons_succ, List.setIfInBounds_toArray, List.set_cons_zero, List.set_cons_succ]
          clear hS
          refine wpAnyB_one (i := 16) (by kernel_rfl) ?_
          refine wpOp_intro (by decide) (fun K3 HK3 => ?_)
          simp only [List.drop_succ_cons, List.drop_zero]
          go_wp2_with fail
          refine HCALL.out.mono ?_
          rintro e' w' ⟨rfl, rfl⟩
          go_wp2_with fail
          refine HK3.out _ _ ⟨fun _ => HS2.out, ?_⟩
          clear HK3
          have hS := HS2.out
          refine wpAnyB_take (i := 17) (v := (.bool false)) (by kernel_rfl) (by decide) rfl (by kernel_rfl) (by kernel_rfl) (by kernel_rfl) (fun _ _ _ h => h) (Or.inl ⟨by rfl, fun w hSw => by obtain ⟨s0, s1, s2, s3⟩ := hSw; go_simp⟩) hS ?_; simp only [Act.put, Array.getInternal_eq_getElem, List.getElem_toArray, List.getElem_cons_zero, List.getElem_cons_succ, List.setIfInBounds_toArray, List.set_cons_zero, List.set_cons_succ]
          refine wpAnyB_take (i := 18) (v := (.bool false)) (by kernel_rfl) (by decide) rfl (by kernel_rfl) (by kernel_rfl) (by kernel_rfl) (fun _ _ _ h => h) (Or.inl ⟨by rfl, fun w hSw => by obtain ⟨s0, s1, s2, s3⟩ := hSw; go_simp⟩) hS ?_; simp only [Act.put, Array.getInternal_eq_getElem, List.getElem_toArray, List.getElem_cons_zero, List.getElem_cons_succ, List.setIfInBounds_toArray, List.set_cons_zero, List.set_cons_succ]
          refine wpAnyB_take (i := 19) (v := (.bool false)) (by kernel_rfl) (by decide) rfl (by kernel_rfl) (by kernel_rfl) (by kernel_rfl) (fun _ _ _ h => h) (Or.inl ⟨by rfl, fun w hSw => by obtain ⟨s0, s1, s2, s3⟩ := hSw; go_simp⟩) hS ?_; simp only [Act.put, Array.getInternal_eq_getElem, List.getElem_toArray, List.getElem_cons_zero, List.getElem_cons_succ, List.setIfInBounds_toArray, List.set_cons_zero, List.set_cons_succ]
          refine wpAnyB_take (i := 20) (v := (.pointer (some ⟨e, 1, none⟩))) (by kernel_rfl) (by decide) rfl (by kernel_rfl) (by kernel_rfl) (by kernel_rfl) (fun _ _ _ h => h) (Or.inl ⟨by rfl, fun w hSw => by obtain ⟨s0, s1, s2, s3⟩ := hSw; go_simp⟩) hS ?_; simp only [Act.put, Array.getInternal_eq_getElem, List.getElem_toArray, List.getElem_cons_zero, List.getElem_cons_succ, List.setIfInBounds_toArray, List.set_cons_zero, List.set_cons_succ]
          refine wpAnyB_take (i := 21) (v := (.string ⟨td.name.toArray⟩)) (by kernel_rfl) (by decide) rfl (by kernel_rfl) (by kernel_rfl) (by kernel_rfl) (fun _ _ _ h => h) (Or.inl ⟨by rfl, fun w hSw => by obtain ⟨s0, s1, s2, s3⟩ := hSw; go_simp⟩) hS ?_; simp only [Act.put, Array.getInternal_eq_getElem, List.getElem_toArray, List.getElem_cons_zero, List.getElem_cons_succ, List.setIfInBounds_toArray, List.set_cons_zero, List.set_cons_succ]
          refine wpAnyB_take (i := 22) (v := (.bool false)) (by kernel_rfl) (by decide) rfl (by kernel_rfl) (by kernel_rfl) (by kernel_rfl) (fun _ _ _ h => h) (Or.inl ⟨by rfl, fun w hSw => by obtain ⟨s0, s1, s2, s3⟩ := hSw; go_simp⟩) hS ?_; simp only [Act.put, Array.getInternal_eq_getElem, List.getElem_toArray, List.getElem_cons_zero, List.getElem_cons_succ, List.setIfInBounds_toArray, List.set_cons_zero, List.set_cons_succ]
          refine wpAnyB_take (i := 23) (v := (.bool false)) (by kernel_rfl) (by decide) rfl (by kernel_rfl) (by kernel_rfl) (by kernel_rfl) (fun _ _ _ h => h) (Or.inl ⟨by rfl, fun w hSw => by obtain ⟨s0, s1, s2, s3⟩ := hSw; go_simp⟩) hS ?_; simp only [Act.put, Array.getInternal_eq_getElem, List.getElem_toArray, List.getElem_cons_zero, List.getElem_cons_succ, List.setIfInBounds_toArray, List.set_cons_zero, List.set_cons_succ]
          clear hS
          refine wpAnyB_done (by kernel_rfl) ?_ _
          obtain ⟨wC, hwC⟩ : ∃ z, z = (wB.setCell ⟨t2, 0, none⟩ (.int .i64 td.at_)).drew := ⟨_, rfl⟩
          rw [← hwC]
          have HPC : Hid (PW wE t2 td.at_ wC) := by rw [hwC]; exact Lib.hid ((HPB.out.set _).drew)
          have HEC : Hid (wC.heap[e]? = some (.cells #[.int .i64 td.kind, .string ⟨td.name.toArray⟩, .slice a1 td.impl.length c1, .slice a2 td.fields.length c2, .slice a3 td.members.length c3, .slice a4 td.inputs.length c4, .int .i64 td.at_] 33 (0, 0))) := by rw [hwC]; show Hid ((wB.setCell _ _).heap[e]? = _); rw [heap_set_ne het]; exact HE0
          have q3 : wC.cell? ⟨e, 3, none⟩ = some (.slice a2 td.fields.length c2) := blk_cell HEC.out 3 _ rfl
          clear hwC HS2 HCALL
          obtain ⟨R, hRR⟩ : ∃ z, z = td.inputs.flatMap Sd.In.pl ++ (tds.drop (j + 1)).flatMap Sd.Td.pl := ⟨_, rfl⟩
          have HR5 : Hid (Rd.Rise s td.at_ (td.fields.flatMap Sd.Fd.pl ++ R)) := by rw [hRR, ← List.append_assoc]; exact HR4
          have HRR := Lib.hid hRR
          have ht0 : (-1 : Int) ≤ (td.at_ : Int) := by omega
          have hs4 : s.size ≤ 4096 := by omega
          have hbs : w.heap.size ≠ t2 := by omega
          clear hRR
          go_wp2_with fail
          refine fields_part s w.heap.size wE t2 td.at_ e td.fields a2 c2 R wC hs4 HSE hbs HF HPC ht0 HR5 (Lib.hid HOK.out.fields) _ _ _ _ _ _ _ _ _ _ _ _ _ _ _ _ _ _ _ _ _ _ _ _ _ _ _ _ _ _ _ _ _ _ _ _ _ _ _ _ _ _ _ _ _ _ _ _ _ _ _ _ _ _ _ _ _ _ _ _ _ _ _ _ _ _ _ _ _ _ _ _ _ _ _ _ _ _ _ _ _ _ _ _ _ _ _ _ _ _ _ _ _ _ _ _ _ _ _ _ _ _ _ _ _ _ _ _ _ _ _ _ _ _ _ _ _ _ _ _ _ _ _ _ _ _ _ _ _ _ _ _ (Lib.hid ?_)
          intro v2 v12 v14 v71 v72 v73 v74 v75 v76 v77 v78 v79 v80 v81 v82 v83 v84 v85 v86 v87 v88 v89 v90 v91 v92 v93 v94 v95 v96 v97 v98 v99 v100 v101 v102 v103 v104 v105 v106 v107 v108 v109 v110 v111 l' w5 hl' hPP hRR
          have HP9 := Lib.hid (HPC.out.trans hPP)
          have HP10 := Lib.hid hPP
          have HR9 : Hid (Rd.Rise s l' (td.inputs.flatMap Sd.In.pl ++ (tds.drop (j + 1)).flatMap Sd.Td.pl)) := by rw [← HRR.out]; exact Lib.hid hRR
          have q5 : w5.cell? ⟨e, 5, none⟩ = some (.slice a4 td.inputs.length c4) := hPP.at (blk_cell HEC.out 5 _ rfl) het
          clear hPP hRR q3
          go_wp2_with fail
          refine inputs_part s w.heap.size wE t2 l' e td.inputs a4 c4 _ w5 hs4 HSE hbs HIN HP9 hl' HR9 (Lib.hid HOK.out.inputs) _ _ _ _ _ _ _ _ _ _ _ _ _ _ _ _ _ _ _ _ _ _ _ _ _ _ _ _ _ _ _ _ _ _ _ _ _ _ _ _ _ _ _ _ _ _ _ _ _ _ _ _ _ _ _ _ _ _ _ _ _ _ _ _ _ _ _ _ _ _ _ _ _ _ _ _ _ _ _ _ _ _ _ _ _ _ _ _ _ _ _ _ _ _ _ _ _ _ _ _ _ _ _ _ _ _ _ _ _ _ _ _ _ _ _ _ _ _ _ _ _ _ _ _ _ _ _ _ _ _ _ _ (Lib.hid ?_)
          intro v2 v16 v115 v116 v117 v118 v119 v120 v121 v122 v123 v124 v125 v126 v127 v128 v129 v130 v131 l2 w6 hl2 hPP hRR
          have HP11 := Lib.hid (HP9.out.trans hPP)
          have HR11 := Lib.hid hRR
          clear hPP hRR q5
          go_wp2_with fail
          go_roundg (tds.length + 1 - (j + 1))
          case measure => rw [HK.out]; omega
          case rel => exact ⟨j + 1, l2, rfl, by omega, by go_num, hl2, HP11.out, HR11.out⟩
        · have hje : j = tds.length := by omega
          have e1 : decide (j < tds.length) = false := decide_eq_false hjl
          clear hje
          go_wp2_with fail
          refine bodyPost_ret (v := .bool true) (by simp [results, Tryd.results3, go_sem]) rfl ?_
          exact ⟨rfl, below_fr HBE.out (Nat.le_refl _) HP.out.fr (by omega)⟩
    · have e5 : (((Sd.parse s.data.toList).1.err : Int) != 0) = true := neT (by omega)
      clear hb2
      go_wp2_with fail
      refine bodyPost_ret (v := .bool true) (by simp [results, Tryd.results3, go_sem]) rfl ?_
      exact ⟨rfl, HB2.out⟩
end Go.Proofs.YtabcaljnpahgpaaDoor
