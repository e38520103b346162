/-
  The reader of types: words; a definition, walked.
-/
import Derived.Test.YtabcaljnpahgpaaGreatDoorK16b
import Derived.Test.YtabcaljnpahgpaaGreatDoorShelf
import Derived.Lib.SlicesS
namespace Go.Proofs.YtabcaljnpahgpaaGreatDoor
set_option linter.unusedSimpArgs false
set_option linter.unusedVariables false
open Go Go.RowKit

theorem idx_kind (t : List UInt8) : 1 + Lib.idxOfS (Sd.words.map fun s => (⟨s.toArray⟩ : ByteArray)) ⟨t.toArray⟩ = (Sd.kindOf t : Int) := by
  unfold Lib.idxOfS Sd.kindOf
  rw [idx_from t Sd.words 0]
  cases Sd.words.findIdx? (fun w => decide (w = t)) with
  | none => rfl
  | some k => simp; omega

theorem sds_row {w w' : World} {P : Nat → Prop} {g o : Nat} (he : w'.heap[g]? = w.heap[g]?) : ∀ {l : List (List UInt8)} {i : Nat}, ReadsS w P 1 (some ⟨g, o, none⟩) i (sds l) → ReadsS w' P 1 (some ⟨g, o, none⟩) i (sds l)
  | [], _, _ => .nil
  | t :: l, i, h => by
    unfold sds at h ⊢
    cases h with
    | cons e hP hg hl hc hr ht =>
      obtain ⟨rfl, rfl⟩ : _ ∧ _ := by simpa using e
      obtain rfl := hr.str_inv
      refine .cons rfl hP ?_ hl (fun j v hv => ?_) (.str _) (sds_row he ht)
      · rw [Array.getElem?_eq_getElem hg] at he
        exact block_lt he
      · rw [World.cell?_of_block he]
        exact hc j v hv
/-- Texts' own block. -/
theorem sds_boxes {w : World} {P : Nat → Prop} {l : List (List UInt8)} {a : Option Addr} {n c : Nat} (h : Reads w P (.seq 1 (sds l)) [.slice a n c]) :
    ∃ bx1 : List Box, (∀ p ∈ bx1, P p.1 ∧ w.heap[p.1]? = some p.2) ∧ ∀ w' : World, (∀ p ∈ bx1, w'.heap[p.1]? = some p.2) → Reads w' P (.seq 1 (sds l)) [.slice a n c] := by
  obtain ⟨a', c', e, hr⟩ := h.seq_inv
  obtain ⟨rfl, rfl, rfl⟩ : a = a' ∧ n = (sds l).length ∧ c = c' := by simpa using e
  cases l with
  | nil => exact ⟨[], fun p hp => absurd hp (by simp), fun w' _ => .seq (cap := c) .nil⟩
  | cons t l =>
    have hr0 := hr
    unfold sds at hr0
    cases hr0 with
    | cons e hP hg hl hc hrd ht =>
      rename_i g o cs
      subst e
      refine ⟨[(g, w.heap[g])], fun p hp => ?_, fun w' h1 => .seq (cap := c) (sds_row ?_ hr)⟩
      · rw [List.mem_singleton.1 hp]
        exact ⟨hP, Array.getElem?_eq_getElem hg⟩
      · rw [Array.getElem?_eq_getElem hg]
        exact h1 _ (List.mem_singleton.2 rfl)
theorem BI.li2 {w0 w : World} {b g t6 k : Nat} {bx bx1 : List Box} {T6 E : TypeId} {mk : Value → Array Value} {s : Rd.St} (h : BI w0 b g t6 bx T6 (mk (.slice none 0 0)) s w) (h1 : ∀ p ∈ bx1, t6 < p.1 ∧ w.heap[p.1]? = some p.2) : LI w0 b g t6 (bx1 ++ bx) T6 mk E k s [] w :=
  ⟨h.rd, fun p hp => by
    rcases List.mem_append.1 hp with hp | hp
    · exact (h1 p hp).2
    · exact h.cb p hp, ⟨_, h.b6, Grows.nil _ _ _ _ _⟩, h.fr, h.lb, h.lg, fun p hp => by
    have l6 := h.l6
    rcases List.mem_append.1 hp with hp | hp
    · have := (h1 p hp).1; omega
    · have := h.lx p hp; omega, h.l6⟩
theorem enters_D1 (cap : Array Value) (w : World) : Sem.run Tryz.prog (callFunc 74 cap) w = .ok (.enter 74 cap) w := by kernel_rfl
theorem enters_D2 (cap : Array Value) (w : World) : Sem.run Tryz.prog (callFunc 77 cap) w = .ok (.enter 77 cap) w := by kernel_rfl
theorem enters_D3 (cap : Array Value) (w : World) : Sem.run Tryz.prog (callFunc 79 cap) w = .ok (.enter 79 cap) w := by kernel_rfl

set_option maxRecDepth 100000 in
theorem words_any (w : World) : Calls Tryz.prog 67 #[] w fun r w' => r = .returned (.slice (some ⟨w.heap.size, 0, none⟩) 6 6) ∧ Below w.heap.size w w' ∧ Txts w' (.slice (some ⟨w.heap.size, 0, none⟩) 6 6) Sd.words := by
  have HT := Lib.hid (txts_lit w Sd.words (Sd.words.map fun s => Value.string ⟨s.toArray⟩).toArray 9 rfl)
  go_enter Tryz.func67, Tryz.ntmps67
  go_wp2
  go_ret
  exact ⟨rfl, (Below.refl _ _).alloc (Nat.le_refl _) _, HT.out⟩

theorem idx_any (w : World) (g c : Nat) (t : List UInt8) (h : Txts w (.slice (some ⟨g, 0, none⟩) 6 c) Sd.words) :
    Calls Tryz.prog 70 #[.slice (some ⟨g, 0, none⟩) 6 c, .string ⟨t.toArray⟩] w fun e w' => e = .returned (.int .i64 (Lib.idxOfS (Sd.words.map fun s => (⟨s.toArray⟩ : ByteArray)) ⟨t.toArray⟩)) ∧ w' = w := by
  have := Tryz.slices_Index_string g 0 6 c (Sd.words.map fun s => (⟨s.toArray⟩ : ByteArray)) ⟨t.toArray⟩ w (by decide) (by decide) (fun j hj => by
    rw [List.length_map] at hj
    obtain ⟨b, off, e, _, h2⟩ := h.at (List.getElem?_eq_getElem hj)
    simp only [Option.some.injEq, Addr.mk.injEq] at e
    obtain ⟨rfl, rfl, _⟩ := e
    rw [h2, List.getD_eq_getElem?_getD, List.getElem?_map, List.getElem?_eq_getElem hj]
    rfl)
  rw [show (Sd.words.map fun s => (⟨s.toArray⟩ : ByteArray)).take 6 = Sd.words.map fun s => (⟨s.toArray⟩ : ByteArray) from by rfl] at this
  exact this
theorem kindOf_le (t : List UInt8) : Sd.kindOf t ≤ 6 := by
  unfold Sd.kindOf
  cases h : Sd.words.findIdx? (fun w => decide (w = t)) with
  | none => simp
  | some k => have := (List.findIdx?_eq_some_iff_getElem.1 h).1; simp [Sd.words] at this; show k + 1 ≤ 6; omega

noncomputable def defRest : Code := (Tryz.f35.body.map (fun c => sndC (sndC (sndC (sndC (sndC c)))))).getD .skip
set_option maxHeartbeats 2000000 in
set_option maxRecDepth 100000 in
theorem def_tail0 (b g n : Nat) (hnb : n ≤ 1600) (s : Rd.St) (w : World) (hlb : b < w.heap.size ∧ g < w.heap.size) (HN : Hid (s.err ≠ 0 ∨ s.rest.length ≤ n)) (d0 : 0 ≤ s.deep) (d1 : s.deep + n ≤ 900000) (kd x : Nat) (tk : Lx.Tok) (s5 : Rd.St) (w6 : World)
    (HB6 : Hid (BI w b g x [(w.heap.size, Obj.cells #[.pointer (some ⟨b, 0, none⟩)] 73 (0, 0)), (w.heap.size + 1, Obj.cells #[.int .i64 0, .string ⟨#[]⟩, .slice none 0 0, .slice none 0 0, .slice none 0 0, .slice none 0 0, .int .i64 0] 38 (0, 0))] 38 #[.int .i64 kd, .string ⟨#[]⟩, .slice none 0 0, .slice none 0 0, .slice none 0 0, .slice none 0 0, .int .i64 tk.at_] s5 w6)) (HDEF5 : Hid (Sd.def_ (n + 1) s = Sd.body (n + 1) kd (Rd.name s5).2 tk.at_ (Rd.name s5).1)) (HOK5 : Hid (Rd.Ok s s5)) (HDP5 : Hid (s5.deep = s.deep)) (hkl : kd ≤ 6) (hkc : kd < 2) (c3 c5 c6 c7 c8 c9 c10 c11 c12 c13 c14 c15 c16 c17 c18 c19 c20 c21 c22 c23 c24 c25 c26 c27 c28 : Value) :
    Code.wp Tryz.prog defRest (bodyPost Tryz.prog Tryz.f35 (Got b g w (Sd.def_ (n + 1) s).2.d (Sd.def_ (n + 1) s).1)) ⟨#[(.pointer (some ⟨b, 0, none⟩)), .pointer (some ⟨w.heap.size, 0, none⟩), .pointer (some ⟨w.heap.size + 1, 0, none⟩), c3, .pointer (some ⟨x, 0, none⟩), c5, c6, c7, c8, c9, c10, c11, c12, c13, c14, c15, c16, c17, c18, c19, c20, c21, c22, c23, c24, c25, c26, c27, c28, undef, undef, undef, undef, undef, undef, undef, undef, undef, undef, undef, undef, undef, undef, undef, undef, undef, undef, undef, undef, undef, undef, undef, undef, undef, undef, undef, undef, undef, undef, undef, undef, undef, undef, undef, undef, undef, undef, undef, undef, undef, undef, undef, undef, undef], []⟩ w6 := by
  have HMB : Hid ((w.heap.size, Obj.cells #[.pointer (some ⟨b, 0, none⟩)] 73 (0, 0)) ∈ [(w.heap.size, Obj.cells #[.pointer (some ⟨b, 0, none⟩)] 73 (0, 0)), (w.heap.size + 1, Obj.cells #[.int .i64 0, .string ⟨#[]⟩, .slice none 0 0, .slice none 0 0, .slice none 0 0, .slice none 0 0, .int .i64 0] 38 (0, 0))]) := Lib.hid List.mem_cons_self
  have HMR : Hid ((w.heap.size + 1, Obj.cells #[.int .i64 0, .string ⟨#[]⟩, .slice none 0 0, .slice none 0 0, .slice none 0 0, .slice none 0 0, .int .i64 0] 38 (0, 0)) ∈ [(w.heap.size, Obj.cells #[.pointer (some ⟨b, 0, none⟩)] 73 (0, 0)), (w.heap.size + 1, Obj.cells #[.int .i64 0, .string ⟨#[]⟩, .slice none 0 0, .slice none 0 0, .slice none 0 0, .slice none 0 0, .int .i64 0] 38 (0, 0))]) := Lib.hid (List.mem_cons_of_mem _ List.mem_cons_self)
  conv => arg 2; whnf
  have k2 : _ := HB6.out.cellx HMB.out
  go_wp2_with fail
  refine (rname_any b g s5 w6 HB6.out.rd).mono ?_
  rintro r w7 ⟨rfl, h7, f7⟩
  have hB7 := HB6.out.step h7 f7
  obtain ⟨s7, hs7⟩ : ∃ z, z = (Rd.name s5).1 := ⟨_, rfl⟩
  obtain ⟨nm, hnm⟩ : ∃ z, z = (Rd.name s5).2 := ⟨_, rfl⟩
  rw [← hs7] at hB7
  rw [← hnm]
  have HS7 := Lib.hid hs7
  have HNM := Lib.hid hnm
  have HB7 := Lib.hid hB7
  clear h7 f7 hB7 hs7 hnm k2
  have y0 := blk_cell HB7.out.b6 0 (.int .i64 kd) rfl
  have yf0 := blk_free HB7.out.b6 0
  have y1 := blk_cell HB7.out.b6 1 (.string ⟨#[]⟩) rfl
  have yf1 := blk_free HB7.out.b6 1
  have HB8 := Lib.hid (HB7.out.put 1 (.string ⟨nm.toArray⟩))
  have l6 := HB7.out.lx _ HMR.out
  simp only at l6
  have n1 : ¬ x = w.heap.size := by omega
  have n2 : ¬ w.heap.size = x := by omega
  have n3 : ¬ x = w.heap.size + 1 := by omega
  have n4 : ¬ w.heap.size + 1 = x := by omega
  have HDEF : Hid (Sd.def_ (n + 1) s = Sd.body (n + 1) kd nm tk.at_ s7) := by
    rw [HDEF5.out, ← HS7.out, ← HNM.out]
    exact Lib.hid rfl
  have HOK7 : Hid (Rd.Ok s s7) := by
    rw [HS7.out]
    exact Lib.hid (HOK5.out.trans (Rd.ok_name _))
  have HDP7 : Hid (s7.deep = s.deep) := by
    rw [HS7.out, Rd.name_deep]
    exact HDP5
  have HN7 : Hid (s7.err ≠ 0 ∨ s7.rest.length ≤ n) := by
    refine Lib.hid ?_
    rcases HN.out with h | h
    · left; rw [HOK7.out.err h]; exact h
    · right; exact Nat.le_trans HOK7.out.len h
  have HFI := Lib.hid (fun (s1 : Rd.St) (w2 : World) (hr : s1.rest.length ≤ n) (hdp : s1.deep = s.deep) (hr2 : RdAt w2 b g s1) => input_any b g n hnb s1 w2 hr2 (.inr hr) (by rw [hdp]; omega))
  have HFF := Lib.hid (fun (s1 : Rd.St) (w2 : World) (hr : s1.rest.length ≤ n) (hdp : s1.deep = s.deep) (hr2 : RdAt w2 b g s1) => field_any b g n hnb s1 w2 hr2 (.inr hr) (by rw [hdp]; omega))
  have e2 := eqF (n := kd) (k := 2) (by omega)
  have e3 := eqF (n := kd) (k := 3) (by omega)
  have e4 := eqF (n := kd) (k := 4) (by omega)
  have e5 := eqF (n := kd) (k := 5) (by omega)
  have e6 := eqF (n := kd) (k := 6) (by omega)
  have HKC : Hid (kd < 2) := Lib.hid hkc
  clear hkc hkl y0 yf0 y1 yf1
  have y0 := blk_cell HB7.out.b6 0 (.int .i64 kd) rfl
  have yf0 := blk_free HB7.out.b6 0
  have y1 := blk_cell HB7.out.b6 1 (.string ⟨#[]⟩) rfl
  have yf1 := blk_free HB7.out.b6 1
  have y2 := blk_cell HB7.out.b6 2 (.slice none 0 0) rfl
  have yf2 := blk_free HB7.out.b6 2
  have y3 := blk_cell HB7.out.b6 3 (.slice none 0 0) rfl
  have yf3 := blk_free HB7.out.b6 3
  have y4 := blk_cell HB7.out.b6 4 (.slice none 0 0) rfl
  have yf4 := blk_free HB7.out.b6 4
  have y5 := blk_cell HB7.out.b6 5 (.slice none 0 0) rfl
  have yf5 := blk_free HB7.out.b6 5
  have y6 := blk_cell HB7.out.b6 6 (.int .i64 tk.at_) rfl
  have yf6 := blk_free HB7.out.b6 6
  have z0 := blk_cell (HB7.out.cb _ HMR.out) 0 (.int .i64 0) rfl
  have zf0 := blk_free (HB7.out.cb _ HMR.out) 0
  have z1 := blk_cell (HB7.out.cb _ HMR.out) 1 (.string ⟨#[]⟩) rfl
  have zf1 := blk_free (HB7.out.cb _ HMR.out) 1
  have z2 := blk_cell (HB7.out.cb _ HMR.out) 2 (.slice none 0 0) rfl
  have zf2 := blk_free (HB7.out.cb _ HMR.out) 2
  have z3 := blk_cell (HB7.out.cb _ HMR.out) 3 (.slice none 0 0) rfl
  have zf3 := blk_free (HB7.out.cb _ HMR.out) 3
  have z4 := blk_cell (HB7.out.cb _ HMR.out) 4 (.slice none 0 0) rfl
  have zf4 := blk_free (HB7.out.cb _ HMR.out) 4
  have z5 := blk_cell (HB7.out.cb _ HMR.out) 5 (.slice none 0 0) rfl
  have zf5 := blk_free (HB7.out.cb _ HMR.out) 5
  have z6 := blk_cell (HB7.out.cb _ HMR.out) 6 (.int .i64 0) rfl
  have zf6 := blk_free (HB7.out.cb _ HMR.out) 6
  have HBz : Hid (BI w b g x [(w.heap.size, Obj.cells #[.pointer (some ⟨b, 0, none⟩)] 73 (0, 0)), (w.heap.size + 1, Obj.cells #[.int .i64 0, .string ⟨#[]⟩, .slice none 0 0, .slice none 0 0, .slice none 0 0, .slice none 0 0, .int .i64 0] 38 (0, 0))] 38 [.int .i64 kd, .string ⟨nm.toArray⟩, .slice none 0 0, .slice none 0 0, .slice none 0 0, .slice none 0 0, .int .i64 tk.at_].toArray s7 (w7.setCell ⟨x, 1, none⟩ (.string ⟨nm.toArray⟩))) := HB8
  have HRS : Hid (Reads (w7.setCell ⟨x, 1, none⟩ (.string ⟨nm.toArray⟩)) (fun z => x < z) (Sd.Td.d ⟨kd, nm, [], [], [], [], tk.at_⟩) [.int .i64 kd, .string ⟨nm.toArray⟩, .slice none 0 0, .slice none 0 0, .slice none 0 0, .slice none 0 0, .int .i64 tk.at_]) := by
    unfold Sd.Td.d
    exact Lib.hid (.obj (.cons (.int _) (.cons (.str _) (.cons (.seq (cap := 0) .nil) (.cons (.seq (cap := 0) .nil) (.cons (.seq (cap := 0) .nil) (.cons (.seq (cap := 0) .nil) (.cons (.int _) .nil))))))))
  have HE : Hid (Sd.def_ (n + 1) s = (s7, ⟨kd, nm, [], [], [], [], tk.at_⟩)) := by rw [HDEF.out]; unfold Sd.body; rw [if_neg (by have := HKC.out; omega)]; rw [if_neg (by have := HKC.out; omega), if_neg (by have := HKC.out; omega), if_neg (by have := HKC.out; omega)]; exact Lib.hid rfl
  have hfin := HBz.out.fin HMR.out HRS.out (fun z hz => hz)
  simp only [putCells, Nat.reduceAdd, Nat.zero_add] at hfin
  have HFN := Lib.hid hfin
  clear hfin
  go_wp2_with fail
  refine bodyPost_ret (v := .agg #[.int .i64 kd, .string ⟨nm.toArray⟩, .slice none 0 0, .slice none 0 0, .slice none 0 0, .slice none 0 0, .int .i64 tk.at_]) (by simp [results, Tryz.results35, go_sem, z0, z1, z2, z3, z4, z5, z6, n1, n2, n3, n4]) rfl ?_
  rw [HE.out]
  exact ⟨_, rfl, HFN.out⟩
set_option maxHeartbeats 2000000 in
set_option maxRecDepth 100000 in
theorem def_tail4 (b g n : Nat) (hnb : n ≤ 1600) (s : Rd.St) (w : World) (hlb : b < w.heap.size ∧ g < w.heap.size) (HN : Hid (s.err ≠ 0 ∨ s.rest.length ≤ n)) (d0 : 0 ≤ s.deep) (d1 : s.deep + n ≤ 900000) (kd x : Nat) (tk : Lx.Tok) (s5 : Rd.St) (w6 : World)
    (HB6 : Hid (BI w b g x [(w.heap.size, Obj.cells #[.pointer (some ⟨b, 0, none⟩)] 73 (0, 0)), (w.heap.size + 1, Obj.cells #[.int .i64 0, .string ⟨#[]⟩, .slice none 0 0, .slice none 0 0, .slice none 0 0, .slice none 0 0, .int .i64 0] 38 (0, 0))] 38 #[.int .i64 kd, .string ⟨#[]⟩, .slice none 0 0, .slice none 0 0, .slice none 0 0, .slice none 0 0, .int .i64 tk.at_] s5 w6)) (HDEF5 : Hid (Sd.def_ (n + 1) s = Sd.body (n + 1) kd (Rd.name s5).2 tk.at_ (Rd.name s5).1)) (HOK5 : Hid (Rd.Ok s s5)) (HDP5 : Hid (s5.deep = s.deep)) (hkl : kd ≤ 6) (hkc : kd = 4) (c3 c5 c6 c7 c8 c9 c10 c11 c12 c13 c14 c15 c16 c17 c18 c19 c20 c21 c22 c23 c24 c25 c26 c27 c28 : Value) :
    Code.wp Tryz.prog defRest (bodyPost Tryz.prog Tryz.f35 (Got b g w (Sd.def_ (n + 1) s).2.d (Sd.def_ (n + 1) s).1)) ⟨#[(.pointer (some ⟨b, 0, none⟩)), .pointer (some ⟨w.heap.size, 0, none⟩), .pointer (some ⟨w.heap.size + 1, 0, none⟩), c3, .pointer (some ⟨x, 0, none⟩), c5, c6, c7, c8, c9, c10, c11, c12, c13, c14, c15, c16, c17, c18, c19, c20, c21, c22, c23, c24, c25, c26, c27, c28, undef, undef, undef, undef, undef, undef, undef, undef, undef, undef, undef, undef, undef, undef, undef, undef, undef, undef, undef, undef, undef, undef, undef, undef, undef, undef, undef, undef, undef, undef, undef, undef, undef, undef, undef, undef, undef, undef, undef, undef, undef, undef, undef, undef, undef], []⟩ w6 := by
  have HMB : Hid ((w.heap.size, Obj.cells #[.pointer (some ⟨b, 0, none⟩)] 73 (0, 0)) ∈ [(w.heap.size, Obj.cells #[.pointer (some ⟨b, 0, none⟩)] 73 (0, 0)), (w.heap.size + 1, Obj.cells #[.int .i64 0, .string ⟨#[]⟩, .slice none 0 0, .slice none 0 0, .slice none 0 0, .slice none 0 0, .int .i64 0] 38 (0, 0))]) := Lib.hid List.mem_cons_self
  have HMR : Hid ((w.heap.size + 1, Obj.cells #[.int .i64 0, .string ⟨#[]⟩, .slice none 0 0, .slice none 0 0, .slice none 0 0, .slice none 0 0, .int .i64 0] 38 (0, 0)) ∈ [(w.heap.size, Obj.cells #[.pointer (some ⟨b, 0, none⟩)] 73 (0, 0)), (w.heap.size + 1, Obj.cells #[.int .i64 0, .string ⟨#[]⟩, .slice none 0 0, .slice none 0 0, .slice none 0 0, .slice none 0 0, .int .i64 0] 38 (0, 0))]) := Lib.hid (List.mem_cons_of_mem _ List.mem_cons_self)
  conv => arg 2; whnf
  have k2 : _ := HB6.out.cellx HMB.out
  go_wp2_with fail
  refine (rname_any b g s5 w6 HB6.out.rd).mono ?_
  rintro r w7 ⟨rfl, h7, f7⟩
  have hB7 := HB6.out.step h7 f7
  obtain ⟨s7, hs7⟩ : ∃ z, z = (Rd.name s5).1 := ⟨_, rfl⟩
  obtain ⟨nm, hnm⟩ : ∃ z, z = (Rd.name s5).2 := ⟨_, rfl⟩
  rw [← hs7] at hB7
  rw [← hnm]
  have HS7 := Lib.hid hs7
  have HNM := Lib.hid hnm
  have HB7 := Lib.hid hB7
  clear h7 f7 hB7 hs7 hnm k2
  have y0 := blk_cell HB7.out.b6 0 (.int .i64 kd) rfl
  have yf0 := blk_free HB7.out.b6 0
  have y1 := blk_cell HB7.out.b6 1 (.string ⟨#[]⟩) rfl
  have yf1 := blk_free HB7.out.b6 1
  have HB8 := Lib.hid (HB7.out.put 1 (.string ⟨nm.toArray⟩))
  have l6 := HB7.out.lx _ HMR.out
  simp only at l6
  have n1 : ¬ x = w.heap.size := by omega
  have n2 : ¬ w.heap.size = x := by omega
  have n3 : ¬ x = w.heap.size + 1 := by omega
  have n4 : ¬ w.heap.size + 1 = x := by omega
  have HDEF : Hid (Sd.def_ (n + 1) s = Sd.body (n + 1) kd nm tk.at_ s7) := by
    rw [HDEF5.out, ← HS7.out, ← HNM.out]
    exact Lib.hid rfl
  have HOK7 : Hid (Rd.Ok s s7) := by
    rw [HS7.out]
    exact Lib.hid (HOK5.out.trans (Rd.ok_name _))
  have HDP7 : Hid (s7.deep = s.deep) := by
    rw [HS7.out, Rd.name_deep]
    exact HDP5
  have HN7 : Hid (s7.err ≠ 0 ∨ s7.rest.length ≤ n) := by
    refine Lib.hid ?_
    rcases HN.out with h | h
    · left; rw [HOK7.out.err h]; exact h
    · right; exact Nat.le_trans HOK7.out.len h
  have HFI := Lib.hid (fun (s1 : Rd.St) (w2 : World) (hr : s1.rest.length ≤ n) (hdp : s1.deep = s.deep) (hr2 : RdAt w2 b g s1) => input_any b g n hnb s1 w2 hr2 (.inr hr) (by rw [hdp]; omega))
  have HFF := Lib.hid (fun (s1 : Rd.St) (w2 : World) (hr : s1.rest.length ≤ n) (hdp : s1.deep = s.deep) (hr2 : RdAt w2 b g s1) => field_any b g n hnb s1 w2 hr2 (.inr hr) (by rw [hdp]; omega))
  have e2 := eqF (n := kd) (k := 2) (by omega)
  have e3 := eqF (n := kd) (k := 3) (by omega)
  have e4 := eqT (n := kd) (k := 4) (by omega)
  have e5 := eqF (n := kd) (k := 5) (by omega)
  have e6 := eqF (n := kd) (k := 6) (by omega)
  have HKC : Hid (kd = 4) := Lib.hid hkc
  clear hkc hkl
  have k2 : _ := HB7.out.cellx HMB.out
  go_wp2_with fail
  refine (rtake_any b g s7 Sd.eq_ _ HB8.out.rd).mono ?_
  rintro r w9 ⟨rfl, h9, f9⟩
  have HB9 := Lib.hid (HB8.out.step h9 f9)
  obtain ⟨B, hB⟩ : ∃ B, B = Rd.isS s7 Sd.eq_ := ⟨_, rfl⟩
  have HB := Lib.hid hB
  rw [← hB]
  clear hB h9 f9 k2 y0 yf0 y1 yf1
  cases B
  · have HT : Hid (Rd.take Sd.eq_ s7 = s7) := by unfold Rd.take; rw [if_neg (by rw [← HB.out]; simp)]; exact Lib.hid rfl
    have HBy : Hid (BI w b g x [(w.heap.size, Obj.cells #[.pointer (some ⟨b, 0, none⟩)] 73 (0, 0)), (w.heap.size + 1, Obj.cells #[.int .i64 0, .string ⟨#[]⟩, .slice none 0 0, .slice none 0 0, .slice none 0 0, .slice none 0 0, .int .i64 0] 38 (0, 0))] 38 #[.int .i64 kd, .string ⟨nm.toArray⟩, .slice none 0 0, .slice none 0 0, .slice none 0 0, .slice none 0 0, .int .i64 tk.at_] s7 w9) := by rw [HT.out] at HB9; exact HB9
    have y0 := blk_cell HBy.out.b6 0 (.int .i64 kd) rfl
    have yf0 := blk_free HBy.out.b6 0
    have y1 := blk_cell HBy.out.b6 1 (.string ⟨nm.toArray⟩) rfl
    have yf1 := blk_free HBy.out.b6 1
    have y2 := blk_cell HBy.out.b6 2 (.slice none 0 0) rfl
    have yf2 := blk_free HBy.out.b6 2
    have y3 := blk_cell HBy.out.b6 3 (.slice none 0 0) rfl
    have yf3 := blk_free HBy.out.b6 3
    have y4 := blk_cell HBy.out.b6 4 (.slice none 0 0) rfl
    have yf4 := blk_free HBy.out.b6 4
    have y5 := blk_cell HBy.out.b6 5 (.slice none 0 0) rfl
    have yf5 := blk_free HBy.out.b6 5
    have y6 := blk_cell HBy.out.b6 6 (.int .i64 tk.at_) rfl
    have yf6 := blk_free HBy.out.b6 6
    have z0 := blk_cell (HBy.out.cb _ HMR.out) 0 (.int .i64 0) rfl
    have zf0 := blk_free (HBy.out.cb _ HMR.out) 0
    have z1 := blk_cell (HBy.out.cb _ HMR.out) 1 (.string ⟨#[]⟩) rfl
    have zf1 := blk_free (HBy.out.cb _ HMR.out) 1
    have z2 := blk_cell (HBy.out.cb _ HMR.out) 2 (.slice none 0 0) rfl
    have zf2 := blk_free (HBy.out.cb _ HMR.out) 2
    have z3 := blk_cell (HBy.out.cb _ HMR.out) 3 (.slice none 0 0) rfl
    have zf3 := blk_free (HBy.out.cb _ HMR.out) 3
    have z4 := blk_cell (HBy.out.cb _ HMR.out) 4 (.slice none 0 0) rfl
    have zf4 := blk_free (HBy.out.cb _ HMR.out) 4
    have z5 := blk_cell (HBy.out.cb _ HMR.out) 5 (.slice none 0 0) rfl
    have zf5 := blk_free (HBy.out.cb _ HMR.out) 5
    have z6 := blk_cell (HBy.out.cb _ HMR.out) 6 (.int .i64 0) rfl
    have zf6 := blk_free (HBy.out.cb _ HMR.out) 6
    have HBz : Hid (BI w b g x [(w.heap.size, Obj.cells #[.pointer (some ⟨b, 0, none⟩)] 73 (0, 0)), (w.heap.size + 1, Obj.cells #[.int .i64 0, .string ⟨#[]⟩, .slice none 0 0, .slice none 0 0, .slice none 0 0, .slice none 0 0, .int .i64 0] 38 (0, 0))] 38 [.int .i64 kd, .string ⟨nm.toArray⟩, .slice none 0 0, .slice none 0 0, .slice none 0 0, .slice none 0 0, .int .i64 tk.at_].toArray s7 (w9)) := HBy
    have HRS : Hid (Reads (w9) (fun z => x < z) (Sd.Td.d ⟨kd, nm, [], [], [], [], tk.at_⟩) [.int .i64 kd, .string ⟨nm.toArray⟩, .slice none 0 0, .slice none 0 0, .slice none 0 0, .slice none 0 0, .int .i64 tk.at_]) := by
      unfold Sd.Td.d
      exact Lib.hid (.obj (.cons (.int _) (.cons (.str _) (.cons (.seq (cap := 0) .nil) (.cons (.seq (cap := 0) .nil) (.cons (.seq (cap := 0) .nil) (.cons (.seq (cap := 0) .nil) (.cons (.int _) .nil))))))))
    have HE : Hid (Sd.def_ (n + 1) s = (s7, ⟨kd, nm, [], [], [], [], tk.at_⟩)) := by rw [HDEF.out]; unfold Sd.body; rw [if_neg (by have := HKC.out; omega)]; rw [if_pos HKC.out]; rw [if_neg (by rw [← HB.out]; simp)]; exact Lib.hid rfl
    have hfin := HBz.out.fin HMR.out HRS.out (fun z hz => hz)
    simp only [putCells, Nat.reduceAdd, Nat.zero_add] at hfin
    have HFN := Lib.hid hfin
    clear hfin
    go_wp2_with fail
    refine bodyPost_ret (v := .agg #[.int .i64 kd, .string ⟨nm.toArray⟩, .slice none 0 0, .slice none 0 0, .slice none 0 0, .slice none 0 0, .int .i64 tk.at_]) (by simp [results, Tryz.results35, go_sem, z0, z1, z2, z3, z4, z5, z6, n1, n2, n3, n4]) rfl ?_
    rw [HE.out]
    exact ⟨_, rfl, HFN.out⟩
  · have HT : Hid (Rd.take Sd.eq_ s7 = Rd.next s7) := by unfold Rd.take; rw [if_pos HB.out.symm]; exact Lib.hid rfl
    have HBy : Hid (BI w b g x [(w.heap.size, Obj.cells #[.pointer (some ⟨b, 0, none⟩)] 73 (0, 0)), (w.heap.size + 1, Obj.cells #[.int .i64 0, .string ⟨#[]⟩, .slice none 0 0, .slice none 0 0, .slice none 0 0, .slice none 0 0, .int .i64 0] 38 (0, 0))] 38 #[.int .i64 kd, .string ⟨nm.toArray⟩, .slice none 0 0, .slice none 0 0, .slice none 0 0, .slice none 0 0, .int .i64 tk.at_] (Rd.next s7) w9) := by rw [HT.out] at HB9; exact HB9
    have k2 : _ := HBy.out.cellx HMB.out
    go_wp2_with fail
    refine (rnames_any b g (Rd.next s7) Sd.bar _ HBy.out.rd).mono ?_
    rintro r w11 ⟨ia, ic, rfl, hrd, h11, f11⟩
    have HB11 := Lib.hid (HBy.out.step h11 f11)
    obtain ⟨NS, hNS⟩ : ∃ z, z = Sd.names Sd.bar (Rd.next s7) := ⟨_, rfl⟩
    rw [← hNS] at HB11 hrd
    rw [← hNS]
    have HNS := Lib.hid hNS
    obtain ⟨inn, hin⟩ : ∃ z, z = (sds NS.2).length := ⟨_, rfl⟩
    rw [← hin] at hrd ⊢
    have HIV := Lib.hid (hrd.to (w' := w11.setCell ⟨x, 4, none⟩ (.slice ia inn ic)) (Q := fun z => x < z) ⟨by rw [size_set]; exact Nat.le_refl _, fun z hz hp => ⟨by have h2 := block_lt HBy.out.b6; have h3 : _ ≤ z := hp; show x < z; omega, heap_set_ne (by have h2 := block_lt HBy.out.b6; have h3 : _ ≤ z := hp; omega)⟩⟩)
    have HB12 : Hid (BI w b g x [(w.heap.size, Obj.cells #[.pointer (some ⟨b, 0, none⟩)] 73 (0, 0)), (w.heap.size + 1, Obj.cells #[.int .i64 0, .string ⟨#[]⟩, .slice none 0 0, .slice none 0 0, .slice none 0 0, .slice none 0 0, .int .i64 0] 38 (0, 0))] 38 #[.int .i64 kd, .string ⟨nm.toArray⟩, .slice none 0 0, .slice none 0 0, .slice ia inn ic, .slice none 0 0, .int .i64 tk.at_] NS.1 (w11.setCell ⟨x, 4, none⟩ (.slice ia inn ic))) := Lib.hid (HB11.out.put 4 (.slice ia inn ic))
    clear h11 f11 hrd hNS hin k2
    have y0 := blk_cell HB11.out.b6 0 (.int .i64 kd) rfl
    have yf0 := blk_free HB11.out.b6 0
    have y1 := blk_cell HB11.out.b6 1 (.string ⟨nm.toArray⟩) rfl
    have yf1 := blk_free HB11.out.b6 1
    have y2 := blk_cell HB11.out.b6 2 (.slice none 0 0) rfl
    have yf2 := blk_free HB11.out.b6 2
    have y3 := blk_cell HB11.out.b6 3 (.slice none 0 0) rfl
    have yf3 := blk_free HB11.out.b6 3
    have y4 := blk_cell HB11.out.b6 4 (.slice none 0 0) rfl
    have yf4 := blk_free HB11.out.b6 4
    have y5 := blk_cell HB11.out.b6 5 (.slice none 0 0) rfl
    have yf5 := blk_free HB11.out.b6 5
    have y6 := blk_cell HB11.out.b6 6 (.int .i64 tk.at_) rfl
    have yf6 := blk_free HB11.out.b6 6
    have z0 := blk_cell (HB11.out.cb _ HMR.out) 0 (.int .i64 0) rfl
    have zf0 := blk_free (HB11.out.cb _ HMR.out) 0
    have z1 := blk_cell (HB11.out.cb _ HMR.out) 1 (.string ⟨#[]⟩) rfl
    have zf1 := blk_free (HB11.out.cb _ HMR.out) 1
    have z2 := blk_cell (HB11.out.cb _ HMR.out) 2 (.slice none 0 0) rfl
    have zf2 := blk_free (HB11.out.cb _ HMR.out) 2
    have z3 := blk_cell (HB11.out.cb _ HMR.out) 3 (.slice none 0 0) rfl
    have zf3 := blk_free (HB11.out.cb _ HMR.out) 3
    have z4 := blk_cell (HB11.out.cb _ HMR.out) 4 (.slice none 0 0) rfl
    have zf4 := blk_free (HB11.out.cb _ HMR.out) 4
    have z5 := blk_cell (HB11.out.cb _ HMR.out) 5 (.slice none 0 0) rfl
    have zf5 := blk_free (HB11.out.cb _ HMR.out) 5
    have z6 := blk_cell (HB11.out.cb _ HMR.out) 6 (.int .i64 0) rfl
    have zf6 := blk_free (HB11.out.cb _ HMR.out) 6
    have HBz : Hid (BI w b g x [(w.heap.size, Obj.cells #[.pointer (some ⟨b, 0, none⟩)] 73 (0, 0)), (w.heap.size + 1, Obj.cells #[.int .i64 0, .string ⟨#[]⟩, .slice none 0 0, .slice none 0 0, .slice none 0 0, .slice none 0 0, .int .i64 0] 38 (0, 0))] 38 [.int .i64 kd, .string ⟨nm.toArray⟩, .slice none 0 0, .slice none 0 0, .slice ia inn ic, .slice none 0 0, .int .i64 tk.at_].toArray NS.1 (w11.setCell ⟨x, 4, none⟩ (.slice ia inn ic))) := HB12
    have HRS : Hid (Reads (w11.setCell ⟨x, 4, none⟩ (.slice ia inn ic)) (fun z => x < z) (Sd.Td.d ⟨kd, nm, [], [], NS.2, [], tk.at_⟩) [.int .i64 kd, .string ⟨nm.toArray⟩, .slice none 0 0, .slice none 0 0, .slice ia inn ic, .slice none 0 0, .int .i64 tk.at_]) := by
      unfold Sd.Td.d
      exact Lib.hid (.obj (.cons (.int _) (.cons (.str _) (.cons (.seq (cap := 0) .nil) (.cons (.seq (cap := 0) .nil) (.cons (HIV.out) (.cons (.seq (cap := 0) .nil) (.cons (.int _) .nil))))))))
    have HE : Hid (Sd.def_ (n + 1) s = (NS.1, ⟨kd, nm, [], [], NS.2, [], tk.at_⟩)) := by rw [HDEF.out]; unfold Sd.body; rw [if_neg (by have := HKC.out; omega)]; rw [if_pos HKC.out]; rw [if_pos HB.out.symm]; exact Lib.hid (by rw [← HNS.out])
    have hfin := HBz.out.fin HMR.out HRS.out (fun z hz => hz)
    simp only [putCells, Nat.reduceAdd, Nat.zero_add] at hfin
    have HFN := Lib.hid hfin
    clear hfin
    go_wp2_with fail
    refine bodyPost_ret (v := .agg #[.int .i64 kd, .string ⟨nm.toArray⟩, .slice none 0 0, .slice none 0 0, .slice ia inn ic, .slice none 0 0, .int .i64 tk.at_]) (by simp [results, Tryz.results35, go_sem, z0, z1, z2, z3, z4, z5, z6, n1, n2, n3, n4]) rfl ?_
    rw [HE.out]
    exact ⟨_, rfl, HFN.out⟩
set_option maxHeartbeats 2000000 in
set_option maxRecDepth 100000 in
theorem def_tail5 (b g n : Nat) (hnb : n ≤ 1600) (s : Rd.St) (w : World) (hlb : b < w.heap.size ∧ g < w.heap.size) (HN : Hid (s.err ≠ 0 ∨ s.rest.length ≤ n)) (d0 : 0 ≤ s.deep) (d1 : s.deep + n ≤ 900000) (kd x : Nat) (tk : Lx.Tok) (s5 : Rd.St) (w6 : World)
    (HB6 : Hid (BI w b g x [(w.heap.size, Obj.cells #[.pointer (some ⟨b, 0, none⟩)] 73 (0, 0)), (w.heap.size + 1, Obj.cells #[.int .i64 0, .string ⟨#[]⟩, .slice none 0 0, .slice none 0 0, .slice none 0 0, .slice none 0 0, .int .i64 0] 38 (0, 0))] 38 #[.int .i64 kd, .string ⟨#[]⟩, .slice none 0 0, .slice none 0 0, .slice none 0 0, .slice none 0 0, .int .i64 tk.at_] s5 w6)) (HDEF5 : Hid (Sd.def_ (n + 1) s = Sd.body (n + 1) kd (Rd.name s5).2 tk.at_ (Rd.name s5).1)) (HOK5 : Hid (Rd.Ok s s5)) (HDP5 : Hid (s5.deep = s.deep)) (hkl : kd ≤ 6) (hkc : kd = 5) (c3 c5 c6 c7 c8 c9 c10 c11 c12 c13 c14 c15 c16 c17 c18 c19 c20 c21 c22 c23 c24 c25 c26 c27 c28 : Value) :
    Code.wp Tryz.prog defRest (bodyPost Tryz.prog Tryz.f35 (Got b g w (Sd.def_ (n + 1) s).2.d (Sd.def_ (n + 1) s).1)) ⟨#[(.pointer (some ⟨b, 0, none⟩)), .pointer (some ⟨w.heap.size, 0, none⟩), .pointer (some ⟨w.heap.size + 1, 0, none⟩), c3, .pointer (some ⟨x, 0, none⟩), c5, c6, c7, c8, c9, c10, c11, c12, c13, c14, c15, c16, c17, c18, c19, c20, c21, c22, c23, c24, c25, c26, c27, c28, undef, undef, undef, undef, undef, undef, undef, undef, undef, undef, undef, undef, undef, undef, undef, undef, undef, undef, undef, undef, undef, undef, undef, undef, undef, undef, undef, undef, undef, undef, undef, undef, undef, undef, undef, undef, undef, undef, undef, undef, undef, undef, undef, undef, undef], []⟩ w6 := by
  have HMB : Hid ((w.heap.size, Obj.cells #[.pointer (some ⟨b, 0, none⟩)] 73 (0, 0)) ∈ [(w.heap.size, Obj.cells #[.pointer (some ⟨b, 0, none⟩)] 73 (0, 0)), (w.heap.size + 1, Obj.cells #[.int .i64 0, .string ⟨#[]⟩, .slice none 0 0, .slice none 0 0, .slice none 0 0, .slice none 0 0, .int .i64 0] 38 (0, 0))]) := Lib.hid List.mem_cons_self
  have HMR : Hid ((w.heap.size + 1, Obj.cells #[.int .i64 0, .string ⟨#[]⟩, .slice none 0 0, .slice none 0 0, .slice none 0 0, .slice none 0 0, .int .i64 0] 38 (0, 0)) ∈ [(w.heap.size, Obj.cells #[.pointer (some ⟨b, 0, none⟩)] 73 (0, 0)), (w.heap.size + 1, Obj.cells #[.int .i64 0, .string ⟨#[]⟩, .slice none 0 0, .slice none 0 0, .slice none 0 0, .slice none 0 0, .int .i64 0] 38 (0, 0))]) := Lib.hid (List.mem_cons_of_mem _ List.mem_cons_self)
  conv => arg 2; whnf
  have k2 : _ := HB6.out.cellx HMB.out
  go_wp2_with fail
  refine (rname_any b g s5 w6 HB6.out.rd).mono ?_
  rintro r w7 ⟨rfl, h7, f7⟩
  have hB7 := HB6.out.step h7 f7
  obtain ⟨s7, hs7⟩ : ∃ z, z = (Rd.name s5).1 := ⟨_, rfl⟩
  obtain ⟨nm, hnm⟩ : ∃ z, z = (Rd.name s5).2 := ⟨_, rfl⟩
  rw [← hs7] at hB7
  rw [← hnm]
  have HS7 := Lib.hid hs7
  have HNM := Lib.hid hnm
  have HB7 := Lib.hid hB7
  clear h7 f7 hB7 hs7 hnm k2
  have y0 := blk_cell HB7.out.b6 0 (.int .i64 kd) rfl
  have yf0 := blk_free HB7.out.b6 0
  have y1 := blk_cell HB7.out.b6 1 (.string ⟨#[]⟩) rfl
  have yf1 := blk_free HB7.out.b6 1
  have HB8 := Lib.hid (HB7.out.put 1 (.string ⟨nm.toArray⟩))
  have l6 := HB7.out.lx _ HMR.out
  simp only at l6
  have n1 : ¬ x = w.heap.size := by omega
  have n2 : ¬ w.heap.size = x := by omega
  have n3 : ¬ x = w.heap.size + 1 := by omega
  have n4 : ¬ w.heap.size + 1 = x := by omega
  have HDEF : Hid (Sd.def_ (n + 1) s = Sd.body (n + 1) kd nm tk.at_ s7) := by
    rw [HDEF5.out, ← HS7.out, ← HNM.out]
    exact Lib.hid rfl
  have HOK7 : Hid (Rd.Ok s s7) := by
    rw [HS7.out]
    exact Lib.hid (HOK5.out.trans (Rd.ok_name _))
  have HDP7 : Hid (s7.deep = s.deep) := by
    rw [HS7.out, Rd.name_deep]
    exact HDP5
  have HN7 : Hid (s7.err ≠ 0 ∨ s7.rest.length ≤ n) := by
    refine Lib.hid ?_
    rcases HN.out with h | h
    · left; rw [HOK7.out.err h]; exact h
    · right; exact Nat.le_trans HOK7.out.len h
  have HFI := Lib.hid (fun (s1 : Rd.St) (w2 : World) (hr : s1.rest.length ≤ n) (hdp : s1.deep = s.deep) (hr2 : RdAt w2 b g s1) => input_any b g n hnb s1 w2 hr2 (.inr hr) (by rw [hdp]; omega))
  have HFF := Lib.hid (fun (s1 : Rd.St) (w2 : World) (hr : s1.rest.length ≤ n) (hdp : s1.deep = s.deep) (hr2 : RdAt w2 b g s1) => field_any b g n hnb s1 w2 hr2 (.inr hr) (by rw [hdp]; omega))
  have e2 := eqF (n := kd) (k := 2) (by omega)
  have e3 := eqF (n := kd) (k := 3) (by omega)
  have e4 := eqF (n := kd) (k := 4) (by omega)
  have e5 := eqT (n := kd) (k := 5) (by omega)
  have e6 := eqF (n := kd) (k := 6) (by omega)
  have HKC : Hid (kd = 5) := Lib.hid hkc
  clear hkc hkl
  have HLI : Hid (LI w b g x [(w.heap.size, Obj.cells #[.pointer (some ⟨b, 0, none⟩)] 73 (0, 0)), (w.heap.size + 1, Obj.cells #[.int .i64 0, .string ⟨#[]⟩, .slice none 0 0, .slice none 0 0, .slice none 0 0, .slice none 0 0, .int .i64 0] 38 (0, 0))] 38 (mkTM kd ⟨nm.toArray⟩ tk.at_) 9 1 s7 [] (w7.setCell ⟨x, 1, none⟩ (.string ⟨nm.toArray⟩))) := Lib.hid (BI.li HB8.out)
  have HCL : Hid (∀ (s1 : Rd.St) (out : List (List UInt8)) (w1 : World), LI w b g x [(w.heap.size, Obj.cells #[.pointer (some ⟨b, 0, none⟩)] 73 (0, 0)), (w.heap.size + 1, Obj.cells #[.int .i64 0, .string ⟨#[]⟩, .slice none 0 0, .slice none 0 0, .slice none 0 0, .slice none 0 0, .int .i64 0] 38 (0, 0))] 38 (mkTM kd ⟨nm.toArray⟩ tk.at_) 9 1 s1 (out.map D.str) w1 → s1.rest.length ≤ n → s1.deep = s.deep → out.length ≤ 1000000 →
      Calls Tryz.prog 77 #[.pointer (some ⟨x, 0, none⟩), .pointer (some ⟨w.heap.size, 0, none⟩)] w1 fun r w' => r = .returned (.tuple #[]) ∧ LI w b g x [(w.heap.size, Obj.cells #[.pointer (some ⟨b, 0, none⟩)] 73 (0, 0)), (w.heap.size + 1, Obj.cells #[.int .i64 0, .string ⟨#[]⟩, .slice none 0 0, .slice none 0 0, .slice none 0 0, .slice none 0 0, .int .i64 0] 38 (0, 0))] 38 (mkTM kd ⟨nm.toArray⟩ tk.at_) 9 1 (Sd.member s1).1 ((out ++ [(Sd.member s1).2]).map D.str) w') :=
    Lib.hid fun s1 out w1 hl hr hdp ho => by
      rw [List.map_append]
      exact defC2_any w b g x _ w.heap.size kd ⟨nm.toArray⟩ tk.at_ HMB.out s1 (out.map D.str) w1 (fun w2 hr2 => member_any b g s1 w2 hr2) hl (by rw [List.length_map]; exact ho)
  have k2 : _ := HB7.out.cellx HMB.out
  go_wp2_with fail
  refine (within_any w b g x [(w.heap.size, Obj.cells #[.pointer (some ⟨b, 0, none⟩)] 73 (0, 0)), (w.heap.size + 1, Obj.cells #[.int .i64 0, .string ⟨#[]⟩, .slice none 0 0, .slice none 0 0, .slice none 0 0, .slice none 0 0, .int .i64 0] 38 (0, 0))] 38 (mkTM kd ⟨nm.toArray⟩ tk.at_) 9 1 D.str (Sd.member) n s.deep 77 _ (enters_D2 _) hnb HCL.out Sd.member_deep Sd.ok_member Sd.member_goes s7 _ HLI.out HN7.out HDP7.out).mono ?_
  rintro r wl ⟨rfl, hL⟩
  have HL := Lib.hid hL
  clear hL k2 y0 yf0 y1 yf1
  obtain ⟨L, hLL⟩ : ∃ z, z = Sd.between Rd.lbrc Rd.rbrc (Sd.member) (n + 1) s7 := ⟨_, rfl⟩
  rw [← hLL] at HL
  have HLL := Lib.hid hLL
  obtain ⟨va, vc, hbx, hrv⟩ := HL.out.bi (bx' := [(w.heap.size, Obj.cells #[.pointer (some ⟨b, 0, none⟩)] 73 (0, 0)), (w.heap.size + 1, Obj.cells #[.int .i64 0, .string ⟨#[]⟩, .slice none 0 0, .slice none 0 0, .slice none 0 0, .slice none 0 0, .int .i64 0] 38 (0, 0))]) (fun p hp => ⟨hp, (HB7.out.lx p hp).2⟩)
  obtain ⟨vl, hvl⟩ : ∃ z, z = (L.2.map D.str).length := ⟨_, rfl⟩
  rw [← hvl] at hbx hrv
  have HBx : Hid (BI w b g x [(w.heap.size, Obj.cells #[.pointer (some ⟨b, 0, none⟩)] 73 (0, 0)), (w.heap.size + 1, Obj.cells #[.int .i64 0, .string ⟨#[]⟩, .slice none 0 0, .slice none 0 0, .slice none 0 0, .slice none 0 0, .int .i64 0] 38 (0, 0))] 38 #[.int .i64 kd, .string ⟨nm.toArray⟩, .slice none 0 0, .slice none 0 0, .slice va vl vc, .slice none 0 0, .int .i64 tk.at_] L.1 wl) := Lib.hid hbx
  have HRV := Lib.hid hrv
  clear hbx hrv hvl hLL
  have y0 := blk_cell HBx.out.b6 0 (.int .i64 kd) rfl
  have yf0 := blk_free HBx.out.b6 0
  have y1 := blk_cell HBx.out.b6 1 (.string ⟨nm.toArray⟩) rfl
  have yf1 := blk_free HBx.out.b6 1
  have y2 := blk_cell HBx.out.b6 2 (.slice none 0 0) rfl
  have yf2 := blk_free HBx.out.b6 2
  have y3 := blk_cell HBx.out.b6 3 (.slice none 0 0) rfl
  have yf3 := blk_free HBx.out.b6 3
  have y4 := blk_cell HBx.out.b6 4 (.slice va vl vc) rfl
  have yf4 := blk_free HBx.out.b6 4
  have y5 := blk_cell HBx.out.b6 5 (.slice none 0 0) rfl
  have yf5 := blk_free HBx.out.b6 5
  have y6 := blk_cell HBx.out.b6 6 (.int .i64 tk.at_) rfl
  have yf6 := blk_free HBx.out.b6 6
  have z0 := blk_cell (HBx.out.cb _ HMR.out) 0 (.int .i64 0) rfl
  have zf0 := blk_free (HBx.out.cb _ HMR.out) 0
  have z1 := blk_cell (HBx.out.cb _ HMR.out) 1 (.string ⟨#[]⟩) rfl
  have zf1 := blk_free (HBx.out.cb _ HMR.out) 1
  have z2 := blk_cell (HBx.out.cb _ HMR.out) 2 (.slice none 0 0) rfl
  have zf2 := blk_free (HBx.out.cb _ HMR.out) 2
  have z3 := blk_cell (HBx.out.cb _ HMR.out) 3 (.slice none 0 0) rfl
  have zf3 := blk_free (HBx.out.cb _ HMR.out) 3
  have z4 := blk_cell (HBx.out.cb _ HMR.out) 4 (.slice none 0 0) rfl
  have zf4 := blk_free (HBx.out.cb _ HMR.out) 4
  have z5 := blk_cell (HBx.out.cb _ HMR.out) 5 (.slice none 0 0) rfl
  have zf5 := blk_free (HBx.out.cb _ HMR.out) 5
  have z6 := blk_cell (HBx.out.cb _ HMR.out) 6 (.int .i64 0) rfl
  have zf6 := blk_free (HBx.out.cb _ HMR.out) 6
  have HBz : Hid (BI w b g x [(w.heap.size, Obj.cells #[.pointer (some ⟨b, 0, none⟩)] 73 (0, 0)), (w.heap.size + 1, Obj.cells #[.int .i64 0, .string ⟨#[]⟩, .slice none 0 0, .slice none 0 0, .slice none 0 0, .slice none 0 0, .int .i64 0] 38 (0, 0))] 38 [.int .i64 kd, .string ⟨nm.toArray⟩, .slice none 0 0, .slice none 0 0, .slice va vl vc, .slice none 0 0, .int .i64 tk.at_].toArray L.1 (wl)) := HBx
  have HRS : Hid (Reads (wl) (fun z => x < z) (Sd.Td.d ⟨kd, nm, [], [], L.2, [], tk.at_⟩) [.int .i64 kd, .string ⟨nm.toArray⟩, .slice none 0 0, .slice none 0 0, .slice va vl vc, .slice none 0 0, .int .i64 tk.at_]) := by
    unfold Sd.Td.d
    exact Lib.hid (.obj (.cons (.int _) (.cons (.str _) (.cons (.seq (cap := 0) .nil) (.cons (.seq (cap := 0) .nil) (.cons (HRV.out) (.cons (.seq (cap := 0) .nil) (.cons (.int _) .nil))))))))
  have HE : Hid (Sd.def_ (n + 1) s = (L.1, ⟨kd, nm, [], [], L.2, [], tk.at_⟩)) := by rw [HDEF.out]; unfold Sd.body; rw [if_neg (by have := HKC.out; omega)]; rw [if_neg (by have := HKC.out; omega), if_pos HKC.out]; exact Lib.hid (by rw [← HLL.out])
  have hfin := HBz.out.fin HMR.out HRS.out (fun z hz => hz)
  simp only [putCells, Nat.reduceAdd, Nat.zero_add] at hfin
  have HFN := Lib.hid hfin
  clear hfin
  go_wp2_with fail
  refine bodyPost_ret (v := .agg #[.int .i64 kd, .string ⟨nm.toArray⟩, .slice none 0 0, .slice none 0 0, .slice va vl vc, .slice none 0 0, .int .i64 tk.at_]) (by simp [results, Tryz.results35, go_sem, z0, z1, z2, z3, z4, z5, z6, n1, n2, n3, n4]) rfl ?_
  rw [HE.out]
  exact ⟨_, rfl, HFN.out⟩
set_option maxHeartbeats 2000000 in
set_option maxRecDepth 100000 in
theorem def_tail6 (b g n : Nat) (hnb : n ≤ 1600) (s : Rd.St) (w : World) (hlb : b < w.heap.size ∧ g < w.heap.size) (HN : Hid (s.err ≠ 0 ∨ s.rest.length ≤ n)) (d0 : 0 ≤ s.deep) (d1 : s.deep + n ≤ 900000) (kd x : Nat) (tk : Lx.Tok) (s5 : Rd.St) (w6 : World)
    (HB6 : Hid (BI w b g x [(w.heap.size, Obj.cells #[.pointer (some ⟨b, 0, none⟩)] 73 (0, 0)), (w.heap.size + 1, Obj.cells #[.int .i64 0, .string ⟨#[]⟩, .slice none 0 0, .slice none 0 0, .slice none 0 0, .slice none 0 0, .int .i64 0] 38 (0, 0))] 38 #[.int .i64 kd, .string ⟨#[]⟩, .slice none 0 0, .slice none 0 0, .slice none 0 0, .slice none 0 0, .int .i64 tk.at_] s5 w6)) (HDEF5 : Hid (Sd.def_ (n + 1) s = Sd.body (n + 1) kd (Rd.name s5).2 tk.at_ (Rd.name s5).1)) (HOK5 : Hid (Rd.Ok s s5)) (HDP5 : Hid (s5.deep = s.deep)) (hkl : kd ≤ 6) (hkc : kd = 6) (c3 c5 c6 c7 c8 c9 c10 c11 c12 c13 c14 c15 c16 c17 c18 c19 c20 c21 c22 c23 c24 c25 c26 c27 c28 : Value) :
    Code.wp Tryz.prog defRest (bodyPost Tryz.prog Tryz.f35 (Got b g w (Sd.def_ (n + 1) s).2.d (Sd.def_ (n + 1) s).1)) ⟨#[(.pointer (some ⟨b, 0, none⟩)), .pointer (some ⟨w.heap.size, 0, none⟩), .pointer (some ⟨w.heap.size + 1, 0, none⟩), c3, .pointer (some ⟨x, 0, none⟩), c5, c6, c7, c8, c9, c10, c11, c12, c13, c14, c15, c16, c17, c18, c19, c20, c21, c22, c23, c24, c25, c26, c27, c28, undef, undef, undef, undef, undef, undef, undef, undef, undef, undef, undef, undef, undef, undef, undef, undef, undef, undef, undef, undef, undef, undef, undef, undef, undef, undef, undef, undef, undef, undef, undef, undef, undef, undef, undef, undef, undef, undef, undef, undef, undef, undef, undef, undef, undef], []⟩ w6 := by
  have HMB : Hid ((w.heap.size, Obj.cells #[.pointer (some ⟨b, 0, none⟩)] 73 (0, 0)) ∈ [(w.heap.size, Obj.cells #[.pointer (some ⟨b, 0, none⟩)] 73 (0, 0)), (w.heap.size + 1, Obj.cells #[.int .i64 0, .string ⟨#[]⟩, .slice none 0 0, .slice none 0 0, .slice none 0 0, .slice none 0 0, .int .i64 0] 38 (0, 0))]) := Lib.hid List.mem_cons_self
  have HMR : Hid ((w.heap.size + 1, Obj.cells #[.int .i64 0, .string ⟨#[]⟩, .slice none 0 0, .slice none 0 0, .slice none 0 0, .slice none 0 0, .int .i64 0] 38 (0, 0)) ∈ [(w.heap.size, Obj.cells #[.pointer (some ⟨b, 0, none⟩)] 73 (0, 0)), (w.heap.size + 1, Obj.cells #[.int .i64 0, .string ⟨#[]⟩, .slice none 0 0, .slice none 0 0, .slice none 0 0, .slice none 0 0, .int .i64 0] 38 (0, 0))]) := Lib.hid (List.mem_cons_of_mem _ List.mem_cons_self)
  conv => arg 2; whnf
  have k2 : _ := HB6.out.cellx HMB.out
  go_wp2_with fail
  refine (rname_any b g s5 w6 HB6.out.rd).mono ?_
  rintro r w7 ⟨rfl, h7, f7⟩
  have hB7 := HB6.out.step h7 f7
  obtain ⟨s7, hs7⟩ : ∃ z, z = (Rd.name s5).1 := ⟨_, rfl⟩
  obtain ⟨nm, hnm⟩ : ∃ z, z = (Rd.name s5).2 := ⟨_, rfl⟩
  rw [← hs7] at hB7
  rw [← hnm]
  have HS7 := Lib.hid hs7
  have HNM := Lib.hid hnm
  have HB7 := Lib.hid hB7
  clear h7 f7 hB7 hs7 hnm k2
  have y0 := blk_cell HB7.out.b6 0 (.int .i64 kd) rfl
  have yf0 := blk_free HB7.out.b6 0
  have y1 := blk_cell HB7.out.b6 1 (.string ⟨#[]⟩) rfl
  have yf1 := blk_free HB7.out.b6 1
  have HB8 := Lib.hid (HB7.out.put 1 (.string ⟨nm.toArray⟩))
  have l6 := HB7.out.lx _ HMR.out
  simp only at l6
  have n1 : ¬ x = w.heap.size := by omega
  have n2 : ¬ w.heap.size = x := by omega
  have n3 : ¬ x = w.heap.size + 1 := by omega
  have n4 : ¬ w.heap.size + 1 = x := by omega
  have HDEF : Hid (Sd.def_ (n + 1) s = Sd.body (n + 1) kd nm tk.at_ s7) := by
    rw [HDEF5.out, ← HS7.out, ← HNM.out]
    exact Lib.hid rfl
  have HOK7 : Hid (Rd.Ok s s7) := by
    rw [HS7.out]
    exact Lib.hid (HOK5.out.trans (Rd.ok_name _))
  have HDP7 : Hid (s7.deep = s.deep) := by
    rw [HS7.out, Rd.name_deep]
    exact HDP5
  have HN7 : Hid (s7.err ≠ 0 ∨ s7.rest.length ≤ n) := by
    refine Lib.hid ?_
    rcases HN.out with h | h
    · left; rw [HOK7.out.err h]; exact h
    · right; exact Nat.le_trans HOK7.out.len h
  have HFI := Lib.hid (fun (s1 : Rd.St) (w2 : World) (hr : s1.rest.length ≤ n) (hdp : s1.deep = s.deep) (hr2 : RdAt w2 b g s1) => input_any b g n hnb s1 w2 hr2 (.inr hr) (by rw [hdp]; omega))
  have HFF := Lib.hid (fun (s1 : Rd.St) (w2 : World) (hr : s1.rest.length ≤ n) (hdp : s1.deep = s.deep) (hr2 : RdAt w2 b g s1) => field_any b g n hnb s1 w2 hr2 (.inr hr) (by rw [hdp]; omega))
  have e2 := eqF (n := kd) (k := 2) (by omega)
  have e3 := eqF (n := kd) (k := 3) (by omega)
  have e4 := eqF (n := kd) (k := 4) (by omega)
  have e5 := eqF (n := kd) (k := 5) (by omega)
  have e6 := eqT (n := kd) (k := 6) (by omega)
  have HKC : Hid (kd = 6) := Lib.hid hkc
  clear hkc hkl
  have HLI : Hid (LI w b g x [(w.heap.size, Obj.cells #[.pointer (some ⟨b, 0, none⟩)] 73 (0, 0)), (w.heap.size + 1, Obj.cells #[.int .i64 0, .string ⟨#[]⟩, .slice none 0 0, .slice none 0 0, .slice none 0 0, .slice none 0 0, .int .i64 0] 38 (0, 0))] 38 (mkTI kd ⟨nm.toArray⟩ tk.at_) 137 9 s7 [] (w7.setCell ⟨x, 1, none⟩ (.string ⟨nm.toArray⟩))) := Lib.hid (BI.li HB8.out)
  have HCL : Hid (∀ (s1 : Rd.St) (out : List Sd.In) (w1 : World), LI w b g x [(w.heap.size, Obj.cells #[.pointer (some ⟨b, 0, none⟩)] 73 (0, 0)), (w.heap.size + 1, Obj.cells #[.int .i64 0, .string ⟨#[]⟩, .slice none 0 0, .slice none 0 0, .slice none 0 0, .slice none 0 0, .int .i64 0] 38 (0, 0))] 38 (mkTI kd ⟨nm.toArray⟩ tk.at_) 137 9 s1 (out.map Sd.In.d) w1 → s1.rest.length ≤ n → s1.deep = s.deep → out.length ≤ 1000000 →
      Calls Tryz.prog 79 #[.pointer (some ⟨x, 0, none⟩), .pointer (some ⟨w.heap.size, 0, none⟩)] w1 fun r w' => r = .returned (.tuple #[]) ∧ LI w b g x [(w.heap.size, Obj.cells #[.pointer (some ⟨b, 0, none⟩)] 73 (0, 0)), (w.heap.size + 1, Obj.cells #[.int .i64 0, .string ⟨#[]⟩, .slice none 0 0, .slice none 0 0, .slice none 0 0, .slice none 0 0, .int .i64 0] 38 (0, 0))] 38 (mkTI kd ⟨nm.toArray⟩ tk.at_) 137 9 (Sd.input (n + 1) s1).1 ((out ++ [(Sd.input (n + 1) s1).2]).map Sd.In.d) w') :=
    Lib.hid fun s1 out w1 hl hr hdp ho => by
      rw [List.map_append]
      exact defC3_any w b g x _ w.heap.size kd ⟨nm.toArray⟩ tk.at_ (n + 1) HMB.out s1 (out.map Sd.In.d) w1 (fun w2 hr2 => HFI.out s1 w2 hr hdp hr2) hl (by rw [List.length_map]; exact ho)
  have k2 : _ := HB7.out.cellx HMB.out
  go_wp2_with fail
  refine (within_any w b g x [(w.heap.size, Obj.cells #[.pointer (some ⟨b, 0, none⟩)] 73 (0, 0)), (w.heap.size + 1, Obj.cells #[.int .i64 0, .string ⟨#[]⟩, .slice none 0 0, .slice none 0 0, .slice none 0 0, .slice none 0 0, .int .i64 0] 38 (0, 0))] 38 (mkTI kd ⟨nm.toArray⟩ tk.at_) 137 9 Sd.In.d (Sd.input (n + 1)) n s.deep 79 _ (enters_D3 _) hnb HCL.out (Sd.input_deep (n + 1)) (Sd.ok_input (n + 1)) (Sd.input_goes (n + 1)) s7 _ HLI.out HN7.out HDP7.out).mono ?_
  rintro r wl ⟨rfl, hL⟩
  have HL := Lib.hid hL
  clear hL k2 y0 yf0 y1 yf1
  obtain ⟨L, hLL⟩ : ∃ z, z = Sd.between Rd.lbrc Rd.rbrc (Sd.input (n + 1)) (n + 1) s7 := ⟨_, rfl⟩
  rw [← hLL] at HL
  have HLL := Lib.hid hLL
  obtain ⟨va, vc, hbx, hrv⟩ := HL.out.bi (bx' := [(w.heap.size, Obj.cells #[.pointer (some ⟨b, 0, none⟩)] 73 (0, 0)), (w.heap.size + 1, Obj.cells #[.int .i64 0, .string ⟨#[]⟩, .slice none 0 0, .slice none 0 0, .slice none 0 0, .slice none 0 0, .int .i64 0] 38 (0, 0))]) (fun p hp => ⟨hp, (HB7.out.lx p hp).2⟩)
  obtain ⟨vl, hvl⟩ : ∃ z, z = (L.2.map Sd.In.d).length := ⟨_, rfl⟩
  rw [← hvl] at hbx hrv
  have HBx : Hid (BI w b g x [(w.heap.size, Obj.cells #[.pointer (some ⟨b, 0, none⟩)] 73 (0, 0)), (w.heap.size + 1, Obj.cells #[.int .i64 0, .string ⟨#[]⟩, .slice none 0 0, .slice none 0 0, .slice none 0 0, .slice none 0 0, .int .i64 0] 38 (0, 0))] 38 #[.int .i64 kd, .string ⟨nm.toArray⟩, .slice none 0 0, .slice none 0 0, .slice none 0 0, .slice va vl vc, .int .i64 tk.at_] L.1 wl) := Lib.hid hbx
  have HRV := Lib.hid hrv
  clear hbx hrv hvl hLL
  have y0 := blk_cell HBx.out.b6 0 (.int .i64 kd) rfl
  have yf0 := blk_free HBx.out.b6 0
  have y1 := blk_cell HBx.out.b6 1 (.string ⟨nm.toArray⟩) rfl
  have yf1 := blk_free HBx.out.b6 1
  have y2 := blk_cell HBx.out.b6 2 (.slice none 0 0) rfl
  have yf2 := blk_free HBx.out.b6 2
  have y3 := blk_cell HBx.out.b6 3 (.slice none 0 0) rfl
  have yf3 := blk_free HBx.out.b6 3
  have y4 := blk_cell HBx.out.b6 4 (.slice none 0 0) rfl
  have yf4 := blk_free HBx.out.b6 4
  have y5 := blk_cell HBx.out.b6 5 (.slice va vl vc) rfl
  have yf5 := blk_free HBx.out.b6 5
  have y6 := blk_cell HBx.out.b6 6 (.int .i64 tk.at_) rfl
  have yf6 := blk_free HBx.out.b6 6
  have z0 := blk_cell (HBx.out.cb _ HMR.out) 0 (.int .i64 0) rfl
  have zf0 := blk_free (HBx.out.cb _ HMR.out) 0
  have z1 := blk_cell (HBx.out.cb _ HMR.out) 1 (.string ⟨#[]⟩) rfl
  have zf1 := blk_free (HBx.out.cb _ HMR.out) 1
  have z2 := blk_cell (HBx.out.cb _ HMR.out) 2 (.slice none 0 0) rfl
  have zf2 := blk_free (HBx.out.cb _ HMR.out) 2
  have z3 := blk_cell (HBx.out.cb _ HMR.out) 3 (.slice none 0 0) rfl
  have zf3 := blk_free (HBx.out.cb _ HMR.out) 3
  have z4 := blk_cell (HBx.out.cb _ HMR.out) 4 (.slice none 0 0) rfl
  have zf4 := blk_free (HBx.out.cb _ HMR.out) 4
  have z5 := blk_cell (HBx.out.cb _ HMR.out) 5 (.slice none 0 0) rfl
  have zf5 := blk_free (HBx.out.cb _ HMR.out) 5
  have z6 := blk_cell (HBx.out.cb _ HMR.out) 6 (.int .i64 0) rfl
  have zf6 := blk_free (HBx.out.cb _ HMR.out) 6
  have HBz : Hid (BI w b g x [(w.heap.size, Obj.cells #[.pointer (some ⟨b, 0, none⟩)] 73 (0, 0)), (w.heap.size + 1, Obj.cells #[.int .i64 0, .string ⟨#[]⟩, .slice none 0 0, .slice none 0 0, .slice none 0 0, .slice none 0 0, .int .i64 0] 38 (0, 0))] 38 [.int .i64 kd, .string ⟨nm.toArray⟩, .slice none 0 0, .slice none 0 0, .slice none 0 0, .slice va vl vc, .int .i64 tk.at_].toArray L.1 (wl)) := HBx
  have HRS : Hid (Reads (wl) (fun z => x < z) (Sd.Td.d ⟨kd, nm, [], [], [], L.2, tk.at_⟩) [.int .i64 kd, .string ⟨nm.toArray⟩, .slice none 0 0, .slice none 0 0, .slice none 0 0, .slice va vl vc, .int .i64 tk.at_]) := by
    unfold Sd.Td.d
    exact Lib.hid (.obj (.cons (.int _) (.cons (.str _) (.cons (.seq (cap := 0) .nil) (.cons (.seq (cap := 0) .nil) (.cons (.seq (cap := 0) .nil) (.cons (HRV.out) (.cons (.int _) .nil))))))))
  have HE : Hid (Sd.def_ (n + 1) s = (L.1, ⟨kd, nm, [], [], [], L.2, tk.at_⟩)) := by rw [HDEF.out]; unfold Sd.body; rw [if_neg (by have := HKC.out; omega)]; rw [if_neg (by have := HKC.out; omega), if_neg (by have := HKC.out; omega), if_pos HKC.out]; exact Lib.hid (by rw [← HLL.out])
  have hfin := HBz.out.fin HMR.out HRS.out (fun z hz => hz)
  simp only [putCells, Nat.reduceAdd, Nat.zero_add] at hfin
  have HFN := Lib.hid hfin
  clear hfin
  go_wp2_with fail
  refine bodyPost_ret (v := .agg #[.int .i64 kd, .string ⟨nm.toArray⟩, .slice none 0 0, .slice none 0 0, .slice none 0 0, .slice va vl vc, .int .i64 tk.at_]) (by simp [results, Tryz.results35, go_sem, z0, z1, z2, z3, z4, z5, z6, n1, n2, n3, n4]) rfl ?_
  rw [HE.out]
  exact ⟨_, rfl, HFN.out⟩
end Go.Proofs.YtabcaljnpahgpaaGreatDoor
