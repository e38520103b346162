/-
  The reader of documents: a selection, walked, its sets' walks being given. The reader of documents: selections and their sets, as deep as they go.
-/
import Derived.Test.YtabcaljnpahgpaaGreatDoorK22
namespace Go.Proofs.YtabcaljnpahgpaaGreatDoor
set_option linter.unusedSimpArgs false
set_option linter.unusedVariables false
open Go Go.RowKit

theorem FJ.copy {w0 w : World} {b g t6 lo : Nat} {bx : List Box} {T6 : TypeId} {ds : List D} {cs : List Value} {s : Rd.St} {r : Nat} {o : Obj} (h : FJ w0 b g t6 lo bx T6 ds cs s w) (hr : (r, o) ∈ bx) {d : D} {us : List Value} (hd : Reads w (fun x => lo ≤ x) d us) :
    Reads (putCells w r 0 us) (fun x => w0.heap.size ≤ x) d us ∧ RdAt (putCells w r 0 us) b g s ∧ Fr b w0 (putCells w r 0 us) := by
  have lb := h.lb
  have lg := h.lg
  have l6 := h.l6
  have hr2 := h.lx _ hr
  simp only at hr2
  have hk : ∀ x, x ≠ r → (putCells w r 0 us).heap[x]? = w.heap[x]? := fun x h1 => putCells_ne _ _ h1 _ _ _
  have hsz := putCells_size r us 0 w
  have ho := putCells_os r us 0 w
  refine ⟨hd.to ⟨by rw [hsz]; exact Nat.le_refl _, fun x hx hp => ⟨by have h3 : lo ≤ x := hp; show w0.heap.size ≤ x; omega, hk x (by have h3 : lo ≤ x := hp; omega)⟩⟩, h.rd.to (by rw [hsz]; exact Nat.le_refl _) (hk b (by omega)) (hk g (by omega)), ⟨ho.1.trans h.fr.os, ho.2.1.trans h.fr.tape, ho.2.2.trans h.fr.output, by rw [hsz]; exact h.fr.size, fun x hx hxb => by
    rw [hk x (by omega)]
    exact h.fr.block x hx hxb⟩⟩
theorem isW_nil (s : Rd.St) : Rd.isW s [] = Rd.isN s := by simp [Rd.isW]
set_option maxHeartbeats 4000000 in
set_option maxRecDepth 100000 in
theorem sel_step (b g n : Nat) (hnb : n ≤ 1600) (f : Rd.St → Rd.St × Qr.Sel) (s : Rd.St) (hfo : ∀ s, Rd.Ok s (f s).1) (hfd : ∀ s, (f s).1.deep = s.deep) (hS : SelsC b g n f s) (w : World) (h : RdAt w b g s) (hn : s.rest.length ≤ n) (hd : 0 ≤ s.deep ∧ s.deep ≤ 800000) :
    Calls Tryz.prog 149 #[.pointer (some ⟨b, 0, none⟩)] w (Got b g w (Qr.selOf f (n + 1) s).2.d (Qr.selOf f (n + 1) s).1) := by
  have hlb := h.lt
  have HS := Lib.hid hS
  have HFO := Lib.hid hfo
  have HFD := Lib.hid hfd
  have HN := Lib.hid hn
  have H := Lib.hid h
  have HOK0 : Hid (Rd.Ok s s) := Lib.hid (Rd.Ok.refl s)
  have HDP0 : Hid (s.deep = s.deep) := Lib.hid rfl
  obtain ⟨d0, d1⟩ := hd
  have hba : Below w.heap.size w (w.alloc (.cells #[.int .i64 0, .string ⟨#[]⟩, .string ⟨#[]⟩, .slice none 0 0, .slice none 0 0, .slice none 0 0, .int .i64 0] 92)) := (Below.refl _ _).alloc (Nat.le_refl _) _
  have HBA := Lib.hid hba
  clear h hS hn hba hfo hfd
  go_enter Tryz.func149, Tryz.ntmps149
  go_wp2_with fail
  refine (rpeek_any b g s _ (H.out.below HBA.out)).mono ?_
  rintro r w2 ⟨rfl, hb2⟩
  obtain ⟨pa, hpa⟩ : ∃ x, x = (Rd.peek s).at_ := ⟨_, rfl⟩
  rw [← hpa]
  have HPA := Lib.hid hpa
  have HF0 : Hid (FJ w b g w2.heap.size (w2.heap.size + 1) [(w.heap.size, Obj.cells #[.int .i64 0, .string ⟨#[]⟩, .string ⟨#[]⟩, .slice none 0 0, .slice none 0 0, .slice none 0 0, .int .i64 0] 92 (0, 0))] 92 [.int 0, .str [], .str [], .seq 7 [], .seq 3 [], .seq 7 [], .int pa] [.int .i64 0, .string ⟨#[]⟩, .string ⟨#[]⟩, .slice none 0 0, .slice none 0 0, .slice none 0 0, .int .i64 pa] s (w2.alloc (.cells #[.int .i64 0, .string ⟨#[]⟩, .string ⟨#[]⟩, .slice none 0 0, .slice none 0 0, .slice none 0 0, .int .i64 pa] 92))) := by
    have hbb : Below w2.heap.size w2 (w2.alloc (.cells #[.int .i64 0, .string ⟨#[]⟩, .string ⟨#[]⟩, .slice none 0 0, .slice none 0 0, .slice none 0 0, .int .i64 pa] 92)) := (Below.refl _ _).alloc (Nat.le_refl _) _
    have hsz : (w.alloc (.cells #[.int .i64 0, .string ⟨#[]⟩, .string ⟨#[]⟩, .slice none 0 0, .slice none 0 0, .slice none 0 0, .int .i64 0] 92)).heap.size = w.heap.size + 1 := by simp
    have hs2 := hb2.size
    refine Lib.hid ⟨((H.out.below HBA.out).below hb2).below hbb, fun p hp => ?_, heap_at_new _ _, ((But.of_below HBA.out).trans (But.of_below hb2)).trans (But.of_below hbb), hlb.1, hlb.2, fun p hp => ?_, ⟨by omega, by omega⟩, by simp, .cons (.int _) (.cons (.str []) (.cons (.str []) (.cons (.seq (cap := 0) .nil) (.cons (.seq (cap := 0) .nil) (.cons (.seq (cap := 0) .nil) (.cons (.int _) .nil))))))⟩
    · rw [List.mem_singleton.1 hp]
      show (w2.alloc _).heap[w.heap.size]? = _
      rw [hbb.block w.heap.size (by omega), hb2.block w.heap.size (by omega)]
      exact heap_at_new _ _
    · rw [List.mem_singleton.1 hp]
      simp only
      omega
  have hl6 : w.heap.size < w2.heap.size := by have := hb2.size; simp at this; omega
  obtain ⟨t6, ht6⟩ : ∃ x, x = w2.heap.size := ⟨_, rfl⟩
  obtain ⟨lo, hlo⟩ : ∃ x, x = w2.heap.size + 1 := ⟨_, rfl⟩
  have n1 : ¬ t6 = w.heap.size := by omega
  have n2 : ¬ w.heap.size = t6 := by omega
  clear hb2 hpa
  go_wp2_with fail
  refine (rtake_any b g s Qr.sDots _ HF0.out.rd).mono ?_
  rintro r w3 ⟨rfl, h3, f3⟩
  have hF1 := HF0.out.step h3 f3
  rw [← hlo, ← ht6] at hF1
  rw [← ht6]
  have HF1 := Lib.hid hF1
  obtain ⟨B, hB⟩ : ∃ B, B = Rd.isS s Qr.sDots := ⟨_, rfl⟩
  have HB := Lib.hid hB
  rw [← hB]
  clear h3 f3 hF1 hB ht6 hlo hl6 HF0
  cases B
  · have HT : Hid (Rd.take Qr.sDots s = s) := by unfold Rd.take; rw [if_neg (by rw [← HB.out]; simp)]; exact Lib.hid rfl
    have HF2 : Hid (FJ w b g t6 lo [(w.heap.size, Obj.cells #[.int .i64 0, .string ⟨#[]⟩, .string ⟨#[]⟩, .slice none 0 0, .slice none 0 0, .slice none 0 0, .int .i64 0] 92 (0, 0))] 92 [.int 0, .str [], .str [], .seq 7 [], .seq 3 [], .seq 7 [], .int pa] [.int .i64 0, .string ⟨#[]⟩, .string ⟨#[]⟩, .slice none 0 0, .slice none 0 0, .slice none 0 0, .int .i64 pa] s (w3)) := by rw [HT.out] at HF1; exact HF1
    have HR : Hid (Qr.selOf f (n + 1) s = Qr.fieldOf f (n + 1) pa s) := by unfold Qr.selOf; rw [if_neg (by rw [← HB.out]; simp), ← HPA.out]; exact Lib.hid rfl
    have y0 := blk_cell HF2.out.b6 0 (.int .i64 0) rfl
    have yf0 := blk_free HF2.out.b6 0
    have y1 := blk_cell HF2.out.b6 1 (.string ⟨#[]⟩) rfl
    have yf1 := blk_free HF2.out.b6 1
    have y2 := blk_cell HF2.out.b6 2 (.string ⟨#[]⟩) rfl
    have yf2 := blk_free HF2.out.b6 2
    have y3 := blk_cell HF2.out.b6 3 (.slice none 0 0) rfl
    have yf3 := blk_free HF2.out.b6 3
    have y4 := blk_cell HF2.out.b6 4 (.slice none 0 0) rfl
    have yf4 := blk_free HF2.out.b6 4
    have y5 := blk_cell HF2.out.b6 5 (.slice none 0 0) rfl
    have yf5 := blk_free HF2.out.b6 5
    have y6 := blk_cell HF2.out.b6 6 (.int .i64 pa) rfl
    have yf6 := blk_free HF2.out.b6 6
    go_wp2_with fail
    refine (field_step b g n pa hnb f s HS.out w3 HF2.out.rd HN.out ⟨d0, d1⟩).mono ?_
    rintro r w4 ⟨cs, rfl, hrd, h4, f4⟩
    obtain ⟨k', a', al, nm, a1, a2, a3, n1', c1, n2', c2, n3', c3, rfl⟩ := Sel_cells hrd
    have HF3 := Lib.hid (HF2.out.step h4 f4)
    have hfin := HF3.out.copy (r := w.heap.size) (List.mem_singleton.2 rfl) (HF2.out.data hrd)
    simp only [putCells, Nat.reduceAdd, Nat.zero_add] at hfin
    have HFN := Lib.hid hfin
    clear hfin hrd h4 f4
    clear y0 yf0 y1 yf1 y2 yf2 y3 yf3 y4 yf4 y5 yf5 y6 yf6
    have z0 := blk_cell (HF3.out.cb _ (List.mem_singleton.2 rfl)) 0 (.int .i64 0) rfl
    have zf0 := blk_free (HF3.out.cb _ (List.mem_singleton.2 rfl)) 0
    have z1 := blk_cell (HF3.out.cb _ (List.mem_singleton.2 rfl)) 1 (.string ⟨#[]⟩) rfl
    have zf1 := blk_free (HF3.out.cb _ (List.mem_singleton.2 rfl)) 1
    have z2 := blk_cell (HF3.out.cb _ (List.mem_singleton.2 rfl)) 2 (.string ⟨#[]⟩) rfl
    have zf2 := blk_free (HF3.out.cb _ (List.mem_singleton.2 rfl)) 2
    have z3 := blk_cell (HF3.out.cb _ (List.mem_singleton.2 rfl)) 3 (.slice none 0 0) rfl
    have zf3 := blk_free (HF3.out.cb _ (List.mem_singleton.2 rfl)) 3
    have z4 := blk_cell (HF3.out.cb _ (List.mem_singleton.2 rfl)) 4 (.slice none 0 0) rfl
    have zf4 := blk_free (HF3.out.cb _ (List.mem_singleton.2 rfl)) 4
    have z5 := blk_cell (HF3.out.cb _ (List.mem_singleton.2 rfl)) 5 (.slice none 0 0) rfl
    have zf5 := blk_free (HF3.out.cb _ (List.mem_singleton.2 rfl)) 5
    have z6 := blk_cell (HF3.out.cb _ (List.mem_singleton.2 rfl)) 6 (.int .i64 0) rfl
    have zf6 := blk_free (HF3.out.cb _ (List.mem_singleton.2 rfl)) 6
    go_wp2_with fail
    refine bodyPost_ret (v := .agg #[.int .i64 k', .string al, .string nm, .slice a1 n1' c1, .slice a2 n2' c2, .slice a3 n3' c3, .int .i64 a']) (by simp [results, Tryz.results149, go_sem, z0, z1, z2, z3, z4, z5, z6, n1, n2]) rfl ?_
    rw [HR.out]
    exact ⟨_, rfl, HFN.out⟩
  · have HT : Hid (Rd.take Qr.sDots s = Rd.next s) := by unfold Rd.take; rw [if_pos HB.out.symm]; exact Lib.hid rfl
    have HF2 : Hid (FJ w b g t6 lo [(w.heap.size, Obj.cells #[.int .i64 0, .string ⟨#[]⟩, .string ⟨#[]⟩, .slice none 0 0, .slice none 0 0, .slice none 0 0, .int .i64 0] 92 (0, 0))] 92 [.int 0, .str [], .str [], .seq 7 [], .seq 3 [], .seq 7 [], .int pa] [.int .i64 0, .string ⟨#[]⟩, .string ⟨#[]⟩, .slice none 0 0, .slice none 0 0, .slice none 0 0, .int .i64 pa] (Rd.next s) (w3)) := by rw [HT.out] at HF1; exact HF1
    have HOKN : Hid (Rd.Ok s (Rd.next s)) := Lib.hid (Rd.ok_next s)
    have HDPN : Hid ((Rd.next s).deep = s.deep) := Lib.hid (Rd.next_deep s)
    have HNX := Lib.hid (Rd.next_sign HB.out.symm)
    have HERR : Hid (s.err = 0) := Lib.hid (by have := HB.out.symm; unfold Rd.isS at this; simp only [Bool.and_eq_true, decide_eq_true_eq] at this; exact this.1.1)
    go_wp2_with fail
    refine (rword0_any b g (Rd.next s) w3 HF2.out.rd).mono ?_
    rintro r w4 ⟨rfl, hb4⟩
    have HF3 : Hid (FJ w b g t6 lo [(w.heap.size, Obj.cells #[.int .i64 0, .string ⟨#[]⟩, .string ⟨#[]⟩, .slice none 0 0, .slice none 0 0, .slice none 0 0, .int .i64 0] 92 (0, 0))] 92 [.int 0, .str [], .str [], .seq 7 [], .seq 3 [], .seq 7 [], .int pa] [.int .i64 0, .string ⟨#[]⟩, .string ⟨#[]⟩, .slice none 0 0, .slice none 0 0, .slice none 0 0, .int .i64 pa] (Rd.next s) (w4)) := Lib.hid (HF2.out.below hb4)
    obtain ⟨N, hN⟩ : ∃ B, B = Rd.isN (Rd.next s) := ⟨_, rfl⟩
    have HNN := Lib.hid hN
    rw [← hN]
    clear hN hb4
    cases N
    · have y0 := blk_cell HF3.out.b6 0 (.int .i64 0) rfl
      have yf0 := blk_free HF3.out.b6 0
      have HP21 : Hid (FJ w b g t6 lo [(w.heap.size, Obj.cells #[.int .i64 0, .string ⟨#[]⟩, .string ⟨#[]⟩, .slice none 0 0, .slice none 0 0, .slice none 0 0, .int .i64 0] 92 (0, 0))] 92 [.int 3, .str [], .str [], .seq 7 [], .seq 3 [], .seq 7 [], .int pa] [.int .i64 3, .string ⟨#[]⟩, .string ⟨#[]⟩, .slice none 0 0, .slice none 0 0, .slice none 0 0, .int .i64 pa] (Rd.next s) ((w4).setCell ⟨t6, 0, none⟩ (.int .i64 3))) := Lib.hid (HF3.out.put 0 (.int 3) rfl)
      have HBL22 : Hid (Below ((w4).setCell ⟨t6, 0, none⟩ (.int .i64 3)).heap.size ((w4).setCell ⟨t6, 0, none⟩ (.int .i64 3)) (((w4).setCell ⟨t6, 0, none⟩ (.int .i64 3)).alloc (.cells #[.string ⟨#[111, 110]⟩] 9))) := Lib.hid ((Below.refl _ _).alloc (Nat.le_refl _) _)
      obtain ⟨sz22, hsz22⟩ : ∃ x, x = ((w4).setCell ⟨t6, 0, none⟩ (.int .i64 3)).heap.size := ⟨_, rfl⟩
      have HTX22 : Hid (Txts (((w4).setCell ⟨t6, 0, none⟩ (.int .i64 3)).alloc (.cells #[.string ⟨#[111, 110]⟩] 9)) (.slice (some ⟨sz22, 0, none⟩) 1 1) [Qr.sOn]) := by
        rw [hsz22]; exact Lib.hid (txts_one _ Qr.sOn ⟨#[111, 110]⟩ 9 rfl)
      try simp only [size_set] at hsz22
      subst hsz22
      go_wp2_with fail
      refine (rword_any b g (Rd.next s) _ [Qr.sOn] _ ((HP21.out.below HBL22.out).rd) HTX22.out (by simp)).mono ?_
      rintro r w22x ⟨rfl, hb22⟩
      have HC22 : Hid (FJ w b g t6 lo [(w.heap.size, Obj.cells #[.int .i64 0, .string ⟨#[]⟩, .string ⟨#[]⟩, .slice none 0 0, .slice none 0 0, .slice none 0 0, .int .i64 0] 92 (0, 0))] 92 [.int 3, .str [], .str [], .seq 7 [], .seq 3 [], .seq 7 [], .int pa] [.int .i64 3, .string ⟨#[]⟩, .string ⟨#[]⟩, .slice none 0 0, .slice none 0 0, .slice none 0 0, .int .i64 pa] (Rd.next s) (w22x)) := Lib.hid ((HP21.out.below HBL22.out).below hb22)
      obtain ⟨O2, hO2⟩ : ∃ B, B = Rd.isW (Rd.next s) [Qr.sOn] := ⟨_, rfl⟩
      have HO2 := Lib.hid hO2
      rw [← hO2]
      clear hO2 hb22
      clear y0 yf0
      cases O2
      · have HON : Hid (Qr.onOf (Rd.next s) = (Rd.next s, [])) := by unfold Qr.onOf; rw [if_neg (by rw [← HO2.out]; simp)]; exact Lib.hid rfl
        go_wp2_with fail
        refine (dirs_any b g n hnb (Rd.next s) _ HC22.out.rd (Nat.le_trans HOKN.out.len HN.out) (by rw [HDPN.out]; omega)).mono ?_
        rintro r w41x ⟨ra41, rc41, rfl, hrd, h41, f41⟩
        obtain ⟨q41, hq41⟩ : ∃ x, x = Qr.dirs (n + 1) (Rd.next s) := ⟨_, rfl⟩
        rw [← hq41] at hrd h41 ⊢
        have HQ41 := Lib.hid hq41
        have hda := HC22.out.data hrd
        obtain ⟨ln41, hln⟩ : ∃ x, x = q41.2.length := ⟨_, rfl⟩
        rw [List.length_map, ← hln] at hda ⊢
        have HOK41x : Hid (Rd.Ok s q41.1) := by rw [HQ41.out]; exact Lib.hid (HOKN.out.trans (Qr.ok_dirs (n + 1) _))
        have HDP41x : Hid (q41.1.deep = s.deep) := by rw [HQ41.out, Qr.dirs_deep]; exact HDPN
        have HC41 : Hid (FJ w b g t6 lo [(w.heap.size, Obj.cells #[.int .i64 0, .string ⟨#[]⟩, .string ⟨#[]⟩, .slice none 0 0, .slice none 0 0, .slice none 0 0, .int .i64 0] 92 (0, 0))] 92 [.int 3, .str [], .str [], .seq 7 [], .seq 3 [], .seq 7 [], .int pa] [.int .i64 3, .string ⟨#[]⟩, .string ⟨#[]⟩, .slice none 0 0, .slice none 0 0, .slice none 0 0, .int .i64 pa] q41.1 (w41x)) := Lib.hid (HC22.out.step h41 f41)
        have HDA41 := Lib.hid hda
        clear hrd h41 f41 hq41 hda hln
        have y4 := blk_cell HC41.out.b6 4 (.slice none 0 0) rfl
        have yf4 := blk_free HC41.out.b6 4
        have HP42 : Hid (FJ w b g t6 lo [(w.heap.size, Obj.cells #[.int .i64 0, .string ⟨#[]⟩, .string ⟨#[]⟩, .slice none 0 0, .slice none 0 0, .slice none 0 0, .int .i64 0] 92 (0, 0))] 92 [.int 3, .str [], .str [], .seq 7 [], .seq 3 (q41.2.map Qr.Dir.d), .seq 7 [], .int pa] [.int .i64 3, .string ⟨#[]⟩, .string ⟨#[]⟩, .slice none 0 0, .slice ra41 ln41 rc41, .slice none 0 0, .int .i64 pa] q41.1 ((w41x).setCell ⟨t6, 4, none⟩ (.slice ra41 ln41 rc41))) := Lib.hid (HC41.out.put 4 (HDA41.out) rfl)
        go_wp2_with fail
        refine (HS.out q41.1 _ HP42.out.rd (Nat.le_trans HOK41x.out.len HN.out) HDP41x.out HERR.out ?_).mono ?_
        · right; exact Nat.lt_of_le_of_lt (show q41.1.rest.length ≤ (Rd.next s).rest.length by have h8 := Qr.ok_onOf (Rd.next s); rw [HON.out] at h8; have h9 := h8.trans (Qr.ok_dirs (n + 1) _); rw [HQ41.out]; exact h9.len) HNX.out.1
        rintro r w43x ⟨ra43, rc43, rfl, hrd, h43, f43⟩
        obtain ⟨q43, hq43⟩ : ∃ x, x = Qr.selsOf f q41.1 := ⟨_, rfl⟩
        rw [← hq43] at hrd h43 ⊢
        have HQ43 := Lib.hid hq43
        have hda := HP42.out.data hrd
        obtain ⟨ln43, hln⟩ : ∃ x, x = q43.2.length := ⟨_, rfl⟩
        rw [List.length_map, ← hln] at hda ⊢
        have HOK43x : Hid (Rd.Ok s q43.1) := by rw [HQ43.out]; exact Lib.hid (HOK41x.out.trans (Qr.ok_selsOf f HFO.out _))
        have HDP43x : Hid (q43.1.deep = s.deep) := by rw [HQ43.out, Qr.selsOf_deep f HFD.out]; exact HDP41x
        have HC43 : Hid (FJ w b g t6 lo [(w.heap.size, Obj.cells #[.int .i64 0, .string ⟨#[]⟩, .string ⟨#[]⟩, .slice none 0 0, .slice none 0 0, .slice none 0 0, .int .i64 0] 92 (0, 0))] 92 [.int 3, .str [], .str [], .seq 7 [], .seq 3 (q41.2.map Qr.Dir.d), .seq 7 [], .int pa] [.int .i64 3, .string ⟨#[]⟩, .string ⟨#[]⟩, .slice none 0 0, .slice ra41 ln41 rc41, .slice none 0 0, .int .i64 pa] q43.1 (w43x)) := Lib.hid (HP42.out.step h43 f43)
        have HDA43 := Lib.hid hda
        clear hrd h43 f43 hq43 hda hln
        have y5 := blk_cell HC43.out.b6 5 (.slice none 0 0) rfl
        have yf5 := blk_free HC43.out.b6 5
        have HP44 : Hid (FJ w b g t6 lo [(w.heap.size, Obj.cells #[.int .i64 0, .string ⟨#[]⟩, .string ⟨#[]⟩, .slice none 0 0, .slice none 0 0, .slice none 0 0, .int .i64 0] 92 (0, 0))] 92 [.int 3, .str [], .str [], .seq 7 [], .seq 3 (q41.2.map Qr.Dir.d), .seq 7 (q43.2.map Qr.Sel.d), .int pa] [.int .i64 3, .string ⟨#[]⟩, .string ⟨#[]⟩, .slice none 0 0, .slice ra41 ln41 rc41, .slice ra43 ln43 rc43, .int .i64 pa] q43.1 ((w43x).setCell ⟨t6, 5, none⟩ (.slice ra43 ln43 rc43))) := Lib.hid (HC43.out.put 5 (HDA43.out) rfl)
        have HR : Hid (Qr.selOf f (n + 1) s = (q43.1, .mk 3 [] [] [] q41.2 q43.2 pa)) := by
          refine Lib.hid ?_
          unfold Qr.selOf
          rw [if_pos HB.out.symm, if_neg (by rw [isW_nil, ← HNN.out]; simp), ← HPA.out]
          unfold Qr.inlineOf
          dsimp only
          rw [HON.out, ← HQ41.out, ← HQ43.out]
        have y0 := blk_cell HC43.out.b6 0 (.int .i64 3) rfl
        have yf0 := blk_free HC43.out.b6 0
        have y1 := blk_cell HC43.out.b6 1 (.string ⟨#[]⟩) rfl
        have yf1 := blk_free HC43.out.b6 1
        have y2 := blk_cell HC43.out.b6 2 (.string ⟨#[]⟩) rfl
        have yf2 := blk_free HC43.out.b6 2
        have y3 := blk_cell HC43.out.b6 3 (.slice none 0 0) rfl
        have yf3 := blk_free HC43.out.b6 3
        have y4 := blk_cell HC43.out.b6 4 (.slice ra41 ln41 rc41) rfl
        have yf4 := blk_free HC43.out.b6 4
        have y6 := blk_cell HC43.out.b6 6 (.int .i64 pa) rfl
        have yf6 := blk_free HC43.out.b6 6
        have z0 := blk_cell (HC43.out.cb _ (List.mem_singleton.2 rfl)) 0 (.int .i64 0) rfl
        have zf0 := blk_free (HC43.out.cb _ (List.mem_singleton.2 rfl)) 0
        have z1 := blk_cell (HC43.out.cb _ (List.mem_singleton.2 rfl)) 1 (.string ⟨#[]⟩) rfl
        have zf1 := blk_free (HC43.out.cb _ (List.mem_singleton.2 rfl)) 1
        have z2 := blk_cell (HC43.out.cb _ (List.mem_singleton.2 rfl)) 2 (.string ⟨#[]⟩) rfl
        have zf2 := blk_free (HC43.out.cb _ (List.mem_singleton.2 rfl)) 2
        have z3 := blk_cell (HC43.out.cb _ (List.mem_singleton.2 rfl)) 3 (.slice none 0 0) rfl
        have zf3 := blk_free (HC43.out.cb _ (List.mem_singleton.2 rfl)) 3
        have z4 := blk_cell (HC43.out.cb _ (List.mem_singleton.2 rfl)) 4 (.slice none 0 0) rfl
        have zf4 := blk_free (HC43.out.cb _ (List.mem_singleton.2 rfl)) 4
        have z5 := blk_cell (HC43.out.cb _ (List.mem_singleton.2 rfl)) 5 (.slice none 0 0) rfl
        have zf5 := blk_free (HC43.out.cb _ (List.mem_singleton.2 rfl)) 5
        have z6 := blk_cell (HC43.out.cb _ (List.mem_singleton.2 rfl)) 6 (.int .i64 0) rfl
        have zf6 := blk_free (HC43.out.cb _ (List.mem_singleton.2 rfl)) 6
        have hfin := HP44.out.fin (r := w.heap.size) (List.mem_singleton.2 rfl)
        simp only [putCells, Nat.reduceAdd, Nat.zero_add] at hfin
        have HFN := Lib.hid hfin
        clear hfin
        go_wp2_with fail
        refine bodyPost_ret (v := .agg #[.int .i64 3, .string ⟨#[]⟩, .string ⟨#[]⟩, .slice none 0 0, .slice ra41 ln41 rc41, .slice ra43 ln43 rc43, .int .i64 pa]) (by simp [results, Tryz.results149, go_sem, z0, z1, z2, z3, z4, z5, z6, n1, n2]) rfl ?_
        rw [HR.out]
        unfold Qr.Sel.d
        rw [Qr.Sel.dl_map]
        exact ⟨_, rfl, HFN.out⟩
      · go_wp2_with fail
        refine (rnext_any b g (Rd.next s) _ HC22.out.rd).mono ?_
        rintro r w41x ⟨rfl, h41, f41⟩
        obtain ⟨st41, hs41⟩ : ∃ x, x = Rd.next (Rd.next s) := ⟨_, rfl⟩
        rw [← hs41] at h41
        have HST41 := Lib.hid hs41
        have HOK41x : Hid (Rd.Ok s st41) := by rw [HST41.out]; exact Lib.hid (HOKN.out.trans (Rd.ok_next _))
        have HDP41x : Hid (st41.deep = s.deep) := by rw [HST41.out, Rd.next_deep]; exact HDPN
        have HC41 : Hid (FJ w b g t6 lo [(w.heap.size, Obj.cells #[.int .i64 0, .string ⟨#[]⟩, .string ⟨#[]⟩, .slice none 0 0, .slice none 0 0, .slice none 0 0, .int .i64 0] 92 (0, 0))] 92 [.int 3, .str [], .str [], .seq 7 [], .seq 3 [], .seq 7 [], .int pa] [.int .i64 3, .string ⟨#[]⟩, .string ⟨#[]⟩, .slice none 0 0, .slice none 0 0, .slice none 0 0, .int .i64 pa] st41 (w41x)) := Lib.hid (HC22.out.step h41 f41)
        clear h41 f41 hs41
        go_wp2_with fail
        refine (rname_any b g st41 _ HC41.out.rd).mono ?_
        rintro r w42x ⟨rfl, h42, f42⟩
        obtain ⟨st42, hs42⟩ : ∃ x, x = (Rd.name st41).1 := ⟨_, rfl⟩
        rw [← hs42] at h42
        have HST42 := Lib.hid hs42
        have HOK42x : Hid (Rd.Ok s st42) := by rw [HST42.out]; exact Lib.hid (HOK41x.out.trans (Rd.ok_name _))
        have HDP42x : Hid (st42.deep = s.deep) := by rw [HST42.out, Rd.name_deep]; exact HDP41x
        obtain ⟨nm42, hnm42⟩ : ∃ x, x = (Rd.name st41).2 := ⟨_, rfl⟩
        rw [← hnm42]
        have HNM42 := Lib.hid hnm42
        clear hnm42
        have HC42 : Hid (FJ w b g t6 lo [(w.heap.size, Obj.cells #[.int .i64 0, .string ⟨#[]⟩, .string ⟨#[]⟩, .slice none 0 0, .slice none 0 0, .slice none 0 0, .int .i64 0] 92 (0, 0))] 92 [.int 3, .str [], .str [], .seq 7 [], .seq 3 [], .seq 7 [], .int pa] [.int .i64 3, .string ⟨#[]⟩, .string ⟨#[]⟩, .slice none 0 0, .slice none 0 0, .slice none 0 0, .int .i64 pa] st42 (w42x)) := Lib.hid (HC41.out.step h42 f42)
        clear h42 f42 hs42
        have y2 := blk_cell HC42.out.b6 2 (.string ⟨#[]⟩) rfl
        have yf2 := blk_free HC42.out.b6 2
        have HP43 : Hid (FJ w b g t6 lo [(w.heap.size, Obj.cells #[.int .i64 0, .string ⟨#[]⟩, .string ⟨#[]⟩, .slice none 0 0, .slice none 0 0, .slice none 0 0, .int .i64 0] 92 (0, 0))] 92 [.int 3, .str [], .str nm42, .seq 7 [], .seq 3 [], .seq 7 [], .int pa] [.int .i64 3, .string ⟨#[]⟩, .string ⟨nm42.toArray⟩, .slice none 0 0, .slice none 0 0, .slice none 0 0, .int .i64 pa] st42 ((w42x).setCell ⟨t6, 2, none⟩ (.string ⟨nm42.toArray⟩))) := Lib.hid (HC42.out.put 2 (.str nm42) rfl)
        have HON : Hid (Qr.onOf (Rd.next s) = (st42, nm42)) := by unfold Qr.onOf; rw [if_pos HO2.out.symm, ← HST41.out]; exact Lib.hid (Prod.ext HST42.out.symm HNM42.out.symm)
        go_wp2_with fail
        refine (dirs_any b g n hnb st42 _ HP43.out.rd (Nat.le_trans HOK42x.out.len HN.out) (by rw [HDP42x.out]; omega)).mono ?_
        rintro r w44x ⟨ra44, rc44, rfl, hrd, h44, f44⟩
        obtain ⟨q44, hq44⟩ : ∃ x, x = Qr.dirs (n + 1) st42 := ⟨_, rfl⟩
        rw [← hq44] at hrd h44 ⊢
        have HQ44 := Lib.hid hq44
        have hda := HP43.out.data hrd
        obtain ⟨ln44, hln⟩ : ∃ x, x = q44.2.length := ⟨_, rfl⟩
        rw [List.length_map, ← hln] at hda ⊢
        have HOK44x : Hid (Rd.Ok s q44.1) := by rw [HQ44.out]; exact Lib.hid (HOK42x.out.trans (Qr.ok_dirs (n + 1) _))
        have HDP44x : Hid (q44.1.deep = s.deep) := by rw [HQ44.out, Qr.dirs_deep]; exact HDP42x
        have HC44 : Hid (FJ w b g t6 lo [(w.heap.size, Obj.cells #[.int .i64 0, .string ⟨#[]⟩, .string ⟨#[]⟩, .slice none 0 0, .slice none 0 0, .slice none 0 0, .int .i64 0] 92 (0, 0))] 92 [.int 3, .str [], .str nm42, .seq 7 [], .seq 3 [], .seq 7 [], .int pa] [.int .i64 3, .string ⟨#[]⟩, .string ⟨nm42.toArray⟩, .slice none 0 0, .slice none 0 0, .slice none 0 0, .int .i64 pa] q44.1 (w44x)) := Lib.hid (HP43.out.step h44 f44)
        have HDA44 := Lib.hid hda
        clear hrd h44 f44 hq44 hda hln
        have y4 := blk_cell HC44.out.b6 4 (.slice none 0 0) rfl
        have yf4 := blk_free HC44.out.b6 4
        have HP45 : Hid (FJ w b g t6 lo [(w.heap.size, Obj.cells #[.int .i64 0, .string ⟨#[]⟩, .string ⟨#[]⟩, .slice none 0 0, .slice none 0 0, .slice none 0 0, .int .i64 0] 92 (0, 0))] 92 [.int 3, .str [], .str nm42, .seq 7 [], .seq 3 (q44.2.map Qr.Dir.d), .seq 7 [], .int pa] [.int .i64 3, .string ⟨#[]⟩, .string ⟨nm42.toArray⟩, .slice none 0 0, .slice ra44 ln44 rc44, .slice none 0 0, .int .i64 pa] q44.1 ((w44x).setCell ⟨t6, 4, none⟩ (.slice ra44 ln44 rc44))) := Lib.hid (HC44.out.put 4 (HDA44.out) rfl)
        clear y2 yf2 
        go_wp2_with fail
        refine (HS.out q44.1 _ HP45.out.rd (Nat.le_trans HOK44x.out.len HN.out) HDP44x.out HERR.out ?_).mono ?_
        · right; exact Nat.lt_of_le_of_lt (show q44.1.rest.length ≤ (Rd.next s).rest.length by have h8 := Qr.ok_onOf (Rd.next s); rw [HON.out] at h8; have h9 := h8.trans (Qr.ok_dirs (n + 1) _); rw [HQ44.out]; exact h9.len) HNX.out.1
        rintro r w46x ⟨ra46, rc46, rfl, hrd, h46, f46⟩
        obtain ⟨q46, hq46⟩ : ∃ x, x = Qr.selsOf f q44.1 := ⟨_, rfl⟩
        rw [← hq46] at hrd h46 ⊢
        have HQ46 := Lib.hid hq46
        have hda := HP45.out.data hrd
        obtain ⟨ln46, hln⟩ : ∃ x, x = q46.2.length := ⟨_, rfl⟩
        rw [List.length_map, ← hln] at hda ⊢
        have HOK46x : Hid (Rd.Ok s q46.1) := by rw [HQ46.out]; exact Lib.hid (HOK44x.out.trans (Qr.ok_selsOf f HFO.out _))
        have HDP46x : Hid (q46.1.deep = s.deep) := by rw [HQ46.out, Qr.selsOf_deep f HFD.out]; exact HDP44x
        have HC46 : Hid (FJ w b g t6 lo [(w.heap.size, Obj.cells #[.int .i64 0, .string ⟨#[]⟩, .string ⟨#[]⟩, .slice none 0 0, .slice none 0 0, .slice none 0 0, .int .i64 0] 92 (0, 0))] 92 [.int 3, .str [], .str nm42, .seq 7 [], .seq 3 (q44.2.map Qr.Dir.d), .seq 7 [], .int pa] [.int .i64 3, .string ⟨#[]⟩, .string ⟨nm42.toArray⟩, .slice none 0 0, .slice ra44 ln44 rc44, .slice none 0 0, .int .i64 pa] q46.1 (w46x)) := Lib.hid (HP45.out.step h46 f46)
        have HDA46 := Lib.hid hda
        clear hrd h46 f46 hq46 hda hln
        have y5 := blk_cell HC46.out.b6 5 (.slice none 0 0) rfl
        have yf5 := blk_free HC46.out.b6 5
        have HP47 : Hid (FJ w b g t6 lo [(w.heap.size, Obj.cells #[.int .i64 0, .string ⟨#[]⟩, .string ⟨#[]⟩, .slice none 0 0, .slice none 0 0, .slice none 0 0, .int .i64 0] 92 (0, 0))] 92 [.int 3, .str [], .str nm42, .seq 7 [], .seq 3 (q44.2.map Qr.Dir.d), .seq 7 (q46.2.map Qr.Sel.d), .int pa] [.int .i64 3, .string ⟨#[]⟩, .string ⟨nm42.toArray⟩, .slice none 0 0, .slice ra44 ln44 rc44, .slice ra46 ln46 rc46, .int .i64 pa] q46.1 ((w46x).setCell ⟨t6, 5, none⟩ (.slice ra46 ln46 rc46))) := Lib.hid (HC46.out.put 5 (HDA46.out) rfl)
        have HR : Hid (Qr.selOf f (n + 1) s = (q46.1, .mk 3 [] nm42 [] q44.2 q46.2 pa)) := by
          refine Lib.hid ?_
          unfold Qr.selOf
          rw [if_pos HB.out.symm, if_neg (by rw [isW_nil, ← HNN.out]; simp), ← HPA.out]
          unfold Qr.inlineOf
          dsimp only
          rw [HON.out, ← HQ44.out, ← HQ46.out]
        have y0 := blk_cell HC46.out.b6 0 (.int .i64 3) rfl
        have yf0 := blk_free HC46.out.b6 0
        have y1 := blk_cell HC46.out.b6 1 (.string ⟨#[]⟩) rfl
        have yf1 := blk_free HC46.out.b6 1
        have y2 := blk_cell HC46.out.b6 2 (.string ⟨nm42.toArray⟩) rfl
        have yf2 := blk_free HC46.out.b6 2
        have y3 := blk_cell HC46.out.b6 3 (.slice none 0 0) rfl
        have yf3 := blk_free HC46.out.b6 3
        have y4 := blk_cell HC46.out.b6 4 (.slice ra44 ln44 rc44) rfl
        have yf4 := blk_free HC46.out.b6 4
        have y6 := blk_cell HC46.out.b6 6 (.int .i64 pa) rfl
        have yf6 := blk_free HC46.out.b6 6
        have z0 := blk_cell (HC46.out.cb _ (List.mem_singleton.2 rfl)) 0 (.int .i64 0) rfl
        have zf0 := blk_free (HC46.out.cb _ (List.mem_singleton.2 rfl)) 0
        have z1 := blk_cell (HC46.out.cb _ (List.mem_singleton.2 rfl)) 1 (.string ⟨#[]⟩) rfl
        have zf1 := blk_free (HC46.out.cb _ (List.mem_singleton.2 rfl)) 1
        have z2 := blk_cell (HC46.out.cb _ (List.mem_singleton.2 rfl)) 2 (.string ⟨#[]⟩) rfl
        have zf2 := blk_free (HC46.out.cb _ (List.mem_singleton.2 rfl)) 2
        have z3 := blk_cell (HC46.out.cb _ (List.mem_singleton.2 rfl)) 3 (.slice none 0 0) rfl
        have zf3 := blk_free (HC46.out.cb _ (List.mem_singleton.2 rfl)) 3
        have z4 := blk_cell (HC46.out.cb _ (List.mem_singleton.2 rfl)) 4 (.slice none 0 0) rfl
        have zf4 := blk_free (HC46.out.cb _ (List.mem_singleton.2 rfl)) 4
        have z5 := blk_cell (HC46.out.cb _ (List.mem_singleton.2 rfl)) 5 (.slice none 0 0) rfl
        have zf5 := blk_free (HC46.out.cb _ (List.mem_singleton.2 rfl)) 5
        have z6 := blk_cell (HC46.out.cb _ (List.mem_singleton.2 rfl)) 6 (.int .i64 0) rfl
        have zf6 := blk_free (HC46.out.cb _ (List.mem_singleton.2 rfl)) 6
        have hfin := HP47.out.fin (r := w.heap.size) (List.mem_singleton.2 rfl)
        simp only [putCells, Nat.reduceAdd, Nat.zero_add] at hfin
        have HFN := Lib.hid hfin
        clear hfin
        go_wp2_with fail
        refine bodyPost_ret (v := .agg #[.int .i64 3, .string ⟨#[]⟩, .string ⟨nm42.toArray⟩, .slice none 0 0, .slice ra44 ln44 rc44, .slice ra46 ln46 rc46, .int .i64 pa]) (by simp [results, Tryz.results149, go_sem, z0, z1, z2, z3, z4, z5, z6, n1, n2]) rfl ?_
        rw [HR.out]
        unfold Qr.Sel.d
        rw [Qr.Sel.dl_map]
        exact ⟨_, rfl, HFN.out⟩
    · have HBL11 : Hid (Below (w4).heap.size (w4) ((w4).alloc (.cells #[.string ⟨#[111, 110]⟩] 9))) := Lib.hid ((Below.refl _ _).alloc (Nat.le_refl _) _)
      obtain ⟨sz11, hsz11⟩ : ∃ x, x = (w4).heap.size := ⟨_, rfl⟩
      have HTX11 : Hid (Txts ((w4).alloc (.cells #[.string ⟨#[111, 110]⟩] 9)) (.slice (some ⟨sz11, 0, none⟩) 1 1) [Qr.sOn]) := by
        rw [hsz11]; exact Lib.hid (txts_one _ Qr.sOn ⟨#[111, 110]⟩ 9 rfl)
      try simp only [size_set] at hsz11
      subst hsz11
      go_wp2_with fail
      refine (rword_any b g (Rd.next s) _ [Qr.sOn] _ ((HF3.out.below HBL11.out).rd) HTX11.out (by simp)).mono ?_
      rintro r w11x ⟨rfl, hb11⟩
      have HC11 : Hid (FJ w b g t6 lo [(w.heap.size, Obj.cells #[.int .i64 0, .string ⟨#[]⟩, .string ⟨#[]⟩, .slice none 0 0, .slice none 0 0, .slice none 0 0, .int .i64 0] 92 (0, 0))] 92 [.int 0, .str [], .str [], .seq 7 [], .seq 3 [], .seq 7 [], .int pa] [.int .i64 0, .string ⟨#[]⟩, .string ⟨#[]⟩, .slice none 0 0, .slice none 0 0, .slice none 0 0, .int .i64 pa] (Rd.next s) (w11x)) := Lib.hid ((HF3.out.below HBL11.out).below hb11)
      obtain ⟨O, hO⟩ : ∃ B, B = Rd.isW (Rd.next s) [Qr.sOn] := ⟨_, rfl⟩
      have HO := Lib.hid hO
      rw [← hO]
      clear hO hb11
      cases O
      · go_wp2_with fail
        refine (rname_any b g (Rd.next s) _ HC11.out.rd).mono ?_
        rintro r w61x ⟨rfl, h61, f61⟩
        obtain ⟨st61, hs61⟩ : ∃ x, x = (Rd.name (Rd.next s)).1 := ⟨_, rfl⟩
        rw [← hs61] at h61
        have HST61 := Lib.hid hs61
        have HOK61x : Hid (Rd.Ok s st61) := by rw [HST61.out]; exact Lib.hid (HOKN.out.trans (Rd.ok_name _))
        have HDP61x : Hid (st61.deep = s.deep) := by rw [HST61.out, Rd.name_deep]; exact HDPN
        obtain ⟨nm61, hnm61⟩ : ∃ x, x = (Rd.name (Rd.next s)).2 := ⟨_, rfl⟩
        rw [← hnm61]
        have HNM61 := Lib.hid hnm61
        clear hnm61
        have HC61 : Hid (FJ w b g t6 lo [(w.heap.size, Obj.cells #[.int .i64 0, .string ⟨#[]⟩, .string ⟨#[]⟩, .slice none 0 0, .slice none 0 0, .slice none 0 0, .int .i64 0] 92 (0, 0))] 92 [.int 0, .str [], .str [], .seq 7 [], .seq 3 [], .seq 7 [], .int pa] [.int .i64 0, .string ⟨#[]⟩, .string ⟨#[]⟩, .slice none 0 0, .slice none 0 0, .slice none 0 0, .int .i64 pa] st61 (w61x)) := Lib.hid (HC11.out.step h61 f61)
        clear h61 f61 hs61
        have y0 := blk_cell HC61.out.b6 0 (.int .i64 0) rfl
        have yf0 := blk_free HC61.out.b6 0
        have y2 := blk_cell HC61.out.b6 2 (.string ⟨#[]⟩) rfl
        have yf2 := blk_free HC61.out.b6 2
        have HP62 : Hid (FJ w b g t6 lo [(w.heap.size, Obj.cells #[.int .i64 0, .string ⟨#[]⟩, .string ⟨#[]⟩, .slice none 0 0, .slice none 0 0, .slice none 0 0, .int .i64 0] 92 (0, 0))] 92 [.int 2, .str [], .str nm61, .seq 7 [], .seq 3 [], .seq 7 [], .int pa] [.int .i64 2, .string ⟨#[]⟩, .string ⟨nm61.toArray⟩, .slice none 0 0, .slice none 0 0, .slice none 0 0, .int .i64 pa] st61 (((w61x).setCell ⟨t6, 0, none⟩ (.int .i64 2)).setCell ⟨t6, 2, none⟩ (.string ⟨nm61.toArray⟩))) := Lib.hid ((HC61.out.put 0 (.int 2) rfl).put 2 (.str nm61) rfl)
        go_wp2_with fail
        refine (dirs_any b g n hnb st61 _ HP62.out.rd (Nat.le_trans HOK61x.out.len HN.out) (by rw [HDP61x.out]; omega)).mono ?_
        rintro r w63x ⟨ra63, rc63, rfl, hrd, h63, f63⟩
        obtain ⟨q63, hq63⟩ : ∃ x, x = Qr.dirs (n + 1) st61 := ⟨_, rfl⟩
        rw [← hq63] at hrd h63 ⊢
        have HQ63 := Lib.hid hq63
        have hda := HP62.out.data hrd
        obtain ⟨ln63, hln⟩ : ∃ x, x = q63.2.length := ⟨_, rfl⟩
        rw [List.length_map, ← hln] at hda ⊢
        have HOK63x : Hid (Rd.Ok s q63.1) := by rw [HQ63.out]; exact Lib.hid (HOK61x.out.trans (Qr.ok_dirs (n + 1) _))
        have HDP63x : Hid (q63.1.deep = s.deep) := by rw [HQ63.out, Qr.dirs_deep]; exact HDP61x
        have HC63 : Hid (FJ w b g t6 lo [(w.heap.size, Obj.cells #[.int .i64 0, .string ⟨#[]⟩, .string ⟨#[]⟩, .slice none 0 0, .slice none 0 0, .slice none 0 0, .int .i64 0] 92 (0, 0))] 92 [.int 2, .str [], .str nm61, .seq 7 [], .seq 3 [], .seq 7 [], .int pa] [.int .i64 2, .string ⟨#[]⟩, .string ⟨nm61.toArray⟩, .slice none 0 0, .slice none 0 0, .slice none 0 0, .int .i64 pa] q63.1 (w63x)) := Lib.hid (HP62.out.step h63 f63)
        have HDA63 := Lib.hid hda
        clear hrd h63 f63 hq63 hda hln
        have y4 := blk_cell HC63.out.b6 4 (.slice none 0 0) rfl
        have yf4 := blk_free HC63.out.b6 4
        have HP64 : Hid (FJ w b g t6 lo [(w.heap.size, Obj.cells #[.int .i64 0, .string ⟨#[]⟩, .string ⟨#[]⟩, .slice none 0 0, .slice none 0 0, .slice none 0 0, .int .i64 0] 92 (0, 0))] 92 [.int 2, .str [], .str nm61, .seq 7 [], .seq 3 (q63.2.map Qr.Dir.d), .seq 7 [], .int pa] [.int .i64 2, .string ⟨#[]⟩, .string ⟨nm61.toArray⟩, .slice none 0 0, .slice ra63 ln63 rc63, .slice none 0 0, .int .i64 pa] q63.1 ((w63x).setCell ⟨t6, 4, none⟩ (.slice ra63 ln63 rc63))) := Lib.hid (HC63.out.put 4 (HDA63.out) rfl)
        have HR : Hid (Qr.selOf f (n + 1) s = (q63.1, .mk 2 [] nm61 [] q63.2 [] pa)) := by
          refine Lib.hid ?_
          unfold Qr.selOf
          rw [if_pos HB.out.symm, if_pos (by rw [isW_nil, ← HNN.out, ← HO.out]; rfl), ← HPA.out]
          unfold Qr.spreadOf
          dsimp only
          rw [← HST61.out, ← HNM61.out, ← HQ63.out]
        clear y0 yf0 y2 yf2
        have y0 := blk_cell HC63.out.b6 0 (.int .i64 2) rfl
        have yf0 := blk_free HC63.out.b6 0
        have y1 := blk_cell HC63.out.b6 1 (.string ⟨#[]⟩) rfl
        have yf1 := blk_free HC63.out.b6 1
        have y2 := blk_cell HC63.out.b6 2 (.string ⟨nm61.toArray⟩) rfl
        have yf2 := blk_free HC63.out.b6 2
        have y3 := blk_cell HC63.out.b6 3 (.slice none 0 0) rfl
        have yf3 := blk_free HC63.out.b6 3
        have y5 := blk_cell HC63.out.b6 5 (.slice none 0 0) rfl
        have yf5 := blk_free HC63.out.b6 5
        have y6 := blk_cell HC63.out.b6 6 (.int .i64 pa) rfl
        have yf6 := blk_free HC63.out.b6 6
        have z0 := blk_cell (HC63.out.cb _ (List.mem_singleton.2 rfl)) 0 (.int .i64 0) rfl
        have zf0 := blk_free (HC63.out.cb _ (List.mem_singleton.2 rfl)) 0
        have z1 := blk_cell (HC63.out.cb _ (List.mem_singleton.2 rfl)) 1 (.string ⟨#[]⟩) rfl
        have zf1 := blk_free (HC63.out.cb _ (List.mem_singleton.2 rfl)) 1
        have z2 := blk_cell (HC63.out.cb _ (List.mem_singleton.2 rfl)) 2 (.string ⟨#[]⟩) rfl
        have zf2 := blk_free (HC63.out.cb _ (List.mem_singleton.2 rfl)) 2
        have z3 := blk_cell (HC63.out.cb _ (List.mem_singleton.2 rfl)) 3 (.slice none 0 0) rfl
        have zf3 := blk_free (HC63.out.cb _ (List.mem_singleton.2 rfl)) 3
        have z4 := blk_cell (HC63.out.cb _ (List.mem_singleton.2 rfl)) 4 (.slice none 0 0) rfl
        have zf4 := blk_free (HC63.out.cb _ (List.mem_singleton.2 rfl)) 4
        have z5 := blk_cell (HC63.out.cb _ (List.mem_singleton.2 rfl)) 5 (.slice none 0 0) rfl
        have zf5 := blk_free (HC63.out.cb _ (List.mem_singleton.2 rfl)) 5
        have z6 := blk_cell (HC63.out.cb _ (List.mem_singleton.2 rfl)) 6 (.int .i64 0) rfl
        have zf6 := blk_free (HC63.out.cb _ (List.mem_singleton.2 rfl)) 6
        have hfin := HP64.out.fin (r := w.heap.size) (List.mem_singleton.2 rfl)
        simp only [putCells, Nat.reduceAdd, Nat.zero_add] at hfin
        have HFN := Lib.hid hfin
        clear hfin
        go_wp2_with fail
        refine bodyPost_ret (v := .agg #[.int .i64 2, .string ⟨#[]⟩, .string ⟨nm61.toArray⟩, .slice none 0 0, .slice ra63 ln63 rc63, .slice none 0 0, .int .i64 pa]) (by simp [results, Tryz.results149, go_sem, z0, z1, z2, z3, z4, z5, z6, n1, n2]) rfl ?_
        rw [HR.out]
        unfold Qr.Sel.d
        rw [Qr.Sel.dl_map]
        exact ⟨_, rfl, HFN.out⟩
      · have y0 := blk_cell HC11.out.b6 0 (.int .i64 0) rfl
        have yf0 := blk_free HC11.out.b6 0
        have HP21 : Hid (FJ w b g t6 lo [(w.heap.size, Obj.cells #[.int .i64 0, .string ⟨#[]⟩, .string ⟨#[]⟩, .slice none 0 0, .slice none 0 0, .slice none 0 0, .int .i64 0] 92 (0, 0))] 92 [.int 3, .str [], .str [], .seq 7 [], .seq 3 [], .seq 7 [], .int pa] [.int .i64 3, .string ⟨#[]⟩, .string ⟨#[]⟩, .slice none 0 0, .slice none 0 0, .slice none 0 0, .int .i64 pa] (Rd.next s) ((w11x).setCell ⟨t6, 0, none⟩ (.int .i64 3))) := Lib.hid (HC11.out.put 0 (.int 3) rfl)
        have HBL22 : Hid (Below ((w11x).setCell ⟨t6, 0, none⟩ (.int .i64 3)).heap.size ((w11x).setCell ⟨t6, 0, none⟩ (.int .i64 3)) (((w11x).setCell ⟨t6, 0, none⟩ (.int .i64 3)).alloc (.cells #[.string ⟨#[111, 110]⟩] 9))) := Lib.hid ((Below.refl _ _).alloc (Nat.le_refl _) _)
        obtain ⟨sz22, hsz22⟩ : ∃ x, x = ((w11x).setCell ⟨t6, 0, none⟩ (.int .i64 3)).heap.size := ⟨_, rfl⟩
        have HTX22 : Hid (Txts (((w11x).setCell ⟨t6, 0, none⟩ (.int .i64 3)).alloc (.cells #[.string ⟨#[111, 110]⟩] 9)) (.slice (some ⟨sz22, 0, none⟩) 1 1) [Qr.sOn]) := by
          rw [hsz22]; exact Lib.hid (txts_one _ Qr.sOn ⟨#[111, 110]⟩ 9 rfl)
        try simp only [size_set] at hsz22
        subst hsz22
        go_wp2_with fail
        refine (rword_any b g (Rd.next s) _ [Qr.sOn] _ ((HP21.out.below HBL22.out).rd) HTX22.out (by simp)).mono ?_
        rintro r w22x ⟨rfl, hb22⟩
        have HC22 : Hid (FJ w b g t6 lo [(w.heap.size, Obj.cells #[.int .i64 0, .string ⟨#[]⟩, .string ⟨#[]⟩, .slice none 0 0, .slice none 0 0, .slice none 0 0, .int .i64 0] 92 (0, 0))] 92 [.int 3, .str [], .str [], .seq 7 [], .seq 3 [], .seq 7 [], .int pa] [.int .i64 3, .string ⟨#[]⟩, .string ⟨#[]⟩, .slice none 0 0, .slice none 0 0, .slice none 0 0, .int .i64 pa] (Rd.next s) (w22x)) := Lib.hid ((HP21.out.below HBL22.out).below hb22)
        obtain ⟨O2, hO2⟩ : ∃ B, B = Rd.isW (Rd.next s) [Qr.sOn] := ⟨_, rfl⟩
        have HO2 := Lib.hid hO2
        rw [← hO2]
        clear hO2 hb22
        clear y0 yf0
        cases O2
        · have HON : Hid (Qr.onOf (Rd.next s) = (Rd.next s, [])) := by unfold Qr.onOf; rw [if_neg (by rw [← HO2.out]; simp)]; exact Lib.hid rfl
          go_wp2_with fail
          refine (dirs_any b g n hnb (Rd.next s) _ HC22.out.rd (Nat.le_trans HOKN.out.len HN.out) (by rw [HDPN.out]; omega)).mono ?_
          rintro r w41x ⟨ra41, rc41, rfl, hrd, h41, f41⟩
          obtain ⟨q41, hq41⟩ : ∃ x, x = Qr.dirs (n + 1) (Rd.next s) := ⟨_, rfl⟩
          rw [← hq41] at hrd h41 ⊢
          have HQ41 := Lib.hid hq41
          have hda := HC22.out.data hrd
          obtain ⟨ln41, hln⟩ : ∃ x, x = q41.2.length := ⟨_, rfl⟩
          rw [List.length_map, ← hln] at hda ⊢
          have HOK41x : Hid (Rd.Ok s q41.1) := by rw [HQ41.out]; exact Lib.hid (HOKN.out.trans (Qr.ok_dirs (n + 1) _))
          have HDP41x : Hid (q41.1.deep = s.deep) := by rw [HQ41.out, Qr.dirs_deep]; exact HDPN
          have HC41 : Hid (FJ w b g t6 lo [(w.heap.size, Obj.cells #[.int .i64 0, .string ⟨#[]⟩, .string ⟨#[]⟩, .slice none 0 0, .slice none 0 0, .slice none 0 0, .int .i64 0] 92 (0, 0))] 92 [.int 3, .str [], .str [], .seq 7 [], .seq 3 [], .seq 7 [], .int pa] [.int .i64 3, .string ⟨#[]⟩, .string ⟨#[]⟩, .slice none 0 0, .slice none 0 0, .slice none 0 0, .int .i64 pa] q41.1 (w41x)) := Lib.hid (HC22.out.step h41 f41)
          have HDA41 := Lib.hid hda
          clear hrd h41 f41 hq41 hda hln
          have y4 := blk_cell HC41.out.b6 4 (.slice none 0 0) rfl
          have yf4 := blk_free HC41.out.b6 4
          have HP42 : Hid (FJ w b g t6 lo [(w.heap.size, Obj.cells #[.int .i64 0, .string ⟨#[]⟩, .string ⟨#[]⟩, .slice none 0 0, .slice none 0 0, .slice none 0 0, .int .i64 0] 92 (0, 0))] 92 [.int 3, .str [], .str [], .seq 7 [], .seq 3 (q41.2.map Qr.Dir.d), .seq 7 [], .int pa] [.int .i64 3, .string ⟨#[]⟩, .string ⟨#[]⟩, .slice none 0 0, .slice ra41 ln41 rc41, .slice none 0 0, .int .i64 pa] q41.1 ((w41x).setCell ⟨t6, 4, none⟩ (.slice ra41 ln41 rc41))) := Lib.hid (HC41.out.put 4 (HDA41.out) rfl)
          go_wp2_with fail
          refine (HS.out q41.1 _ HP42.out.rd (Nat.le_trans HOK41x.out.len HN.out) HDP41x.out HERR.out ?_).mono ?_
          · right; exact Nat.lt_of_le_of_lt (show q41.1.rest.length ≤ (Rd.next s).rest.length by have h8 := Qr.ok_onOf (Rd.next s); rw [HON.out] at h8; have h9 := h8.trans (Qr.ok_dirs (n + 1) _); rw [HQ41.out]; exact h9.len) HNX.out.1
          rintro r w43x ⟨ra43, rc43, rfl, hrd, h43, f43⟩
          obtain ⟨q43, hq43⟩ : ∃ x, x = Qr.selsOf f q41.1 := ⟨_, rfl⟩
          rw [← hq43] at hrd h43 ⊢
          have HQ43 := Lib.hid hq43
          have hda := HP42.out.data hrd
          obtain ⟨ln43, hln⟩ : ∃ x, x = q43.2.length := ⟨_, rfl⟩
          rw [List.length_map, ← hln] at hda ⊢
          have HOK43x : Hid (Rd.Ok s q43.1) := by rw [HQ43.out]; exact Lib.hid (HOK41x.out.trans (Qr.ok_selsOf f HFO.out _))
          have HDP43x : Hid (q43.1.deep = s.deep) := by rw [HQ43.out, Qr.selsOf_deep f HFD.out]; exact HDP41x
          have HC43 : Hid (FJ w b g t6 lo [(w.heap.size, Obj.cells #[.int .i64 0, .string ⟨#[]⟩, .string ⟨#[]⟩, .slice none 0 0, .slice none 0 0, .slice none 0 0, .int .i64 0] 92 (0, 0))] 92 [.int 3, .str [], .str [], .seq 7 [], .seq 3 (q41.2.map Qr.Dir.d), .seq 7 [], .int pa] [.int .i64 3, .string ⟨#[]⟩, .string ⟨#[]⟩, .slice none 0 0, .slice ra41 ln41 rc41, .slice none 0 0, .int .i64 pa] q43.1 (w43x)) := Lib.hid (HP42.out.step h43 f43)
          have HDA43 := Lib.hid hda
          clear hrd h43 f43 hq43 hda hln
          have y5 := blk_cell HC43.out.b6 5 (.slice none 0 0) rfl
          have yf5 := blk_free HC43.out.b6 5
          have HP44 : Hid (FJ w b g t6 lo [(w.heap.size, Obj.cells #[.int .i64 0, .string ⟨#[]⟩, .string ⟨#[]⟩, .slice none 0 0, .slice none 0 0, .slice none 0 0, .int .i64 0] 92 (0, 0))] 92 [.int 3, .str [], .str [], .seq 7 [], .seq 3 (q41.2.map Qr.Dir.d), .seq 7 (q43.2.map Qr.Sel.d), .int pa] [.int .i64 3, .string ⟨#[]⟩, .string ⟨#[]⟩, .slice none 0 0, .slice ra41 ln41 rc41, .slice ra43 ln43 rc43, .int .i64 pa] q43.1 ((w43x).setCell ⟨t6, 5, none⟩ (.slice ra43 ln43 rc43))) := Lib.hid (HC43.out.put 5 (HDA43.out) rfl)
          have HR : Hid (Qr.selOf f (n + 1) s = (q43.1, .mk 3 [] [] [] q41.2 q43.2 pa)) := by
            refine Lib.hid ?_
            unfold Qr.selOf
            rw [if_pos HB.out.symm, if_neg (by rw [isW_nil, ← HNN.out, ← HO.out]; simp), ← HPA.out]
            unfold Qr.inlineOf
            dsimp only
            rw [HON.out, ← HQ41.out, ← HQ43.out]
          have y0 := blk_cell HC43.out.b6 0 (.int .i64 3) rfl
          have yf0 := blk_free HC43.out.b6 0
          have y1 := blk_cell HC43.out.b6 1 (.string ⟨#[]⟩) rfl
          have yf1 := blk_free HC43.out.b6 1
          have y2 := blk_cell HC43.out.b6 2 (.string ⟨#[]⟩) rfl
          have yf2 := blk_free HC43.out.b6 2
          have y3 := blk_cell HC43.out.b6 3 (.slice none 0 0) rfl
          have yf3 := blk_free HC43.out.b6 3
          have y4 := blk_cell HC43.out.b6 4 (.slice ra41 ln41 rc41) rfl
          have yf4 := blk_free HC43.out.b6 4
          have y6 := blk_cell HC43.out.b6 6 (.int .i64 pa) rfl
          have yf6 := blk_free HC43.out.b6 6
          have z0 := blk_cell (HC43.out.cb _ (List.mem_singleton.2 rfl)) 0 (.int .i64 0) rfl
          have zf0 := blk_free (HC43.out.cb _ (List.mem_singleton.2 rfl)) 0
          have z1 := blk_cell (HC43.out.cb _ (List.mem_singleton.2 rfl)) 1 (.string ⟨#[]⟩) rfl
          have zf1 := blk_free (HC43.out.cb _ (List.mem_singleton.2 rfl)) 1
          have z2 := blk_cell (HC43.out.cb _ (List.mem_singleton.2 rfl)) 2 (.string ⟨#[]⟩) rfl
          have zf2 := blk_free (HC43.out.cb _ (List.mem_singleton.2 rfl)) 2
          have z3 := blk_cell (HC43.out.cb _ (List.mem_singleton.2 rfl)) 3 (.slice none 0 0) rfl
          have zf3 := blk_free (HC43.out.cb _ (List.mem_singleton.2 rfl)) 3
          have z4 := blk_cell (HC43.out.cb _ (List.mem_singleton.2 rfl)) 4 (.slice none 0 0) rfl
          have zf4 := blk_free (HC43.out.cb _ (List.mem_singleton.2 rfl)) 4
          have z5 := blk_cell (HC43.out.cb _ (List.mem_singleton.2 rfl)) 5 (.slice none 0 0) rfl
          have zf5 := blk_free (HC43.out.cb _ (List.mem_singleton.2 rfl)) 5
          have z6 := blk_cell (HC43.out.cb _ (List.mem_singleton.2 rfl)) 6 (.int .i64 0) rfl
          have zf6 := blk_free (HC43.out.cb _ (List.mem_singleton.2 rfl)) 6
          have hfin := HP44.out.fin (r := w.heap.size) (List.mem_singleton.2 rfl)
          simp only [putCells, Nat.reduceAdd, Nat.zero_add] at hfin
          have HFN := Lib.hid hfin
          clear hfin
          go_wp2_with fail
          refine bodyPost_ret (v := .agg #[.int .i64 3, .string ⟨#[]⟩, .string ⟨#[]⟩, .slice none 0 0, .slice ra41 ln41 rc41, .slice ra43 ln43 rc43, .int .i64 pa]) (by simp [results, Tryz.results149, go_sem, z0, z1, z2, z3, z4, z5, z6, n1, n2]) rfl ?_
          rw [HR.out]
          unfold Qr.Sel.d
          rw [Qr.Sel.dl_map]
          exact ⟨_, rfl, HFN.out⟩
        · go_wp2_with fail
          refine (rnext_any b g (Rd.next s) _ HC22.out.rd).mono ?_
          rintro r w41x ⟨rfl, h41, f41⟩
          obtain ⟨st41, hs41⟩ : ∃ x, x = Rd.next (Rd.next s) := ⟨_, rfl⟩
          rw [← hs41] at h41
          have HST41 := Lib.hid hs41
          have HOK41x : Hid (Rd.Ok s st41) := by rw [HST41.out]; exact Lib.hid (HOKN.out.trans (Rd.ok_next _))
          have HDP41x : Hid (st41.deep = s.deep) := by rw [HST41.out, Rd.next_deep]; exact HDPN
          have HC41 : Hid (FJ w b g t6 lo [(w.heap.size, Obj.cells #[.int .i64 0, .string ⟨#[]⟩, .string ⟨#[]⟩, .slice none 0 0, .slice none 0 0, .slice none 0 0, .int .i64 0] 92 (0, 0))] 92 [.int 3, .str [], .str [], .seq 7 [], .seq 3 [], .seq 7 [], .int pa] [.int .i64 3, .string ⟨#[]⟩, .string ⟨#[]⟩, .slice none 0 0, .slice none 0 0, .slice none 0 0, .int .i64 pa] st41 (w41x)) := Lib.hid (HC22.out.step h41 f41)
          clear h41 f41 hs41
          go_wp2_with fail
          refine (rname_any b g st41 _ HC41.out.rd).mono ?_
          rintro r w42x ⟨rfl, h42, f42⟩
          obtain ⟨st42, hs42⟩ : ∃ x, x = (Rd.name st41).1 := ⟨_, rfl⟩
          rw [← hs42] at h42
          have HST42 := Lib.hid hs42
          have HOK42x : Hid (Rd.Ok s st42) := by rw [HST42.out]; exact Lib.hid (HOK41x.out.trans (Rd.ok_name _))
          have HDP42x : Hid (st42.deep = s.deep) := by rw [HST42.out, Rd.name_deep]; exact HDP41x
          obtain ⟨nm42, hnm42⟩ : ∃ x, x = (Rd.name st41).2 := ⟨_, rfl⟩
          rw [← hnm42]
          have HNM42 := Lib.hid hnm42
          clear hnm42
          have HC42 : Hid (FJ w b g t6 lo [(w.heap.size, Obj.cells #[.int .i64 0, .string ⟨#[]⟩, .string ⟨#[]⟩, .slice none 0 0, .slice none 0 0, .slice none 0 0, .int .i64 0] 92 (0, 0))] 92 [.int 3, .str [], .str [], .seq 7 [], .seq 3 [], .seq 7 [], .int pa] [.int .i64 3, .string ⟨#[]⟩, .string ⟨#[]⟩, .slice none 0 0, .slice none 0 0, .slice none 0 0, .int .i64 pa] st42 (w42x)) := Lib.hid (HC41.out.step h42 f42)
          clear h42 f42 hs42
          have y2 := blk_cell HC42.out.b6 2 (.string ⟨#[]⟩) rfl
          have yf2 := blk_free HC42.out.b6 2
          have HP43 : Hid (FJ w b g t6 lo [(w.heap.size, Obj.cells #[.int .i64 0, .string ⟨#[]⟩, .string ⟨#[]⟩, .slice none 0 0, .slice none 0 0, .slice none 0 0, .int .i64 0] 92 (0, 0))] 92 [.int 3, .str [], .str nm42, .seq 7 [], .seq 3 [], .seq 7 [], .int pa] [.int .i64 3, .string ⟨#[]⟩, .string ⟨nm42.toArray⟩, .slice none 0 0, .slice none 0 0, .slice none 0 0, .int .i64 pa] st42 ((w42x).setCell ⟨t6, 2, none⟩ (.string ⟨nm42.toArray⟩))) := Lib.hid (HC42.out.put 2 (.str nm42) rfl)
          have HON : Hid (Qr.onOf (Rd.next s) = (st42, nm42)) := by unfold Qr.onOf; rw [if_pos HO2.out.symm, ← HST41.out]; exact Lib.hid (Prod.ext HST42.out.symm HNM42.out.symm)
          go_wp2_with fail
          refine (dirs_any b g n hnb st42 _ HP43.out.rd (Nat.le_trans HOK42x.out.len HN.out) (by rw [HDP42x.out]; omega)).mono ?_
          rintro r w44x ⟨ra44, rc44, rfl, hrd, h44, f44⟩
          obtain ⟨q44, hq44⟩ : ∃ x, x = Qr.dirs (n + 1) st42 := ⟨_, rfl⟩
          rw [← hq44] at hrd h44 ⊢
          have HQ44 := Lib.hid hq44
          have hda := HP43.out.data hrd
          obtain ⟨ln44, hln⟩ : ∃ x, x = q44.2.length := ⟨_, rfl⟩
          rw [List.length_map, ← hln] at hda ⊢
          have HOK44x : Hid (Rd.Ok s q44.1) := by rw [HQ44.out]; exact Lib.hid (HOK42x.out.trans (Qr.ok_dirs (n + 1) _))
          have HDP44x : Hid (q44.1.deep = s.deep) := by rw [HQ44.out, Qr.dirs_deep]; exact HDP42x
          have HC44 : Hid (FJ w b g t6 lo [(w.heap.size, Obj.cells #[.int .i64 0, .string ⟨#[]⟩, .string ⟨#[]⟩, .slice none 0 0, .slice none 0 0, .slice none 0 0, .int .i64 0] 92 (0, 0))] 92 [.int 3, .str [], .str nm42, .seq 7 [], .seq 3 [], .seq 7 [], .int pa] [.int .i64 3, .string ⟨#[]⟩, .string ⟨nm42.toArray⟩, .slice none 0 0, .slice none 0 0, .slice none 0 0, .int .i64 pa] q44.1 (w44x)) := Lib.hid (HP43.out.step h44 f44)
          have HDA44 := Lib.hid hda
          clear hrd h44 f44 hq44 hda hln
          have y4 := blk_cell HC44.out.b6 4 (.slice none 0 0) rfl
          have yf4 := blk_free HC44.out.b6 4
          have HP45 : Hid (FJ w b g t6 lo [(w.heap.size, Obj.cells #[.int .i64 0, .string ⟨#[]⟩, .string ⟨#[]⟩, .slice none 0 0, .slice none 0 0, .slice none 0 0, .int .i64 0] 92 (0, 0))] 92 [.int 3, .str [], .str nm42, .seq 7 [], .seq 3 (q44.2.map Qr.Dir.d), .seq 7 [], .int pa] [.int .i64 3, .string ⟨#[]⟩, .string ⟨nm42.toArray⟩, .slice none 0 0, .slice ra44 ln44 rc44, .slice none 0 0, .int .i64 pa] q44.1 ((w44x).setCell ⟨t6, 4, none⟩ (.slice ra44 ln44 rc44))) := Lib.hid (HC44.out.put 4 (HDA44.out) rfl)
          clear y2 yf2 
          go_wp2_with fail
          refine (HS.out q44.1 _ HP45.out.rd (Nat.le_trans HOK44x.out.len HN.out) HDP44x.out HERR.out ?_).mono ?_
          · right; exact Nat.lt_of_le_of_lt (show q44.1.rest.length ≤ (Rd.next s).rest.length by have h8 := Qr.ok_onOf (Rd.next s); rw [HON.out] at h8; have h9 := h8.trans (Qr.ok_dirs (n + 1) _); rw [HQ44.out]; exact h9.len) HNX.out.1
          rintro r w46x ⟨ra46, rc46, rfl, hrd, h46, f46⟩
          obtain ⟨q46, hq46⟩ : ∃ x, x = Qr.selsOf f q44.1 := ⟨_, rfl⟩
          rw [← hq46] at hrd h46 ⊢
          have HQ46 := Lib.hid hq46
          have hda := HP45.out.data hrd
          obtain ⟨ln46, hln⟩ : ∃ x, x = q46.2.length := ⟨_, rfl⟩
          rw [List.length_map, ← hln] at hda ⊢
          have HOK46x : Hid (Rd.Ok s q46.1) := by rw [HQ46.out]; exact Lib.hid (HOK44x.out.trans (Qr.ok_selsOf f HFO.out _))
          have HDP46x : Hid (q46.1.deep = s.deep) := by rw [HQ46.out, Qr.selsOf_deep f HFD.out]; exact HDP44x
          have HC46 : Hid (FJ w b g t6 lo [(w.heap.size, Obj.cells #[.int .i64 0, .string ⟨#[]⟩, .string ⟨#[]⟩, .slice none 0 0, .slice none 0 0, .slice none 0 0, .int .i64 0] 92 (0, 0))] 92 [.int 3, .str [], .str nm42, .seq 7 [], .seq 3 (q44.2.map Qr.Dir.d), .seq 7 [], .int pa] [.int .i64 3, .string ⟨#[]⟩, .string ⟨nm42.toArray⟩, .slice none 0 0, .slice ra44 ln44 rc44, .slice none 0 0, .int .i64 pa] q46.1 (w46x)) := Lib.hid (HP45.out.step h46 f46)
          have HDA46 := Lib.hid hda
          clear hrd h46 f46 hq46 hda hln
          have y5 := blk_cell HC46.out.b6 5 (.slice none 0 0) rfl
          have yf5 := blk_free HC46.out.b6 5
          have HP47 : Hid (FJ w b g t6 lo [(w.heap.size, Obj.cells #[.int .i64 0, .string ⟨#[]⟩, .string ⟨#[]⟩, .slice none 0 0, .slice none 0 0, .slice none 0 0, .int .i64 0] 92 (0, 0))] 92 [.int 3, .str [], .str nm42, .seq 7 [], .seq 3 (q44.2.map Qr.Dir.d), .seq 7 (q46.2.map Qr.Sel.d), .int pa] [.int .i64 3, .string ⟨#[]⟩, .string ⟨nm42.toArray⟩, .slice none 0 0, .slice ra44 ln44 rc44, .slice ra46 ln46 rc46, .int .i64 pa] q46.1 ((w46x).setCell ⟨t6, 5, none⟩ (.slice ra46 ln46 rc46))) := Lib.hid (HC46.out.put 5 (HDA46.out) rfl)
          have HR : Hid (Qr.selOf f (n + 1) s = (q46.1, .mk 3 [] nm42 [] q44.2 q46.2 pa)) := by
            refine Lib.hid ?_
            unfold Qr.selOf
            rw [if_pos HB.out.symm, if_neg (by rw [isW_nil, ← HNN.out, ← HO.out]; simp), ← HPA.out]
            unfold Qr.inlineOf
            dsimp only
            rw [HON.out, ← HQ44.out, ← HQ46.out]
          have y0 := blk_cell HC46.out.b6 0 (.int .i64 3) rfl
          have yf0 := blk_free HC46.out.b6 0
          have y1 := blk_cell HC46.out.b6 1 (.string ⟨#[]⟩) rfl
          have yf1 := blk_free HC46.out.b6 1
          have y2 := blk_cell HC46.out.b6 2 (.string ⟨nm42.toArray⟩) rfl
          have yf2 := blk_free HC46.out.b6 2
          have y3 := blk_cell HC46.out.b6 3 (.slice none 0 0) rfl
          have yf3 := blk_free HC46.out.b6 3
          have y4 := blk_cell HC46.out.b6 4 (.slice ra44 ln44 rc44) rfl
          have yf4 := blk_free HC46.out.b6 4
          have y6 := blk_cell HC46.out.b6 6 (.int .i64 pa) rfl
          have yf6 := blk_free HC46.out.b6 6
          have z0 := blk_cell (HC46.out.cb _ (List.mem_singleton.2 rfl)) 0 (.int .i64 0) rfl
          have zf0 := blk_free (HC46.out.cb _ (List.mem_singleton.2 rfl)) 0
          have z1 := blk_cell (HC46.out.cb _ (List.mem_singleton.2 rfl)) 1 (.string ⟨#[]⟩) rfl
          have zf1 := blk_free (HC46.out.cb _ (List.mem_singleton.2 rfl)) 1
          have z2 := blk_cell (HC46.out.cb _ (List.mem_singleton.2 rfl)) 2 (.string ⟨#[]⟩) rfl
          have zf2 := blk_free (HC46.out.cb _ (List.mem_singleton.2 rfl)) 2
          have z3 := blk_cell (HC46.out.cb _ (List.mem_singleton.2 rfl)) 3 (.slice none 0 0) rfl
          have zf3 := blk_free (HC46.out.cb _ (List.mem_singleton.2 rfl)) 3
          have z4 := blk_cell (HC46.out.cb _ (List.mem_singleton.2 rfl)) 4 (.slice none 0 0) rfl
          have zf4 := blk_free (HC46.out.cb _ (List.mem_singleton.2 rfl)) 4
          have z5 := blk_cell (HC46.out.cb _ (List.mem_singleton.2 rfl)) 5 (.slice none 0 0) rfl
          have zf5 := blk_free (HC46.out.cb _ (List.mem_singleton.2 rfl)) 5
          have z6 := blk_cell (HC46.out.cb _ (List.mem_singleton.2 rfl)) 6 (.int .i64 0) rfl
          have zf6 := blk_free (HC46.out.cb _ (List.mem_singleton.2 rfl)) 6
          have hfin := HP47.out.fin (r := w.heap.size) (List.mem_singleton.2 rfl)
          simp only [putCells, Nat.reduceAdd, Nat.zero_add] at hfin
          have HFN := Lib.hid hfin
          clear hfin
          go_wp2_with fail
          refine bodyPost_ret (v := .agg #[.int .i64 3, .string ⟨#[]⟩, .string ⟨nm42.toArray⟩, .slice none 0 0, .slice ra44 ln44 rc44, .slice ra46 ln46 rc46, .int .i64 pa]) (by simp [results, Tryz.results149, go_sem, z0, z1, z2, z3, z4, z5, z6, n1, n2]) rfl ?_
          rw [HR.out]
          unfold Qr.Sel.d
          rw [Qr.Sel.dl_map]
          exact ⟨_, rfl, HFN.out⟩
end Go.Proofs.YtabcaljnpahgpaaGreatDoor
namespace Go.Proofs.YtabcaljnpahgpaaGreatDoor
set_option linter.unusedSimpArgs false
set_option linter.unusedVariables false
open Go Go.RowKit

theorem sel_any (b g n : Nat) (hnb : n ≤ 1600) : ∀ kk : Nat, SelC b g n kk
  | 0 => fun s w h hn hk hd => sel_step b g n hnb (Qr.sel (n + 1) 0) s (Qr.ok_sel (n + 1) 0) (Qr.sel_deep (n + 1) 0) (fun s1 w1 _ _ _ he _ => by
      rcases hk with hx | hx
      · exact absurd he hx
      · have := h.rest_len; omega) w h hn (by omega)
  | kk + 1 => fun s w h hn hk hd => sel_step b g n hnb (Qr.sel (n + 1) (kk + 1)) s (Qr.ok_sel (n + 1) (kk + 1)) (Qr.sel_deep (n + 1) (kk + 1)) (fun s1 w1 h1 hn1 hd1 he h2 => sels_step b g n kk hnb (sel_any b g n hnb kk) s1 w1 h1 hn1 (by
      rcases hk with hx | hx
      · exact absurd he hx
      · rcases h2 with hy | hy
        · exact .inl hy
        · right; omega) (by omega)) w h hn (by omega)
theorem sels_any (b g n : Nat) (hnb : n ≤ 1600) (s : Rd.St) (w : World) (h : RdAt w b g s) (hn : s.rest.length ≤ n) (hd : 0 ≤ s.deep ∧ s.deep ≤ 700000) :
    Calls Tryz.prog 116 #[.pointer (some ⟨b, 0, none⟩)] w (GotL b g w 7 ((Qr.sels (n + 1) (n + 1) s).2.map Qr.Sel.d) (Qr.sels (n + 1) (n + 1) s).1) :=
  sels_step b g n n hnb (sel_any b g n hnb n) s w h hn (.inr (by omega)) (by omega)
end Go.Proofs.YtabcaljnpahgpaaGreatDoor
