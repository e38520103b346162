/-
  Documents as data in memory; a block that is filled field by field, its data beside it. The reader of documents: directives, but, walked. The reader of documents: variable, walked. The reader of documents: what is done for each selection, each variable (closures), walked. Documents as data: what their cells hold. The reader of documents: a selection set, walked, a selection's walk being given. A block that is filled field by field, its data beside it, other new blocks about it.
-/
import Derived.Test.YtabcaljnpahgpaaDoorG1
import Derived.Test.YtabcaljnpahgpaaDoorG8
import Derived.Test.YtabcaljnpahgpaaDoorG7
namespace Go.Proofs.YtabcaljnpahgpaaDoor
set_option linter.unusedSimpArgs false
set_option linter.unusedVariables false
open Go Go.RowKit
namespace Qr
def Dir.d (x : Dir) : D := .obj [.str x.name, .seq 7 (x.args.map Rd.A.d), .int x.at_]
mutual
def Sel.d : Sel → D
  | .mk k al nm ar ds ss a => .obj [.int k, .str al, .str nm, .seq 7 (ar.map Rd.A.d), .seq 3 (ds.map Dir.d), .seq 7 (Sel.dl ss), .int a]
def Sel.dl : List Sel → List D
  | [] => []
  | x :: r => Sel.d x :: Sel.dl r
end
theorem Sel.dl_map : ∀ l : List Sel, Sel.dl l = l.map Sel.d
  | [] => by rw [Sel.dl]; rfl
  | x :: r => by rw [Sel.dl, Sel.dl_map r]; rfl
def Vd.d (x : Vd) : D := .obj [.str x.name, .str x.type, .bool x.has, x.dflt.d, .int x.at_]
def Op.d (x : Op) : D := .obj [.int x.kind, .str x.name, .seq 9 (x.vars.map Vd.d), .seq 3 (x.dirs.map Dir.d), .seq 7 (x.sels.map Sel.d), .int x.at_]
def Fr.d (x : Fr) : D := .obj [.str x.name, .str x.on, .seq 3 (x.dirs.map Dir.d), .seq 7 (x.sels.map Sel.d), .int x.at_]
end Qr

/-- A field of one cell. -/
def D.one : D → Bool
  | .obj _ => false
  | _ => true
theorem Reads.one_cell {w : World} {P : Nat → Prop} {d : D} {cs : List Value} (h : Reads w P d cs) (hd : d.one = true) : ∃ v, cs = [v] := by
  cases h with
  | int n => exact ⟨_, rfl⟩
  | str s => exact ⟨_, rfl⟩
  | bool b => exact ⟨_, rfl⟩
  | obj h => cases hd
  | seq h => exact ⟨_, rfl⟩
theorem ReadsR.set {w : World} {P : Nat → Prop} {d : D} {v : Value} (hv : Reads w P d [v]) : ∀ {ds : List D} {cs : List Value} (j : Nat), ReadsR w P ds cs → ds.all D.one = true → ReadsR w P (ds.set j d) (cs.set j v)
  | [], _, j, .nil, _ => by cases j <;> exact .nil
  | x :: ds, _, 0, .cons h t, ho => by
    rw [List.all_cons, Bool.and_eq_true] at ho
    obtain ⟨u, rfl⟩ := h.one_cell ho.1
    exact .cons hv t
  | x :: ds, _, j + 1, .cons h t, ho => by
    rw [List.all_cons, Bool.and_eq_true] at ho
    obtain ⟨u, rfl⟩ := h.one_cell ho.1
    exact .cons h (ReadsR.set hv j t ho.2)

/-- A block that is filled, and what its fields hold. -/
structure FI (w0 : World) (b g t6 : Nat) (bx : List Box) (T6 : TypeId) (ds : List D) (cs : List Value) (s : Rd.St) (w : World) : Prop where
  bi : BI w0 b g t6 bx T6 cs.toArray s w
  rr : ReadsR w (fun x => t6 < x) ds cs
section
variable {w0 w w' : World} {b g t6 : Nat} {bx : List Box} {T6 : TypeId} {ds : List D} {cs : List Value} {s s' : Rd.St}
theorem FI.rd (h : FI w0 b g t6 bx T6 ds cs s w) : RdAt w b g s := h.bi.rd
theorem FI.step (h : FI w0 b g t6 bx T6 ds cs s w) (hr : RdAt w' b g s') (hf : Fr b w w') : FI w0 b g t6 bx T6 ds cs s' w' :=
  ⟨h.bi.step hr hf, h.rr.to ⟨hf.size, fun x hx hp => ⟨hp, hf.block x hx (by have h1 := h.bi.l6; have h2 := h.bi.lb; have h3 : t6 < x := hp; omega)⟩⟩⟩
theorem FI.below (h : FI w0 b g t6 bx T6 ds cs s w) (hb : Below w.heap.size w w') : FI w0 b g t6 bx T6 ds cs s w' := h.step (h.rd.below hb) (But.of_below hb)
theorem FI.put (h : FI w0 b g t6 bx T6 ds cs s w) (j : Nat) {d : D} {v : Value} (hv : Reads w (fun x => t6 < x) d [v]) (ho : ds.all D.one = true) : FI w0 b g t6 bx T6 (ds.set j d) (cs.set j v) s (w.setCell ⟨t6, j, none⟩ v) := by
  refine ⟨?_, (h.rr.set hv j ho).to ⟨by rw [size_set]; exact Nat.le_refl _, fun x hx hp => ⟨hp, heap_set_ne (by have h3 : t6 < x := hp; omega)⟩⟩⟩
  have := h.bi.put j v
  rwa [List.setIfInBounds_toArray] at this
/-- A callee's data. -/
theorem FI.data (h : FI w0 b g t6 bx T6 ds cs s w) {d : D} {us : List Value} (hd : Reads w' (fun x => w.heap.size ≤ x) d us) : Reads w' (fun x => t6 < x) d us :=
  hd.to (Stands.sub w' (fun x _ hp => by have h1 := block_lt h.bi.b6; have h2 : w.heap.size ≤ x := hp; show t6 < x; omega))
theorem FI.fin {r : Nat} {o : Obj} (h : FI w0 b g t6 bx T6 ds cs s w) (hr : (r, o) ∈ bx) :
    Reads (putCells w r 0 cs) (fun x => w0.heap.size ≤ x) (.obj ds) cs ∧ RdAt (putCells w r 0 cs) b g s ∧ Fr b w0 (putCells w r 0 cs) :=
  h.bi.fin hr (.obj h.rr) (fun x hx => hx)
/-- The start: the result's block, what was done, and the new block. -/
theorem FI.start {w1 w2 : World} {T : TypeId} {zs : Array Value} (hr : RdAt w2 b g s) (hf : Fr b (w.alloc (.cells zs T)) w2) (hl : b < w.heap.size ∧ g < w.heap.size) (hw : w1 = w2.alloc (.cells cs.toArray T6)) (hd : ReadsR w1 (fun x => w2.heap.size < x) ds cs) :
    FI w b g w2.heap.size [(w.heap.size, .cells zs T (0, 0))] T6 ds cs s w1 := by
  have h1 := hf.size
  have h2 : (w.alloc (.cells zs T)).heap.size = w.heap.size + 1 := by simp
  have hbb : Below w2.heap.size w2 w1 := by rw [hw]; exact (Below.refl _ _).alloc (Nat.le_refl _) _
  refine ⟨⟨hr.below hbb, fun p hp => ?_, by rw [hw]; exact heap_at_new _ _, ((But.of_below ((Below.refl _ _).alloc (Nat.le_refl _) _)).trans hf).trans (But.of_below hbb), hl.1, hl.2, fun p hp => ?_, by omega⟩, hd⟩
  · rw [List.mem_singleton.1 hp]
    show w1.heap[w.heap.size]? = _
    rw [hbb.block w.heap.size (by omega), hf.block w.heap.size (by omega) (by omega)]
    exact heap_at_new _ _
  · rw [List.mem_singleton.1 hp]
    show w.heap.size ≤ w.heap.size ∧ w.heap.size < w2.heap.size
    omega
end
end Go.Proofs.YtabcaljnpahgpaaDoor
namespace Go.Proofs.YtabcaljnpahgpaaDoor
set_option linter.unusedSimpArgs false
set_option linter.unusedVariables false
open Go Go.RowKit

theorem infoDir : (Tryd.prog.info? 84).map (fun i => (i.zero, i.size, i.bytes)) = some (some (.agg #[.string ⟨#[]⟩, .slice none 0 0, .int .i64 0]), 3, 48) := by kernel_rfl
theorem txts_one (w : World) (c : List UInt8) (v : ByteArray) (T : TypeId) (hv : v = ⟨c.toArray⟩) : Txts (w.alloc (.cells #[.string v] T)) (.slice (some ⟨w.heap.size, 0, none⟩) 1 1) [c] := by
  subst hv
  exact txts_lit w [c] #[.string ⟨c.toArray⟩] T rfl
set_option maxHeartbeats 1000000 in
set_option maxRecDepth 100000 in
theorem dirs_any (b g n : Nat) (hnb : n ≤ 1600) (s : Rd.St) (w : World) (h : RdAt w b g s) (hn : s.rest.length ≤ n) (hd : 0 ≤ s.deep ∧ s.deep + n ≤ 900000) :
    Calls Tryd.prog 39 #[.pointer (some ⟨b, 0, none⟩)] w (GotL b g w 3 ((Qr.dirs (n + 1) s).2.map Qr.Dir.d) (Qr.dirs (n + 1) s).1) := by
  obtain ⟨i0, hi, hz0, hz1, hz2⟩ := info_parts infoDir
  have H := Lib.hid h
  have HL := Lib.hid h.rest_len
  obtain ⟨d0, d1⟩ := hd
  clear h
  go_enter Tryd.func39, Tryd.ntmps39
  go_wp2_with fail
  go_loopg [3] (s.rest.length + 2) (fun k s3 wr => ∃ (m : Nat) (sr : Rd.St) (out : List Qr.Dir), k = m + 1 ∧ sr.rest.length < m ∧ out.length + sr.rest.length ≤ 1502 ∧ sr.rest.length ≤ n ∧ sr.deep = s.deep ∧ GI w b g 84 3 sr s3 (out.map Qr.Dir.d) wr ∧ Qr.dirsGo (n + 1) m sr out = Qr.dirs (n + 1) s)
  case atStart => exact ⟨s.rest.length + 1, s, [], rfl, by omega, by have := HL.out; simp; omega, hn, rfl, GI.nil H.out _ _, rfl⟩
  case round =>
    obtain ⟨m, sr, out, rfl, hm, hol, hrn, hdp, hG, hgo⟩ := hrel
    obtain ⟨va, vc, hv⟩ := hG.row.form
    rw [List.length_map] at hv
    subst hv
    have HG := Lib.hid hG
    have HGO := Lib.hid hgo
    have HDP := Lib.hid hdp
    have hbA : Below wr.heap.size wr (wr.alloc (.cells #[.string ⟨#[64]⟩] 9)) := (Below.refl _ _).alloc (Nat.le_refl _) _
    have HBA := Lib.hid hbA
    clear hG hgo hdp hbA
    go_wp2_with fail
    refine (ris_any b g sr _ [Qr.sAt] _ (HG.out.rd.below HBA.out) (txts_one wr Qr.sAt _ _ rfl) (by simp)).mono ?_
    rintro r w2 ⟨rfl, hb2⟩
    rw [show ([Qr.sAt].any (Rd.isS sr)) = Rd.isS sr Qr.sAt by simp]
    have HF2 := Lib.hid (But.of_below (X := fun k => k = b) (HBA.out.trans (hb2.mono HBA.out.size)))
    have HR2 := Lib.hid (HG.out.rd.below (HBA.out.trans (hb2.mono HBA.out.size)))
    obtain ⟨B, hB⟩ : ∃ B, B = Rd.isS sr Qr.sAt := ⟨_, rfl⟩
    have HB := Lib.hid hB
    rw [← hB]
    obtain ⟨m', rfl⟩ : ∃ m', m = m' + 1 := ⟨m - 1, by omega⟩
    clear hB hb2
    cases B
    · have HE : Hid (Qr.dirs (n + 1) s = (sr, out)) := by
        rw [← HGO.out, Qr.dirsGo, if_neg (by rw [← HB.out]; simp)]
        exact Lib.hid rfl
      go_wp2_with fail
      go_ret
      rw [HE.out]
      have hg2 := HG.out.step HR2.out HF2.out
      exact ⟨va, vc, by rw [List.length_map]; rfl, by rw [List.length_map]; exact hg2.reads, HR2.out, hg2.fr⟩
    · have HNX := Lib.hid (Rd.next_sign HB.out.symm)
      have HST : Hid (Qr.dirsGo (n + 1) m' (Qr.dir (n + 1) sr).1 (out ++ [(Qr.dir (n + 1) sr).2]) = Qr.dirs (n + 1) s) := by
        rw [← HGO.out, Qr.dirsGo, if_pos HB.out.symm]
        exact Lib.hid rfl
      go_wp2_with fail
      refine (rnext_any b g sr w2 HR2.out).mono ?_
      rintro r w3 ⟨rfl, h3, f3⟩
      obtain ⟨pa, hpa⟩ : ∃ x, x = (Rd.peek sr).at_ := ⟨_, rfl⟩
      rw [← hpa]
      have HPA := Lib.hid hpa
      obtain ⟨s3, hs3⟩ : ∃ x, x = Rd.next sr := ⟨_, rfl⟩
      rw [← hs3] at h3
      have HS3 := Lib.hid hs3
      have HF0 : Hid (FI wr b g w3.heap.size [] 84 [.str [], .seq 7 [], .int pa] [.string ⟨#[]⟩, .slice none 0 0, .int .i64 pa] s3 (w3.alloc (.cells #[.string ⟨#[]⟩, .slice none 0 0, .int .i64 pa] 84))) := by
        have hbb : Below w3.heap.size w3 (w3.alloc (.cells #[.string ⟨#[]⟩, .slice none 0 0, .int .i64 pa] 84)) := (Below.refl _ _).alloc (Nat.le_refl _) _
        have h1 := HF2.out.size
        have h2 := f3.size
        exact Lib.hid ⟨⟨h3.below hbb, fun p hp => absurd hp (by simp), heap_at_new _ _, (HF2.out.trans f3).trans (But.of_below hbb), HG.out.rd.lt.1, HG.out.rd.lt.2, fun p hp => absurd hp (by simp), by omega⟩, .cons (.str []) (.cons (.seq (cap := 0) .nil) (.cons (.int _) .nil))⟩
      obtain ⟨t6, ht6⟩ : ∃ x, x = w3.heap.size := ⟨_, rfl⟩
      clear h3 f3 hpa hs3
      go_wp2_with fail
      refine (rname_any b g s3 _ HF0.out.rd).mono ?_
      rintro r w4 ⟨rfl, h4, f4⟩
      have hF1 := HF0.out.step h4 f4
      rw [← ht6] at hF1 ⊢
      clear ht6
      obtain ⟨s4, hs4⟩ : ∃ x, x = (Rd.name s3).1 := ⟨_, rfl⟩
      obtain ⟨nm, hnm⟩ : ∃ x, x = (Rd.name s3).2 := ⟨_, rfl⟩
      rw [← hs4] at hF1
      rw [← hnm]
      have HF1 := Lib.hid hF1
      have HS4 := Lib.hid hs4
      have HNM := Lib.hid hnm
      have HF2' := Lib.hid (hF1.put 0 (.str nm) rfl)
      clear h4 f4 hF1 hs4 hnm
      have y0 := blk_cell HF1.out.bi.b6 0 (.string ⟨#[]⟩) rfl
      have yf0 := blk_free HF1.out.bi.b6 0
      have HOK4 : Hid (Rd.Ok sr s4) := by rw [HS4.out, HS3.out]; exact Lib.hid ((Rd.ok_next sr).trans (Rd.ok_name _))
      have HDP4 : Hid (s4.deep = s.deep) := by rw [HS4.out, Rd.name_deep, HS3.out, Rd.next_deep]; exact HDP
      go_wp2_with fail
      refine (rargs_any b g false n hnb s4 _ HF2'.out.rd (Nat.le_trans HOK4.out.len hrn) (by rw [HDP4.out]; omega)).mono ?_
      rintro r w5 ⟨a5, c5, rfl, hrd, h5, f5⟩
      obtain ⟨q, hq⟩ : ∃ x, x = Rd.args false (n + 1) s4 := ⟨_, rfl⟩
      rw [← hq] at hrd h5 ⊢
      have HQ := Lib.hid hq
      have HDA := Lib.hid (HF2'.out.data hrd)
      have HF3 := Lib.hid (HF2'.out.step h5 f5)
      have HF4 := Lib.hid (HF3.out.put 1 HDA.out rfl)
      clear hrd h5 f5 hq y0 yf0
      obtain ⟨ln, hln⟩ : ∃ x, x = q.2.length := ⟨_, rfl⟩
      rw [List.length_map, ← hln] at HDA HF4 ⊢
      clear hln
      have y0 := blk_cell HF3.out.bi.b6 0 (.string ⟨nm.toArray⟩) rfl
      have y1 := blk_cell HF3.out.bi.b6 1 (.slice none 0 0) rfl
      have yf1 := blk_free HF3.out.bi.b6 1
      have y2 := blk_cell HF3.out.bi.b6 2 (.int .i64 pa) rfl
      have HRW := Lib.hid (show ReadsR (w5.setCell ⟨t6, 1, none⟩ (.slice a5 ln c5)) (fun x => t6 < x) [.str nm, .seq 7 (q.2.map Rd.A.d), .int pa] [.string ⟨nm.toArray⟩, .slice a5 ln c5, .int .i64 pa] from HF4.out.rr)
      have hsz6 := HF4.out.bi.l6
      obtain ⟨W, hW⟩ : ∃ x, x = (w5.setCell ⟨t6, 1, none⟩ (.slice a5 ln c5)).alloc (.cells #[.string ⟨nm.toArray⟩, .slice a5 ln c5, .int .i64 pa] 84) := ⟨_, rfl⟩
      have hWB : Below (w5.setCell ⟨t6, 1, none⟩ (.slice a5 ln c5)).heap.size (w5.setCell ⟨t6, 1, none⟩ (.slice a5 ln c5)) W := by rw [hW]; exact (Below.refl _ _).alloc (Nat.le_refl _) _
      have hfw := HF4.out.below hWB
      have hN6 := HG.out.step hfw.rd hfw.bi.fr
      obtain ⟨⟨xs, hx, hRo⟩, hap⟩ := hN6.row
      rw [List.length_map] at hx
      have HN6 := Lib.hid hN6
      have HX := Lib.hid hx
      have HRO := Lib.hid hRo
      have HDD : Hid (Reads W (fun x => w.heap.size ≤ x ∧ (Value.slice va out.length vc).ownBlock ≠ some x) (Qr.Dir.d ⟨nm, q.2, pa⟩) [.string ⟨nm.toArray⟩, .slice a5 ln c5, .int .i64 pa]) := by
        refine Lib.hid (HG.out.data ((Reads.obj HRW.out).to ?_))
        exact ⟨hWB.size, fun x hx2 hp => ⟨by have h3 : t6 < x := hp; show wr.heap.size ≤ x; omega, hWB.block x hx2⟩⟩
      have HONE := Lib.hid (ReadsR.one HRW.out)
      have HLIT : Hid (∀ j u, ([.string ⟨nm.toArray⟩, .slice a5 ln c5, .int .i64 pa] : List Value)[j]? = some u → W.cell? ((⟨w5.heap.size, 0, none⟩ : Addr).add j) = some u) := by
        have := lit_cells (w := W) (L := w5.heap.size) (fz := (0, 0)) (T := 84) (zs := [.string ⟨nm.toArray⟩, .slice a5 ln c5, .int .i64 pa]) (by rw [hW]; have h9 := heap_at_new (w5.setCell ⟨t6, 1, none⟩ (.slice a5 ln c5)) (.cells #[.string ⟨nm.toArray⟩, .slice a5 ln c5, .int .i64 pa] 84); rw [size_set] at h9; exact h9)
        exact Lib.hid this
      have hbase : w.heap.size ≤ W.heap.size := hN6.fr.size
      clear hWB hfw hN6 hx hRo hap HL
      subst hW
      go_wp2_with (first | (at_builtin; refine wpList_append_own_at _ rfl _ _ 50 rfl w.heap.size 84 i0 _ 3 48 Tryd.underlying50 hi hz0 hz1 hz2 rfl (by decide) (.slice va out.length vc) out.length xs rfl HX.out ⟨w5.heap.size, 0, none⟩ 1 1 [.string ⟨nm.toArray⟩, .slice a5 ln c5, .int .i64 pa] rfl rfl HLIT.out HONE.out (by unfold maxLen; omega) (by omega) hbase ?_; intro v' w8 hrow8 hg8 hnil8 hloc8; clear hnil8; have HROW := Lib.hid hrow8; have HG8 := Lib.hid hg8; have HL8 := Lib.hid hloc8; clear hrow8 hg8 hloc8) | fail)
      go_roundg (m' + 1)
      case measure => omega
      case rel =>
        have hE : Qr.dir (n + 1) sr = (q.1, ⟨nm, q.2, pa⟩) := by unfold Qr.dir; dsimp only; rw [← HS3.out, ← HNM.out, ← HS4.out, ← HQ.out, ← HPA.out]
        have h1 := HNX.out.1
        have h2 := (Qr.ok_dir (n + 1) sr).len
        have h3 := (Qr.dir_deep (n + 1) sr)
        have h4 := HST.out
        have hsn : (Rd.next sr).rest.length < sr.rest.length := h1
        have h5 : (Qr.dir (n + 1) sr).1.rest.length ≤ (Rd.next sr).rest.length := ((Rd.ok_name (Rd.next sr)).trans (Rd.ok_args false (n + 1) _)).len
        rw [hE] at h2 h3 h4 h5
        refine ⟨m', q.1, out ++ [⟨nm, q.2, pa⟩], rfl, by simp only at h5; omega, by rw [List.length_append]; simp only [List.length_singleton] at h5 ⊢; omega, by simp only at h5; omega, by rw [← HDP.out]; exact h3, ?_, h4⟩
        rw [List.map_append]
        exact HN6.out.more (by rw [List.length_map]; exact HX.out) HRO.out HDD.out rfl HG8.out HL8.out (by rw [List.length_map]; exact HROW.out)

set_option maxHeartbeats 1000000 in
set_option maxRecDepth 100000 in
theorem but_any (b g : Nat) (s : Rd.St) (w : World) (h : RdAt w b g s) :
    Calls Tryd.prog 38 #[.pointer (some ⟨b, 0, none⟩)] w fun r w' => r = .returned (.string ⟨(Qr.but s).2.toArray⟩) ∧ RdAt w' b g (Qr.but s).1 ∧ Fr b w w' := by
  have H := Lib.hid h
  have hb3 : Below w.heap.size w (w.alloc (.cells #[.string ⟨#[111, 110]⟩] 9)) := (Below.refl _ _).alloc (Nat.le_refl _) _
  have HB3 := Lib.hid hb3
  clear hb3 h
  go_enter Tryd.func38, Tryd.ntmps38
  go_wp2_with fail
  refine (rword_any b g s _ [Qr.sOn] _ (H.out.below HB3.out) (txts_one w Qr.sOn _ _ rfl) (by simp)).mono ?_
  rintro r w2 ⟨rfl, hb2⟩
  have HB2 := Lib.hid (HB3.out.trans (hb2.mono HB3.out.size))
  have H2 := Lib.hid (H.out.below HB2.out)
  obtain ⟨B, hB⟩ : ∃ B, B = Rd.isW s [Qr.sOn] := ⟨_, rfl⟩
  have HB := Lib.hid hB
  rw [← hB]
  clear hB hb2
  cases B
  · have HE : Hid (Qr.but s = Rd.name s) := by unfold Qr.but; rw [if_neg (by rw [← HB.out]; simp)]; exact Lib.hid rfl
    go_wp2_with fail
    refine (rname_any b g _ w2 H2.out).mono ?_
    rintro r w3 ⟨rfl, h3, f3⟩
    have H3 := Lib.hid h3
    have F3 := Lib.hid f3
    clear h3 f3
    go_wp2_with fail
    go_ret
    rw [HE.out]
    exact ⟨rfl, H3.out, (But.of_below HB2.out).trans F3.out⟩
  · have HE : Hid (Qr.but s = Rd.name (Rd.wrong s)) := by unfold Qr.but; rw [if_pos HB.out.symm]; exact Lib.hid rfl
    go_wp2_with fail
    refine (rwrong_any b g _ w2 H2.out).mono ?_
    rintro r w4 ⟨rfl, h4, f4⟩
    have H4 := Lib.hid h4
    have F4 := Lib.hid f4
    clear h4 f4
    go_wp2_with fail
    refine (rname_any b g _ w4 H4.out).mono ?_
    rintro r w3 ⟨rfl, h3, f3⟩
    have H3 := Lib.hid h3
    have F3 := Lib.hid f3
    clear h3 f3
    go_wp2_with fail
    go_ret
    rw [HE.out]
    exact ⟨rfl, H3.out, ((But.of_below HB2.out).trans F4.out).trans F3.out⟩
end Go.Proofs.YtabcaljnpahgpaaDoor
namespace Go.Proofs.YtabcaljnpahgpaaDoor
set_option linter.unusedSimpArgs false
set_option linter.unusedVariables false
open Go Go.RowKit

set_option maxHeartbeats 2000000 in
set_option maxRecDepth 100000 in
theorem variable_any (b g : Nat) (n : Nat) (hnb : n ≤ 1600) (s : Rd.St) (w : World) (h : RdAt w b g s) (hn : s.err ≠ 0 ∨ s.rest.length ≤ n) (hd : 0 ≤ s.deep ∧ s.deep + n ≤ 900000) :
    Calls Tryd.prog 43 #[.pointer (some ⟨b, 0, none⟩)] w (Got b g w (Qr.variable_ (n + 1) s).2.d (Qr.variable_ (n + 1) s).1) := by
  have hlb := h.lt
  have H := Lib.hid h
  have HN := Lib.hid hn
  obtain ⟨d0, d1⟩ := hd
  have hba : Below w.heap.size w (w.alloc (.cells #[.string ⟨#[]⟩, .string ⟨#[]⟩, .bool false, .int .i64 0, .string ⟨#[]⟩, .slice none 0 0, .slice none 0 0, .int .i64 0, .int .i64 0] 55)) := (Below.refl _ _).alloc (Nat.le_refl _) _
  have HBA := Lib.hid hba
  clear h hn hba
  go_enter Tryd.func43, Tryd.ntmps43
  go_wp2_with fail
  refine (rpeek_any b g s _ (H.out.below HBA.out)).mono ?_
  rintro r w2 ⟨rfl, hb2⟩
  obtain ⟨pa, hpa⟩ : ∃ x, x = (Rd.peek s).at_ := ⟨_, rfl⟩
  rw [← hpa]
  have HPA := Lib.hid hpa
  have hBI : BI w b g w2.heap.size [(w.heap.size, .cells #[.string ⟨#[]⟩, .string ⟨#[]⟩, .bool false, .int .i64 0, .string ⟨#[]⟩, .slice none 0 0, .slice none 0 0, .int .i64 0, .int .i64 0] 55 (0, 0))] 55 #[.string ⟨#[]⟩, .string ⟨#[]⟩, .bool false, .int .i64 0, .string ⟨#[]⟩, .slice none 0 0, .slice none 0 0, .int .i64 0, .int .i64 pa] s (w2.alloc (.cells #[.string ⟨#[]⟩, .string ⟨#[]⟩, .bool false, .int .i64 0, .string ⟨#[]⟩, .slice none 0 0, .slice none 0 0, .int .i64 0, .int .i64 pa] 55)) := by
    have hsz : (w.alloc (.cells #[.string ⟨#[]⟩, .string ⟨#[]⟩, .bool false, .int .i64 0, .string ⟨#[]⟩, .slice none 0 0, .slice none 0 0, .int .i64 0, .int .i64 0] 55)).heap.size = w.heap.size + 1 := by simp
    have hs2 := hb2.size
    have hbb : Below w2.heap.size w2 (w2.alloc (.cells #[.string ⟨#[]⟩, .string ⟨#[]⟩, .bool false, .int .i64 0, .string ⟨#[]⟩, .slice none 0 0, .slice none 0 0, .int .i64 0, .int .i64 pa] 55)) := (Below.refl _ _).alloc (Nat.le_refl _) _
    refine ⟨((H.out.below HBA.out).below hb2).below hbb, fun p hp => ?_, heap_at_new _ _, ((But.of_below HBA.out).trans (But.of_below hb2)).trans (But.of_below hbb), hlb.1, hlb.2, fun p hp => ?_, by omega⟩
    · simp only [List.mem_singleton] at hp
      subst hp
      show (w2.alloc _).heap[w.heap.size]? = _
      rw [hbb.block w.heap.size (by omega), hb2.block w.heap.size (by omega)]
      exact heap_at_new _ _
    · simp only [List.mem_singleton] at hp
      subst hp
      simp only
      omega
  have HBa := Lib.hid hBI
  obtain ⟨t6, ht6⟩ : ∃ x, x = w2.heap.size := ⟨_, rfl⟩
  have HT6 := Lib.hid ht6
  clear hb2 hBI hpa
  go_wp2_with fail
  refine (rwant_any b g s Rd.dollar _ HBa.out.rd).mono ?_
  rintro r w1 ⟨rfl, h1, f1⟩
  have hB1 := HBa.out.step h1 f1
  rw [← ht6] at hB1 ⊢
  clear ht6
  obtain ⟨s1, hs1⟩ : ∃ x, x = Rd.want Rd.dollar s := ⟨_, rfl⟩
  rw [← hs1] at hB1
  have HS1 := Lib.hid hs1
  have HB0 := Lib.hid hB1
  have HOK1 : Hid (Rd.Ok s s1) := by rw [HS1.out]; exact Lib.hid (Rd.ok_want _ s)
  have HDP1 : Hid (s1.deep = s.deep) := by rw [HS1.out]; exact Lib.hid (Rd.want_deep _ s)
  clear h1 f1 hB1 hs1
  go_wp2_with fail
  refine (rname_any b g s1 _ HB0.out.rd).mono ?_
  rintro r w3 ⟨rfl, h3, f3⟩
  have hB3 := HB0.out.step h3 f3
  obtain ⟨s3, hs3⟩ : ∃ x, x = (Rd.name s1).1 := ⟨_, rfl⟩
  obtain ⟨nm, hnm⟩ : ∃ x, x = (Rd.name s1).2 := ⟨_, rfl⟩
  rw [← hs3] at hB3
  rw [← hnm]
  have HS3 := Lib.hid hs3
  have HNM := Lib.hid hnm
  have HB3 := Lib.hid hB3
  have l6 := hB3.lx _ (List.mem_singleton.2 rfl)
  simp only at l6
  have n1 : ¬ t6 = w.heap.size := by omega
  have n2 : ¬ w.heap.size = t6 := by omega
  have HOK3 : Hid (Rd.Ok s s3) := by rw [HS3.out]; exact Lib.hid (HOK1.out.trans (Rd.ok_name s1))
  have HDP3 : Hid (s3.deep = s.deep) := by rw [HS3.out, Rd.name_deep, HDP1.out]; exact Lib.hid rfl
  clear h3 f3 hB3 hs3 hnm
  have y0 := blk_cell HB3.out.b6 0 (.string ⟨#[]⟩) rfl
  have yf0 := blk_free HB3.out.b6 0
  have y1 := blk_cell HB3.out.b6 1 (.string ⟨#[]⟩) rfl
  have yf1 := blk_free HB3.out.b6 1
  have y2 := blk_cell HB3.out.b6 2 (.bool false) rfl
  have yf2 := blk_free HB3.out.b6 2
  have y3 := blk_cell HB3.out.b6 3 (.int .i64 0) rfl
  have yf3 := blk_free HB3.out.b6 3
  have y4 := blk_cell HB3.out.b6 4 (.string ⟨#[]⟩) rfl
  have yf4 := blk_free HB3.out.b6 4
  have y5 := blk_cell HB3.out.b6 5 (.slice none 0 0) rfl
  have yf5 := blk_free HB3.out.b6 5
  have y6 := blk_cell HB3.out.b6 6 (.slice none 0 0) rfl
  have yf6 := blk_free HB3.out.b6 6
  have y7 := blk_cell HB3.out.b6 7 (.int .i64 0) rfl
  have yf7 := blk_free HB3.out.b6 7
  have y8 := blk_cell HB3.out.b6 8 (.int .i64 pa) rfl
  have yf8 := blk_free HB3.out.b6 8
  have HB4 := Lib.hid (HB3.out.put 0 (.string ⟨nm.toArray⟩))
  go_wp2_with fail
  refine (rwant_any b g s3 Rd.colon _ HB4.out.rd).mono ?_
  rintro r w5 ⟨rfl, h5, f5⟩
  have HB5 := Lib.hid (HB4.out.step h5 f5)
  obtain ⟨s5, hs5⟩ : ∃ x, x = Rd.want Rd.colon s3 := ⟨_, rfl⟩
  rw [← hs5] at HB5
  have HS5 := Lib.hid hs5
  have HOK5 : Hid (Rd.Ok s s5) := by rw [HS5.out]; exact Lib.hid (HOK3.out.trans (Rd.ok_want _ s3))
  have HDP5 : Hid (s5.deep = s.deep) := by rw [HS5.out, Rd.want_deep, HDP3.out]; exact Lib.hid rfl
  have HN5 : Hid (s5.err ≠ 0 ∨ s5.rest.length ≤ n) := by
    refine Lib.hid ?_
    rcases HN.out with h | h
    · left; rw [HOK5.out.err h]; exact h
    · right; exact Nat.le_trans HOK5.out.len h
  clear h5 f5 hs5
  clear y0 yf0 y1 yf1 y2 yf2 y3 yf3 y4 yf4 y5 yf5 y6 yf6 y7 yf7 y8 yf8
  go_wp2_with fail
  refine (rtype_any b g n s5 w5 HB5.out.rd HN5.out hnb (by rw [HDP5.out]; omega)).mono ?_
  rintro r w6 ⟨rfl, h6, f6⟩
  obtain ⟨s6, hs6⟩ : ∃ x, x = (Rd.type (n + 1) s5).1 := ⟨_, rfl⟩
  obtain ⟨ty, hty⟩ : ∃ x, x = (Rd.type (n + 1) s5).2 := ⟨_, rfl⟩
  have hB6 := HB5.out.step h6 f6
  rw [← hs6] at hB6
  rw [← hty]
  have HS6 := Lib.hid hs6
  have HTY := Lib.hid hty
  have HB6 := Lib.hid hB6
  have HOK6 : Hid (Rd.Ok s s6) := by rw [HS6.out]; exact Lib.hid (HOK5.out.trans (Rd.ok_type _ s5))
  have HDP6 : Hid (s6.deep = s.deep) := by rw [HS6.out, Rd.type_deep, HDP5.out]; exact Lib.hid rfl
  clear h6 f6 hB6 hs6 hty
  have y0 := blk_cell HB6.out.b6 0 (.string ⟨nm.toArray⟩) rfl
  have yf0 := blk_free HB6.out.b6 0
  have y1 := blk_cell HB6.out.b6 1 (.string ⟨#[]⟩) rfl
  have yf1 := blk_free HB6.out.b6 1
  have y2 := blk_cell HB6.out.b6 2 (.bool false) rfl
  have yf2 := blk_free HB6.out.b6 2
  have y3 := blk_cell HB6.out.b6 3 (.int .i64 0) rfl
  have yf3 := blk_free HB6.out.b6 3
  have y4 := blk_cell HB6.out.b6 4 (.string ⟨#[]⟩) rfl
  have yf4 := blk_free HB6.out.b6 4
  have y5 := blk_cell HB6.out.b6 5 (.slice none 0 0) rfl
  have yf5 := blk_free HB6.out.b6 5
  have y6 := blk_cell HB6.out.b6 6 (.slice none 0 0) rfl
  have yf6 := blk_free HB6.out.b6 6
  have y7 := blk_cell HB6.out.b6 7 (.int .i64 0) rfl
  have yf7 := blk_free HB6.out.b6 7
  have y8 := blk_cell HB6.out.b6 8 (.int .i64 pa) rfl
  have yf8 := blk_free HB6.out.b6 8
  have HB7 := Lib.hid (HB6.out.put 1 (.string ⟨ty.toArray⟩))
  go_wp2_with fail
  refine (rtake_any b g s6 Qr.sEq _ HB7.out.rd).mono ?_
  rintro r w8 ⟨rfl, h8, f8⟩
  have HB8 := Lib.hid (HB7.out.step h8 f8)
  obtain ⟨B, hB⟩ : ∃ B, B = Rd.isS s6 Qr.sEq := ⟨_, rfl⟩
  have HB := Lib.hid hB
  rw [← hB]
  have HB9 := Lib.hid (HB8.out.put 2 (.bool B))
  clear h8 f8 hB
  clear y0 yf0 y1 yf1 y2 yf2 y3 yf3 y4 yf4 y5 yf5 y6 yf6 y7 yf7 y8 yf8
  have y0 := blk_cell HB8.out.b6 0 (.string ⟨nm.toArray⟩) rfl
  have yf0 := blk_free HB8.out.b6 0
  have y1 := blk_cell HB8.out.b6 1 (.string ⟨ty.toArray⟩) rfl
  have yf1 := blk_free HB8.out.b6 1
  have y2 := blk_cell HB8.out.b6 2 (.bool false) rfl
  have yf2 := blk_free HB8.out.b6 2
  have y3 := blk_cell HB8.out.b6 3 (.int .i64 0) rfl
  have yf3 := blk_free HB8.out.b6 3
  have y4 := blk_cell HB8.out.b6 4 (.string ⟨#[]⟩) rfl
  have yf4 := blk_free HB8.out.b6 4
  have y5 := blk_cell HB8.out.b6 5 (.slice none 0 0) rfl
  have yf5 := blk_free HB8.out.b6 5
  have y6 := blk_cell HB8.out.b6 6 (.slice none 0 0) rfl
  have yf6 := blk_free HB8.out.b6 6
  have y7 := blk_cell HB8.out.b6 7 (.int .i64 0) rfl
  have yf7 := blk_free HB8.out.b6 7
  have y8 := blk_cell HB8.out.b6 8 (.int .i64 pa) rfl
  have yf8 := blk_free HB8.out.b6 8
  have z0 := blk_cell (HB8.out.cb (w.heap.size, .cells #[.string ⟨#[]⟩, .string ⟨#[]⟩, .bool false, .int .i64 0, .string ⟨#[]⟩, .slice none 0 0, .slice none 0 0, .int .i64 0, .int .i64 0] 55 (0, 0)) (by simp)) 0 (.string ⟨#[]⟩) rfl
  have zf0 := blk_free (HB8.out.cb (w.heap.size, .cells #[.string ⟨#[]⟩, .string ⟨#[]⟩, .bool false, .int .i64 0, .string ⟨#[]⟩, .slice none 0 0, .slice none 0 0, .int .i64 0, .int .i64 0] 55 (0, 0)) (by simp)) 0
  have z1 := blk_cell (HB8.out.cb (w.heap.size, .cells #[.string ⟨#[]⟩, .string ⟨#[]⟩, .bool false, .int .i64 0, .string ⟨#[]⟩, .slice none 0 0, .slice none 0 0, .int .i64 0, .int .i64 0] 55 (0, 0)) (by simp)) 1 (.string ⟨#[]⟩) rfl
  have zf1 := blk_free (HB8.out.cb (w.heap.size, .cells #[.string ⟨#[]⟩, .string ⟨#[]⟩, .bool false, .int .i64 0, .string ⟨#[]⟩, .slice none 0 0, .slice none 0 0, .int .i64 0, .int .i64 0] 55 (0, 0)) (by simp)) 1
  have z2 := blk_cell (HB8.out.cb (w.heap.size, .cells #[.string ⟨#[]⟩, .string ⟨#[]⟩, .bool false, .int .i64 0, .string ⟨#[]⟩, .slice none 0 0, .slice none 0 0, .int .i64 0, .int .i64 0] 55 (0, 0)) (by simp)) 2 (.bool false) rfl
  have zf2 := blk_free (HB8.out.cb (w.heap.size, .cells #[.string ⟨#[]⟩, .string ⟨#[]⟩, .bool false, .int .i64 0, .string ⟨#[]⟩, .slice none 0 0, .slice none 0 0, .int .i64 0, .int .i64 0] 55 (0, 0)) (by simp)) 2
  have z3 := blk_cell (HB8.out.cb (w.heap.size, .cells #[.string ⟨#[]⟩, .string ⟨#[]⟩, .bool false, .int .i64 0, .string ⟨#[]⟩, .slice none 0 0, .slice none 0 0, .int .i64 0, .int .i64 0] 55 (0, 0)) (by simp)) 3 (.int .i64 0) rfl
  have zf3 := blk_free (HB8.out.cb (w.heap.size, .cells #[.string ⟨#[]⟩, .string ⟨#[]⟩, .bool false, .int .i64 0, .string ⟨#[]⟩, .slice none 0 0, .slice none 0 0, .int .i64 0, .int .i64 0] 55 (0, 0)) (by simp)) 3
  have z4 := blk_cell (HB8.out.cb (w.heap.size, .cells #[.string ⟨#[]⟩, .string ⟨#[]⟩, .bool false, .int .i64 0, .string ⟨#[]⟩, .slice none 0 0, .slice none 0 0, .int .i64 0, .int .i64 0] 55 (0, 0)) (by simp)) 4 (.string ⟨#[]⟩) rfl
  have zf4 := blk_free (HB8.out.cb (w.heap.size, .cells #[.string ⟨#[]⟩, .string ⟨#[]⟩, .bool false, .int .i64 0, .string ⟨#[]⟩, .slice none 0 0, .slice none 0 0, .int .i64 0, .int .i64 0] 55 (0, 0)) (by simp)) 4
  have z5 := blk_cell (HB8.out.cb (w.heap.size, .cells #[.string ⟨#[]⟩, .string ⟨#[]⟩, .bool false, .int .i64 0, .string ⟨#[]⟩, .slice none 0 0, .slice none 0 0, .int .i64 0, .int .i64 0] 55 (0, 0)) (by simp)) 5 (.slice none 0 0) rfl
  have zf5 := blk_free (HB8.out.cb (w.heap.size, .cells #[.string ⟨#[]⟩, .string ⟨#[]⟩, .bool false, .int .i64 0, .string ⟨#[]⟩, .slice none 0 0, .slice none 0 0, .int .i64 0, .int .i64 0] 55 (0, 0)) (by simp)) 5
  have z6 := blk_cell (HB8.out.cb (w.heap.size, .cells #[.string ⟨#[]⟩, .string ⟨#[]⟩, .bool false, .int .i64 0, .string ⟨#[]⟩, .slice none 0 0, .slice none 0 0, .int .i64 0, .int .i64 0] 55 (0, 0)) (by simp)) 6 (.slice none 0 0) rfl
  have zf6 := blk_free (HB8.out.cb (w.heap.size, .cells #[.string ⟨#[]⟩, .string ⟨#[]⟩, .bool false, .int .i64 0, .string ⟨#[]⟩, .slice none 0 0, .slice none 0 0, .int .i64 0, .int .i64 0] 55 (0, 0)) (by simp)) 6
  have z7 := blk_cell (HB8.out.cb (w.heap.size, .cells #[.string ⟨#[]⟩, .string ⟨#[]⟩, .bool false, .int .i64 0, .string ⟨#[]⟩, .slice none 0 0, .slice none 0 0, .int .i64 0, .int .i64 0] 55 (0, 0)) (by simp)) 7 (.int .i64 0) rfl
  have zf7 := blk_free (HB8.out.cb (w.heap.size, .cells #[.string ⟨#[]⟩, .string ⟨#[]⟩, .bool false, .int .i64 0, .string ⟨#[]⟩, .slice none 0 0, .slice none 0 0, .int .i64 0, .int .i64 0] 55 (0, 0)) (by simp)) 7
  have z8 := blk_cell (HB8.out.cb (w.heap.size, .cells #[.string ⟨#[]⟩, .string ⟨#[]⟩, .bool false, .int .i64 0, .string ⟨#[]⟩, .slice none 0 0, .slice none 0 0, .int .i64 0, .int .i64 0] 55 (0, 0)) (by simp)) 8 (.int .i64 0) rfl
  have zf8 := blk_free (HB8.out.cb (w.heap.size, .cells #[.string ⟨#[]⟩, .string ⟨#[]⟩, .bool false, .int .i64 0, .string ⟨#[]⟩, .slice none 0 0, .slice none 0 0, .int .i64 0, .int .i64 0] 55 (0, 0)) (by simp)) 8
  cases B
  · have HT : Hid (Rd.take Qr.sEq s6 = s6) := by unfold Rd.take; rw [if_neg (by rw [← HB.out]; simp)]; exact Lib.hid rfl
    have HE : Hid (Qr.variable_ (n + 1) s = (s6, ⟨nm, ty, false, Rd.V.none, pa⟩)) := by
      have hdf : Qr.dflt (n + 1) s6 = (s6, Rd.V.none) := by unfold Qr.dflt; rw [if_neg (by rw [← HB.out]; simp)]
      refine Lib.hid ?_
      unfold Qr.variable_
      dsimp only
      rw [← HS1.out, ← HS3.out, ← HNM.out, ← HS5.out, ← HS6.out, ← HTY.out, ← HPA.out, ← HB.out, hdf]
    have HBz : Hid (BI w b g t6 [(w.heap.size, .cells #[.string ⟨#[]⟩, .string ⟨#[]⟩, .bool false, .int .i64 0, .string ⟨#[]⟩, .slice none 0 0, .slice none 0 0, .int .i64 0, .int .i64 0] 55 (0, 0))] 55 [.string ⟨nm.toArray⟩, .string ⟨ty.toArray⟩, .bool false, .int .i64 0, .string ⟨#[]⟩, .slice none 0 0, .slice none 0 0, .int .i64 0, .int .i64 pa].toArray s6 (w8.setCell ⟨t6, 2, none⟩ (.bool false))) := by
      have := HB9.out
      rw [HT.out] at this
      exact Lib.hid this
    have HRS : Hid (Reads (w8.setCell ⟨t6, 2, none⟩ (.bool false)) (fun _ => False) (Qr.Vd.d ⟨nm, ty, false, Rd.V.none, pa⟩) [.string ⟨nm.toArray⟩, .string ⟨ty.toArray⟩, .bool false, .int .i64 0, .string ⟨#[]⟩, .slice none 0 0, .slice none 0 0, .int .i64 0, .int .i64 pa]) := by
      unfold Qr.Vd.d
      exact Lib.hid (.obj (.cons (.str _) (.cons (.str _) (.cons (.bool _) (.cons (leaf_reads _ 0 0 []) (.cons (.int _) .nil))))))
    have hfin := HBz.out.fin (r := w.heap.size) (List.mem_singleton.2 rfl) HRS.out (fun x hx => hx.elim)
    simp only [putCells, Nat.reduceAdd, Nat.zero_add] at hfin
    have HFN := Lib.hid hfin
    clear hfin
    go_wp2_with fail
    refine bodyPost_ret (v := .agg #[.string ⟨nm.toArray⟩, .string ⟨ty.toArray⟩, .bool false, .int .i64 0, .string ⟨#[]⟩, .slice none 0 0, .slice none 0 0, .int .i64 0, .int .i64 pa]) (by simp [results, Tryd.results43, go_sem, z0, z1, z2, z3, z4, z5, z6, z7, z8, n1, n2]) rfl ?_
    rw [HE.out]
    exact ⟨_, rfl, HFN.out⟩
  · have HT : Hid (Rd.take Qr.sEq s6 = Rd.next s6) := by unfold Rd.take; rw [if_pos HB.out.symm]; exact Lib.hid rfl
    have HNX := Lib.hid (Rd.next_sign HB.out.symm)
    have HRN : Hid ((Rd.next s6).rest.length ≤ n) := by
      refine Lib.hid ?_
      have h6 := HOK6.out.len
      have h7 := HNX.out.1
      rcases HN.out with h | h
      · have := HOK6.out.err h
        have hz := HB.out
        rw [Rd.isS_err (by rw [this]; exact h)] at hz
        cases hz
      · omega
    have HB9' : Hid (BI w b g t6 [(w.heap.size, .cells #[.string ⟨#[]⟩, .string ⟨#[]⟩, .bool false, .int .i64 0, .string ⟨#[]⟩, .slice none 0 0, .slice none 0 0, .int .i64 0, .int .i64 0] 55 (0, 0))] 55 #[.string ⟨nm.toArray⟩, .string ⟨ty.toArray⟩, .bool true, .int .i64 0, .string ⟨#[]⟩, .slice none 0 0, .slice none 0 0, .int .i64 0, .int .i64 pa] (Rd.next s6) (w8.setCell ⟨t6, 2, none⟩ (.bool true))) := by
      have := HB9.out
      rw [HT.out] at this
      exact Lib.hid this
    have HND := Lib.hid (Rd.next_deep s6)
    go_wp2_with fail
    refine (rvalue_any b g true n hnb (Rd.next s6) _ HB9'.out.rd HRN.out (by rw [HND.out, HDP6.out]; omega)).mono ?_
    rintro r w10 ⟨cs, rfl, hrd, hr10, hf10⟩
    obtain ⟨k, a, t, a1, a2, n1', c1, n2', c2, rfl⟩ := V_cells hrd
    obtain ⟨s10, hs10⟩ : ∃ x, x = (Rd.value true (n + 1) (Rd.next s6)).1 := ⟨_, rfl⟩
    obtain ⟨v10, hv10⟩ : ∃ x, x = (Rd.value true (n + 1) (Rd.next s6)).2 := ⟨_, rfl⟩
    rw [← hs10] at hr10
    rw [← hv10] at hrd
    have HS10 := Lib.hid hs10
    have HV10 := Lib.hid hv10
    have HB10 := Lib.hid (HB9'.out.step hr10 hf10)
    have hlt := block_lt HB9'.out.b6
    have HRD := Lib.hid (hrd.to (w' := putCells w10 t6 3 [.int .i64 k, .string t, .slice a1 n1' c1, .slice a2 n2' c2, .int .i64 a]) (Q := fun x => t6 < x) ⟨by rw [putCells_size]; exact Nat.le_refl _, fun x hx hp => ⟨Nat.lt_of_lt_of_le hlt hp, putCells_ne _ _ (by have : (w8.setCell ⟨t6, 2, none⟩ (.bool true)).heap.size ≤ x := hp; omega) _ _ _⟩⟩)
    have HE : Hid (Qr.variable_ (n + 1) s = (s10, ⟨nm, ty, true, v10, pa⟩)) := by
      have hdf : Qr.dflt (n + 1) s6 = (s10, v10) := by unfold Qr.dflt; rw [if_pos HB.out.symm, HS10.out, HV10.out]
      refine Lib.hid ?_
      unfold Qr.variable_
      dsimp only
      rw [← HS1.out, ← HS3.out, ← HNM.out, ← HS5.out, ← HS6.out, ← HTY.out, ← HPA.out, ← HB.out, hdf]
    have HRS : Hid (Reads (putCells w10 t6 3 [.int .i64 k, .string t, .slice a1 n1' c1, .slice a2 n2' c2, .int .i64 a]) (fun x => t6 < x) (Qr.Vd.d ⟨nm, ty, true, v10, pa⟩) [.string ⟨nm.toArray⟩, .string ⟨ty.toArray⟩, .bool true, .int .i64 k, .string t, .slice a1 n1' c1, .slice a2 n2' c2, .int .i64 a, .int .i64 pa]) := by
      unfold Qr.Vd.d
      exact Lib.hid (.obj (.cons (.str _) (.cons (.str _) (.cons (.bool _) (.cons HRD.out (.cons (.int _) .nil))))))
    have HBz : Hid (BI w b g t6 [(w.heap.size, .cells #[.string ⟨#[]⟩, .string ⟨#[]⟩, .bool false, .int .i64 0, .string ⟨#[]⟩, .slice none 0 0, .slice none 0 0, .int .i64 0, .int .i64 0] 55 (0, 0))] 55 [.string ⟨nm.toArray⟩, .string ⟨ty.toArray⟩, .bool true, .int .i64 k, .string t, .slice a1 n1' c1, .slice a2 n2' c2, .int .i64 a, .int .i64 pa].toArray s10 (putCells w10 t6 3 [.int .i64 k, .string t, .slice a1 n1' c1, .slice a2 n2' c2, .int .i64 a])) :=
      Lib.hid (((((HB10.out.put 3 (.int .i64 k)).put 4 (.string t)).put 5 (.slice a1 n1' c1)).put 6 (.slice a2 n2' c2)).put 7 (.int .i64 a))
    have hfin := HBz.out.fin (r := w.heap.size) (List.mem_singleton.2 rfl) HRS.out (fun x hx => hx)
    simp only [putCells, Nat.reduceAdd, Nat.zero_add] at hfin
    have HFN := Lib.hid hfin
    clear y0 yf0 z0 zf0 y1 yf1 z1 zf1 y2 yf2 z2 zf2 y3 yf3 z3 zf3 y4 yf4 z4 zf4 y5 yf5 z5 zf5 y6 yf6 z6 zf6 y7 yf7 z7 zf7 y8 yf8 z8 zf8
    clear hfin hrd hr10 hf10 hs10 hv10
    have y0 := blk_cell HB10.out.b6 0 (.string ⟨nm.toArray⟩) rfl
    have yf0 := blk_free HB10.out.b6 0
    have y1 := blk_cell HB10.out.b6 1 (.string ⟨ty.toArray⟩) rfl
    have yf1 := blk_free HB10.out.b6 1
    have y2 := blk_cell HB10.out.b6 2 (.bool true) rfl
    have yf2 := blk_free HB10.out.b6 2
    have y3 := blk_cell HB10.out.b6 3 (.int .i64 0) rfl
    have yf3 := blk_free HB10.out.b6 3
    have y4 := blk_cell HB10.out.b6 4 (.string ⟨#[]⟩) rfl
    have yf4 := blk_free HB10.out.b6 4
    have y5 := blk_cell HB10.out.b6 5 (.slice none 0 0) rfl
    have yf5 := blk_free HB10.out.b6 5
    have y6 := blk_cell HB10.out.b6 6 (.slice none 0 0) rfl
    have yf6 := blk_free HB10.out.b6 6
    have y7 := blk_cell HB10.out.b6 7 (.int .i64 0) rfl
    have yf7 := blk_free HB10.out.b6 7
    have y8 := blk_cell HB10.out.b6 8 (.int .i64 pa) rfl
    have yf8 := blk_free HB10.out.b6 8
    have z0 := blk_cell (HB10.out.cb _ (List.mem_singleton.2 rfl)) 0 (.string ⟨#[]⟩) rfl
    have zf0 := blk_free (HB10.out.cb _ (List.mem_singleton.2 rfl)) 0
    have z1 := blk_cell (HB10.out.cb _ (List.mem_singleton.2 rfl)) 1 (.string ⟨#[]⟩) rfl
    have zf1 := blk_free (HB10.out.cb _ (List.mem_singleton.2 rfl)) 1
    have z2 := blk_cell (HB10.out.cb _ (List.mem_singleton.2 rfl)) 2 (.bool false) rfl
    have zf2 := blk_free (HB10.out.cb _ (List.mem_singleton.2 rfl)) 2
    have z3 := blk_cell (HB10.out.cb _ (List.mem_singleton.2 rfl)) 3 (.int .i64 0) rfl
    have zf3 := blk_free (HB10.out.cb _ (List.mem_singleton.2 rfl)) 3
    have z4 := blk_cell (HB10.out.cb _ (List.mem_singleton.2 rfl)) 4 (.string ⟨#[]⟩) rfl
    have zf4 := blk_free (HB10.out.cb _ (List.mem_singleton.2 rfl)) 4
    have z5 := blk_cell (HB10.out.cb _ (List.mem_singleton.2 rfl)) 5 (.slice none 0 0) rfl
    have zf5 := blk_free (HB10.out.cb _ (List.mem_singleton.2 rfl)) 5
    have z6 := blk_cell (HB10.out.cb _ (List.mem_singleton.2 rfl)) 6 (.slice none 0 0) rfl
    have zf6 := blk_free (HB10.out.cb _ (List.mem_singleton.2 rfl)) 6
    have z7 := blk_cell (HB10.out.cb _ (List.mem_singleton.2 rfl)) 7 (.int .i64 0) rfl
    have zf7 := blk_free (HB10.out.cb _ (List.mem_singleton.2 rfl)) 7
    have z8 := blk_cell (HB10.out.cb _ (List.mem_singleton.2 rfl)) 8 (.int .i64 0) rfl
    have zf8 := blk_free (HB10.out.cb _ (List.mem_singleton.2 rfl)) 8
    go_wp2_with fail
    refine bodyPost_ret (v := .agg #[.string ⟨nm.toArray⟩, .string ⟨ty.toArray⟩, .bool true, .int .i64 k, .string t, .slice a1 n1' c1, .slice a2 n2' c2, .int .i64 a, .int .i64 pa]) (by simp [results, Tryd.results43, go_sem, z0, z1, z2, z3, z4, z5, z6, z7, z8, n1, n2]) rfl ?_
    rw [HE.out]
    exact ⟨_, rfl, HFN.out⟩
end Go.Proofs.YtabcaljnpahgpaaDoor
namespace Go.Proofs.YtabcaljnpahgpaaDoor
set_option linter.unusedSimpArgs false
set_option linter.unusedVariables false
open Go Go.RowKit

theorem infoSel : (Tryd.prog.info? 74).map (fun i => (i.zero, i.size, i.bytes)) = some (some (.agg #[.int .i64 0, .string ⟨#[]⟩, .string ⟨#[]⟩, .slice none 0 0, .slice none 0 0, .slice none 0 0, .int .i64 0]), 7, 120) := by kernel_rfl
theorem infoVd : (Tryd.prog.info? 55).map (fun i => (i.zero, i.size, i.bytes)) = some (some (.agg #[.string ⟨#[]⟩, .string ⟨#[]⟩, .bool false, .int .i64 0, .string ⟨#[]⟩, .slice none 0 0, .slice none 0 0, .int .i64 0, .int .i64 0]), 9, 128) := by kernel_rfl
def mkOpV (kd : Nat) (nm : ByteArray) (a : Nat) (v : Value) : Array Value := #[.int .i64 kd, .string nm, v, .slice none 0 0, .slice none 0 0, .int .i64 a]
theorem Sel_open {w : World} {P : Nat → Prop} {x : Qr.Sel} {cs : List Value} (h : Reads w P x.d cs) : ∃ (a1 a2 a3 : Option Addr) (c1 c2 c3 : Nat),
    cs = [.int .i64 x.kind, .string ⟨x.alias.toArray⟩, .string ⟨x.name.toArray⟩, .slice a1 x.args.length c1, .slice a2 x.dirs.length c2, .slice a3 x.sels.length c3, .int .i64 x.at_] ∧
    Reads w P (.seq 7 (x.args.map Rd.A.d)) [.slice a1 x.args.length c1] ∧ Reads w P (.seq 3 (x.dirs.map Qr.Dir.d)) [.slice a2 x.dirs.length c2] ∧ Reads w P (.seq 7 (x.sels.map Qr.Sel.d)) [.slice a3 x.sels.length c3] := by
  cases x with
  | mk k al nm ar ds ss a =>
    unfold Qr.Sel.d at h
    rw [Qr.Sel.dl_map] at h
    obtain ⟨x1, r1, rfl, e1, h1⟩ := h.obj_inv.cons_inv
    obtain ⟨x2, r2, rfl, e2, h2⟩ := h1.cons_inv
    obtain ⟨x3, r3, rfl, e3, h3⟩ := h2.cons_inv
    obtain ⟨x4, r4, rfl, e4, h4⟩ := h3.cons_inv
    obtain ⟨x5, r5, rfl, e5, h5⟩ := h4.cons_inv
    obtain ⟨x6, r6, rfl, e6, h6⟩ := h5.cons_inv
    obtain ⟨x7, r7, rfl, e7, h7⟩ := h6.cons_inv
    obtain rfl := e1.int_inv
    obtain rfl := e2.str_inv
    obtain rfl := e3.str_inv
    obtain ⟨b4, d4, rfl, _⟩ := e4.seq_inv
    obtain ⟨b5, d5, rfl, _⟩ := e5.seq_inv
    obtain ⟨b6, d6, rfl, _⟩ := e6.seq_inv
    obtain rfl := e7.int_inv
    obtain rfl := h7.nil_inv
    simp only [List.length_map] at e4 e5 e6 ⊢
    exact ⟨b4, b5, b6, d4, d5, d6, rfl, e4, e5, e6⟩
theorem Sel_cells {w : World} {P : Nat → Prop} {x : Qr.Sel} {cs : List Value} (h : Reads w P x.d cs) : ∃ (k a : Int) (al nm : ByteArray) (a1 a2 a3 : Option Addr) (n1 c1 n2 c2 n3 c3 : Nat), cs = [.int .i64 k, .string al, .string nm, .slice a1 n1 c1, .slice a2 n2 c2, .slice a3 n3 c3, .int .i64 a] := by
  obtain ⟨a1, a2, a3, c1, c2, c3, rfl, _⟩ := Sel_open h
  exact ⟨_, _, _, _, _, _, _, _, _, _, _, _, _, rfl⟩
theorem Vd_cells {w : World} {P : Nat → Prop} {x : Qr.Vd} {cs : List Value} (h : Reads w P x.d cs) : ∃ (nm ty t : ByteArray) (hb : Bool) (k a b' : Int) (a1 a2 : Option Addr) (n1 c1 n2 c2 : Nat), cs = [.string nm, .string ty, .bool hb, .int .i64 k, .string t, .slice a1 n1 c1, .slice a2 n2 c2, .int .i64 a, .int .i64 b'] :=
  In_cells (x := ⟨x.name, x.type, x.has, x.dflt, x.at_⟩) h
set_option maxHeartbeats 1000000 in
set_option maxRecDepth 100000 in
theorem selsC_any (w0 : World) (b g t6 : Nat) (bx : List Box) (t2 n kk : Nat) (hbx0 : (t2, Obj.cells #[(.pointer (some ⟨b, 0, none⟩))] 75 (0, 0)) ∈ bx) (s : Rd.St) (ds : List D) (w : World)
    (hval : ∀ w, RdAt w b g s → Calls Tryd.prog 54 #[(.pointer (some ⟨b, 0, none⟩))] w (Got b g w (Qr.sel n kk s).2.d (Qr.sel n kk s).1))
    (h : LI w0 b g t6 bx 51 mkOne 74 7 s ds w) (hl : ds.length ≤ 1000000) :
    Calls Tryd.prog 53 #[.pointer (some ⟨t6, 0, none⟩), .pointer (some ⟨t2, 0, none⟩)] w fun r w' => r = .returned (.tuple #[]) ∧ LI w0 b g t6 bx 51 mkOne 74 7 (Qr.sel n kk s).1 (ds ++ [(Qr.sel n kk s).2.d]) w' := by
  obtain ⟨i0, hi, hz0, hz1, hz2⟩ := info_parts infoSel
  obtain ⟨v, h6, hG⟩ := h.ex
  obtain ⟨va, vc, hv⟩ := hG.form
  subst hv
  obtain ⟨⟨xs, hx, hro⟩, hap⟩ := hG
  have hvl : ∀ x, (Value.slice va ds.length vc).ownBlock = some x → LB t6 bx ≤ x ∧ x < w.heap.size := hx.lt
  have hlb6 := LB_t6 t6 bx
  have hlt6 := block_lt h6
  have lb := h.lb
  have l6 := h.l6
  have hi0 : (0 : Int) ≤ (ds.length : Int) := Int.natCast_nonneg _
  have hi1 : (ds.length : Int) < (ds.length : Int) + 1 := by omega
  obtain ⟨s', hs'⟩ : ∃ x, x = (Qr.sel n kk s).1 := ⟨_, rfl⟩
  obtain ⟨d, hd'⟩ : ∃ x, x = (Qr.sel n kk s).2.d := ⟨_, rfl⟩
  obtain ⟨zs, hzs⟩ : ∃ x, x = [Value.int .i64 0, .string ⟨#[]⟩, .string ⟨#[]⟩, .slice none 0 0, .slice none 0 0, .slice none 0 0, .int .i64 0] := ⟨_, rfl⟩
  have HVC : Hid (∀ (w : World) (P : Nat → Prop) (cs : List Value), Reads w P d cs → ∃ (k' a' : Int) (al nm : ByteArray) (a1 a2 a3 : Option Addr) (n1 c1 n2 c2 n3 c3 : Nat), cs = [.int .i64 k', .string al, .string nm, .slice a1 n1 c1, .slice a2 n2 c2, .slice a3 n3 c3, .int .i64 a']) :=
    Lib.hid fun w P cs hh => Sel_cells (by rw [← hd']; exact hh)
  rw [← hs', ← hd'] at hval ⊢
  have H := Lib.hid h
  have HRS := Lib.hid hro
  have H6 := Lib.hid h6
  have HVL := Lib.hid hvl
  have HVAL := Lib.hid hval
  have HZS := Lib.hid hzs
  have HZL : Hid (zs.length = 1 * 7) := by rw [hzs]; exact Lib.hid rfl
  have HST : Hid (∀ w', Fr b w w' → Stands w (fun x => t6 < x ∧ (Value.slice va ds.length vc).ownBlock ≠ some x) w' (fun x => t6 < x ∧ (Value.slice va ds.length vc).ownBlock ≠ some x)) :=
    Lib.hid fun w' hf => ⟨hf.size, fun x hx2 hp => ⟨hp, hf.block x hx2 (by omega)⟩⟩
  have HROWS : Hid (∀ w', Fr b w w' → w'.ownsRow (LB t6 bx) 74 7 (.slice va ds.length vc) ds.length xs) := Lib.hid fun w' hf => row_to hx (fun x hx2 => hf.block x (hvl x hx2).2 (by have := (hvl x hx2).1; omega))
  have hS : w.cell? ⟨t6, 0, none⟩ = some (.slice va ds.length vc) ∧ w.cell? ⟨t2, 0, none⟩ = some (.pointer (some ⟨b, 0, none⟩)) :=
    ⟨by simp [World.cell?, h6, mkOne], h.cellx hbx0⟩
  have HSS := Lib.hid hS
  have HSF : Hid (∀ w', Fr b w w' → w'.cell? ⟨t6, 0, none⟩ = some (.slice va ds.length vc) ∧ w'.cell? ⟨t2, 0, none⟩ = some (.pointer (some ⟨b, 0, none⟩))) := by
    refine Lib.hid fun w' hf => ⟨?_, h.cellf hf hbx0⟩
    rw [hf.cell (p := ⟨t6, 0, none⟩) hlt6 (by show ¬ t6 = b; omega)]
    exact HSS.out.1
  clear h hx hro h6 hvl hval hs' hd' hzs hap
  go_enter Tryd.func53, Tryd.ntmps53
  go_wp2_with fail
  refine wp_region_phase (fun w' => w'.cell? ⟨t6, 0, none⟩ = some (.slice va ds.length vc) ∧ w'.cell? ⟨t2, 0, none⟩ = some (.pointer (some ⟨b, 0, none⟩))) 5 (by kernel_rfl) ?_
  refine wpAnyB_take (i := 0) (v := (.slice va ds.length vc)) (by kernel_rfl) (by decide) rfl (by kernel_rfl) (by kernel_rfl) (by kernel_rfl) (fun _ _ _ h => h) (Or.inl ⟨by rfl, fun w hSw => by obtain ⟨s0, s1⟩ := hSw; go_simp⟩) hS ?_; simp only [Act.put, List.setIfInBounds_toArray, List.set_cons_zero, List.set_cons_succ]
  refine wpAnyB_take (i := 1) (v := (.pointer (some ⟨b, 0, none⟩))) (by kernel_rfl) (by decide) rfl (by kernel_rfl) (by kernel_rfl) (by kernel_rfl) (fun _ _ _ h => h) (Or.inl ⟨by rfl, fun w hSw => by obtain ⟨s0, s1⟩ := hSw; go_simp⟩) hS ?_; simp only [Act.put, List.setIfInBounds_toArray, List.set_cons_zero, List.set_cons_succ]
  refine wpAnyB_take (i := 3) (v := (.int .i64 ds.length)) (by kernel_rfl) (by decide) rfl (by kernel_rfl) (by kernel_rfl) (by kernel_rfl) (fun _ _ _ h => h) (Or.inl ⟨by rfl, fun w hSw => by obtain ⟨s0, s1⟩ := hSw; go_simp⟩) hS ?_; simp only [Act.put, List.setIfInBounds_toArray, List.set_cons_zero, List.set_cons_succ]
  clear hS
  refine wpAnyB_two (i := 2) (k := 4) (by kernel_rfl) ?_ ?_
  · refine wpOp_intro (by decide) (fun K4 HK4 => ?_); simp only [List.drop_succ_cons, List.drop_zero, List.take_succ_cons, List.take_zero]
    go_wp2_with fail
    refine (HVAL.out w.drew (H.out.rd.to (Nat.le_refl _) rfl rfl)).mono ?_
    rintro r w2 ⟨cs, rfl, hrd, hr2, hf2⟩
    have hf : Fr b w w2 := ⟨hf2.os, hf2.tape, hf2.output, hf2.size, hf2.block⟩
    obtain ⟨k', a', al, nm, a1, a2, a3, n1, c1, n2, c2, n3, c3, rfl⟩ := HVC.out _ _ _ hrd
    have HRD := Lib.hid hrd
    have HF := Lib.hid hf
    have HR2 := Lib.hid hr2
    clear hrd hr2 hf2 hf
    go_wp2_with fail
    refine HK4.out _ _ ⟨fun _ => HSF.out _ HF.out, ?_⟩
    clear HK4
    refine wpAnyB_one (i := 4) (by kernel_rfl) ?_
    refine wpOp_intro (by decide) (fun K6 HK6 => ?_); simp only [List.drop_succ_cons, List.drop_zero, List.take_succ_cons, List.take_zero]
    go_wp2_with fail
    have HBA : Hid (Below w2.heap.size w2 (w2.alloc (.cells #[.int .i64 0, .string ⟨#[]⟩, .string ⟨#[]⟩, .slice none 0 0, .slice none 0 0, .slice none 0 0, .int .i64 0] 74))) := Lib.hid ((Below.refl _ _).alloc (Nat.le_refl _) _)
    have HFA := Lib.hid (HF.out.trans (But.of_below (X := fun k => k = b) HBA.out))
    refine HK6.out _ _ ⟨fun _ => HSF.out _ HFA.out, ?_⟩
    clear HK6
    have HLI := Lib.hid ((H.out.step HR2.out HF.out).below HBA.out)
    have HX := Lib.hid (HROWS.out _ HFA.out)
    have HRO := Lib.hid (HRS.out.to (HST.out _ HFA.out))
    have H6W : Hid ((w2.alloc (.cells #[.int .i64 0, .string ⟨#[]⟩, .string ⟨#[]⟩, .slice none 0 0, .slice none 0 0, .slice none 0 0, .int .i64 0] 74)).heap[t6]? = some (.cells (mkOne (.slice va ds.length vc)) 51 (0, 0))) := Lib.hid (by rw [HFA.out.block t6 hlt6 (by omega)]; exact H6.out)
    have HD := Lib.hid (HRD.out.to (w' := w2.alloc (.cells #[.int .i64 0, .string ⟨#[]⟩, .string ⟨#[]⟩, .slice none 0 0, .slice none 0 0, .slice none 0 0, .int .i64 0] 74)) (Q := fun x => t6 < x ∧ (Value.slice va ds.length vc).ownBlock ≠ some x) ⟨HBA.out.size, fun x hx2 hp => ⟨⟨Nat.lt_of_lt_of_le hlt6 hp, fun e => by have h1 := (HVL.out x e).2; have h2 : w.heap.size ≤ x := hp; omega⟩, HBA.out.block x hx2⟩⟩)
    have HLIT : Hid (∀ j u, zs[j]? = some u → (w2.alloc (.cells #[.int .i64 0, .string ⟨#[]⟩, .string ⟨#[]⟩, .slice none 0 0, .slice none 0 0, .slice none 0 0, .int .i64 0] 74)).cell? ((⟨w2.heap.size, 0, none⟩ : Addr).add j) = some u) := Lib.hid (lit_cells (fz := (0, 0)) (by rw [HZS.out]; exact heap_at_new _ _))
    have hbase : LB t6 bx ≤ (w2.alloc (.cells #[.int .i64 0, .string ⟨#[]⟩, .string ⟨#[]⟩, .slice none 0 0, .slice none 0 0, .slice none 0 0, .int .i64 0] 74)).heap.size := HLI.out.low
    have HONE : Hid (∀ u ∈ zs, u.oneCell' = true) := Lib.hid (by rw [HZS.out]; intro u hu; simp at hu; rcases hu with rfl | rfl | rfl | rfl | rfl | rfl | rfl <;> rfl)
    refine wpAnyB_one (i := 5) (by kernel_rfl) ?_
    refine wpOp_intro (by decide) (fun K7 HK7 => ?_); simp only [List.drop_succ_cons, List.drop_zero, List.take_succ_cons, List.take_zero]
    go_wp2_with (first | (at_builtin; refine wpList_append_own_at _ rfl _ _ 51 rfl (LB t6 bx) 74 i0 _ 7 120 Tryd.underlying51 hi hz0 hz1 hz2 rfl (by decide) (.slice va ds.length vc) ds.length xs rfl HX.out ⟨w2.heap.size, 0, none⟩ 1 1 zs rfl HZL.out HLIT.out HONE.out (by unfold maxLen; omega) (by omega) hbase ?_; intro v' w8 hrow8 hg8 hnil8 hloc8; clear hnil8; obtain ⟨g', c', rfl, hg1, hg2⟩ := rowForm hrow8 (by omega); have HROW := Lib.hid hrow8; have HG8 := Lib.hid hg8; have HL8 := Lib.hid hloc8; clear hrow8 hg8 hloc8) | fail)
    refine HK7.out _ _ ⟨fun h => absurd h (by decide), ?_⟩
    clear HK7
    refine wpAnyB_takeAny (i := 6) (v := (.pointer (some ⟨g', (ds.length * 7), none⟩))) (by decide) rfl (by kernel_rfl) (by kernel_rfl) (by kernel_rfl) (fun _ _ _ h => h) (Or.inl ⟨by rfl, fun w _ => by go_simp⟩) ?_; simp only [Act.put, List.setIfInBounds_toArray, List.set_cons_zero, List.set_cons_succ]
    have h68 := HLI.out.h6 HX.out HG8.out H6W.out
    have y6 : w8.cell? ⟨t6, 0, none⟩ = some (.slice va ds.length vc) := by simp [World.cell?, h68, mkOne]
    have y7 : w8.frozen? ⟨t6, 0, none⟩ = false := by simp [World.frozen?, h68]
    have hxl : xs.length = ds.length * 7 := HX.out.1
    have q0 := row_cell HROW.out (ds.length * 7) (.int .i64 0) (by rw [← hxl, List.getElem?_append_right (Nat.le_refl _), Nat.sub_self, HZS.out]; rfl)
    have q1 := row_cell HROW.out (ds.length * 7 + 1) (.string ⟨#[]⟩) (by rw [← hxl, List.getElem?_append_right (by omega), Nat.add_sub_cancel_left, HZS.out]; rfl)
    have q2 := row_cell HROW.out (ds.length * 7 + 2) (.string ⟨#[]⟩) (by rw [← hxl, List.getElem?_append_right (by omega), Nat.add_sub_cancel_left, HZS.out]; rfl)
    have q3 := row_cell HROW.out (ds.length * 7 + 3) (.slice none 0 0) (by rw [← hxl, List.getElem?_append_right (by omega), Nat.add_sub_cancel_left, HZS.out]; rfl)
    have q4 := row_cell HROW.out (ds.length * 7 + 4) (.slice none 0 0) (by rw [← hxl, List.getElem?_append_right (by omega), Nat.add_sub_cancel_left, HZS.out]; rfl)
    have q5 := row_cell HROW.out (ds.length * 7 + 5) (.slice none 0 0) (by rw [← hxl, List.getElem?_append_right (by omega), Nat.add_sub_cancel_left, HZS.out]; rfl)
    have q6 := row_cell HROW.out (ds.length * 7 + 6) (.int .i64 0) (by rw [← hxl, List.getElem?_append_right (by omega), Nat.add_sub_cancel_left, HZS.out]; rfl)
    have p0 := World.ownsRow.frozenAt HROW.out (ds.length * 7)
    have p1 := World.ownsRow.frozenAt HROW.out (ds.length * 7 + 1)
    have p2 := World.ownsRow.frozenAt HROW.out (ds.length * 7 + 2)
    have p3 := World.ownsRow.frozenAt HROW.out (ds.length * 7 + 3)
    have p4 := World.ownsRow.frozenAt HROW.out (ds.length * 7 + 4)
    have p5 := World.ownsRow.frozenAt HROW.out (ds.length * 7 + 5)
    have p6 := World.ownsRow.frozenAt HROW.out (ds.length * 7 + 6)
    have n1 : ¬ g' = t6 := by omega
    have n2 : ¬ t6 = g' := by omega
    have HXL := Lib.hid hxl.symm
    clear h68 hxl
    refine wpAnyB_two (i := 7) (k := 8) (by kernel_rfl) ?_ ?_
    · refine wpOp_intro (by decide) (fun K9 HK9 => ?_); simp only [List.drop_succ_cons, List.drop_zero, List.take_succ_cons, List.take_zero]
      go_wp2_with fail
      refine HK9.out _ _ ⟨fun h => absurd h (by decide), ?_⟩
      clear HK9
      refine wpAnyB_one (i := 8) (by kernel_rfl) ?_
      refine wpOp_intro (by decide) (fun Ka HKa => ?_); simp only [List.drop_succ_cons, List.drop_zero, List.take_succ_cons, List.take_zero]
      go_wp2_with fail
      refine HKa.out _ _ ⟨fun h => absurd h (by decide), ?_⟩
      clear HKa
      refine wpAnyB_done (by kernel_rfl) ?_ _
      go_wp2_with fail
      go_end0
      have hfin := HLI.out.end1 (jj := 0) HX.out HRO.out HD.out rfl HG8.out HL8.out H6W.out HROW.out HZL.out HXL.out rfl
      simp only [putCells, Nat.add_assoc, Nat.reduceAdd] at hfin
      exact ⟨rfl, hfin⟩
    · refine wpOp_intro (by decide) (fun K9 HK9 => ?_); simp only [List.drop_succ_cons, List.drop_zero, List.take_succ_cons, List.take_zero]
      go_wp2_with fail
      refine HK9.out _ _ ⟨fun h => absurd h (by decide), ?_⟩
      clear HK9
      refine wpAnyB_one (i := 7) (by kernel_rfl) ?_
      refine wpOp_intro (by decide) (fun Ka HKa => ?_); simp only [List.drop_succ_cons, List.drop_zero, List.take_succ_cons, List.take_zero]
      go_wp2_with fail
      refine HKa.out _ _ ⟨fun h => absurd h (by decide), ?_⟩
      clear HKa
      refine wpAnyB_done (by kernel_rfl) ?_ _
      go_wp2_with fail
      go_end0
      have hfin := HLI.out.end2 (jj := 0) HX.out HRO.out HD.out rfl HG8.out HL8.out H6W.out HROW.out HZL.out HXL.out rfl
      simp only [putCells, Nat.add_assoc, Nat.reduceAdd] at hfin
      exact ⟨rfl, hfin⟩
  · refine wpOp_intro (by decide) (fun K6 HK6 => ?_); simp only [List.drop_succ_cons, List.drop_zero, List.take_succ_cons, List.take_zero]
    go_wp2_with fail
    have HBA : Hid (Below w.heap.size w ((w.alloc (.cells #[.int .i64 0, .string ⟨#[]⟩, .string ⟨#[]⟩, .slice none 0 0, .slice none 0 0, .slice none 0 0, .int .i64 0] 74)).drew)) := Lib.hid (Below.drew ((Below.refl _ _).alloc (Nat.le_refl _) _))
    have HFA := Lib.hid (But.of_below (X := fun k => k = b) HBA.out)
    refine HK6.out _ _ ⟨fun _ => HSF.out _ HFA.out, ?_⟩
    clear HK6
    refine wpAnyB_one (i := 2) (by kernel_rfl) ?_
    refine wpOp_intro (by decide) (fun K4 HK4 => ?_); simp only [List.drop_succ_cons, List.drop_zero, List.take_succ_cons, List.take_zero]
    go_wp2_with fail
    refine (HVAL.out _ (H.out.rd.below HBA.out)).mono ?_
    rintro r w2 ⟨cs, rfl, hrd, hr2, hf2⟩
    obtain ⟨k', a', al, nm, a1, a2, a3, n1, c1, n2, c2, n3, c3, rfl⟩ := HVC.out _ _ _ hrd
    have HF := Lib.hid (HFA.out.trans hf2)
    have HLB : Hid (w2.heap[w.heap.size]? = some (.cells #[.int .i64 0, .string ⟨#[]⟩, .string ⟨#[]⟩, .slice none 0 0, .slice none 0 0, .slice none 0 0, .int .i64 0] 74 (0, 0))) := by
      rw [hf2.block w.heap.size (by show w.heap.size < (w.alloc _).heap.size; simp) (by omega)]
      exact Lib.hid (heap_at_new _ _)
    have HRD := Lib.hid hrd
    have HR2 := Lib.hid hr2
    clear hrd hr2 hf2
    go_wp2_with fail
    refine HK4.out _ _ ⟨fun _ => HSF.out _ HF.out, ?_⟩
    clear HK4
    have HLI := Lib.hid (H.out.step HR2.out HF.out)
    have HX := Lib.hid (HROWS.out _ HF.out)
    have HRO := Lib.hid (HRS.out.to (HST.out _ HF.out))
    have H6W : Hid (w2.heap[t6]? = some (.cells (mkOne (.slice va ds.length vc)) 51 (0, 0))) := Lib.hid (by rw [HF.out.block t6 hlt6 (by omega)]; exact H6.out)
    have HD := Lib.hid (HRD.out.to (w' := w2) (Q := fun x => t6 < x ∧ (Value.slice va ds.length vc).ownBlock ≠ some x) (Stands.sub w2 (fun x hx2 hp => by
      have h2 : (w.alloc (.cells #[.int .i64 0, .string ⟨#[]⟩, .string ⟨#[]⟩, .slice none 0 0, .slice none 0 0, .slice none 0 0, .int .i64 0] 74)).heap.size ≤ x := hp
      simp at h2
      exact ⟨by omega, fun e => by have h1 := (HVL.out x e).2; omega⟩)))
    have HLIT : Hid (∀ j u, zs[j]? = some u → w2.cell? ((⟨w.heap.size, 0, none⟩ : Addr).add j) = some u) := Lib.hid (lit_cells (fz := (0, 0)) (by rw [HZS.out]; exact HLB.out))
    have hbase : LB t6 bx ≤ (w2).heap.size := HLI.out.low
    have HONE : Hid (∀ u ∈ zs, u.oneCell' = true) := Lib.hid (by rw [HZS.out]; intro u hu; simp at hu; rcases hu with rfl | rfl | rfl | rfl | rfl | rfl | rfl <;> rfl)
    refine wpAnyB_one (i := 5) (by kernel_rfl) ?_
    refine wpOp_intro (by decide) (fun K7 HK7 => ?_); simp only [List.drop_succ_cons, List.drop_zero, List.take_succ_cons, List.take_zero]
    go_wp2_with (first | (at_builtin; refine wpList_append_own_at _ rfl _ _ 51 rfl (LB t6 bx) 74 i0 _ 7 120 Tryd.underlying51 hi hz0 hz1 hz2 rfl (by decide) (.slice va ds.length vc) ds.length xs rfl HX.out ⟨w.heap.size, 0, none⟩ 1 1 zs rfl HZL.out HLIT.out HONE.out (by unfold maxLen; omega) (by omega) hbase ?_; intro v' w8 hrow8 hg8 hnil8 hloc8; clear hnil8; obtain ⟨g', c', rfl, hg1, hg2⟩ := rowForm hrow8 (by omega); have HROW := Lib.hid hrow8; have HG8 := Lib.hid hg8; have HL8 := Lib.hid hloc8; clear hrow8 hg8 hloc8) | fail)
    refine HK7.out _ _ ⟨fun h => absurd h (by decide), ?_⟩
    clear HK7
    refine wpAnyB_takeAny (i := 6) (v := (.pointer (some ⟨g', (ds.length * 7), none⟩))) (by decide) rfl (by kernel_rfl) (by kernel_rfl) (by kernel_rfl) (fun _ _ _ h => h) (Or.inl ⟨by rfl, fun w _ => by go_simp⟩) ?_; simp only [Act.put, List.setIfInBounds_toArray, List.set_cons_zero, List.set_cons_succ]
    have h68 := HLI.out.h6 HX.out HG8.out H6W.out
    have y6 : w8.cell? ⟨t6, 0, none⟩ = some (.slice va ds.length vc) := by simp [World.cell?, h68, mkOne]
    have y7 : w8.frozen? ⟨t6, 0, none⟩ = false := by simp [World.frozen?, h68]
    have hxl : xs.length = ds.length * 7 := HX.out.1
    have q0 := row_cell HROW.out (ds.length * 7) (.int .i64 0) (by rw [← hxl, List.getElem?_append_right (Nat.le_refl _), Nat.sub_self, HZS.out]; rfl)
    have q1 := row_cell HROW.out (ds.length * 7 + 1) (.string ⟨#[]⟩) (by rw [← hxl, List.getElem?_append_right (by omega), Nat.add_sub_cancel_left, HZS.out]; rfl)
    have q2 := row_cell HROW.out (ds.length * 7 + 2) (.string ⟨#[]⟩) (by rw [← hxl, List.getElem?_append_right (by omega), Nat.add_sub_cancel_left, HZS.out]; rfl)
    have q3 := row_cell HROW.out (ds.length * 7 + 3) (.slice none 0 0) (by rw [← hxl, List.getElem?_append_right (by omega), Nat.add_sub_cancel_left, HZS.out]; rfl)
    have q4 := row_cell HROW.out (ds.length * 7 + 4) (.slice none 0 0) (by rw [← hxl, List.getElem?_append_right (by omega), Nat.add_sub_cancel_left, HZS.out]; rfl)
    have q5 := row_cell HROW.out (ds.length * 7 + 5) (.slice none 0 0) (by rw [← hxl, List.getElem?_append_right (by omega), Nat.add_sub_cancel_left, HZS.out]; rfl)
    have q6 := row_cell HROW.out (ds.length * 7 + 6) (.int .i64 0) (by rw [← hxl, List.getElem?_append_right (by omega), Nat.add_sub_cancel_left, HZS.out]; rfl)
    have p0 := World.ownsRow.frozenAt HROW.out (ds.length * 7)
    have p1 := World.ownsRow.frozenAt HROW.out (ds.length * 7 + 1)
    have p2 := World.ownsRow.frozenAt HROW.out (ds.length * 7 + 2)
    have p3 := World.ownsRow.frozenAt HROW.out (ds.length * 7 + 3)
    have p4 := World.ownsRow.frozenAt HROW.out (ds.length * 7 + 4)
    have p5 := World.ownsRow.frozenAt HROW.out (ds.length * 7 + 5)
    have p6 := World.ownsRow.frozenAt HROW.out (ds.length * 7 + 6)
    have n1 : ¬ g' = t6 := by omega
    have n2 : ¬ t6 = g' := by omega
    have HXL := Lib.hid hxl.symm
    clear h68 hxl
    refine wpAnyB_two (i := 7) (k := 8) (by kernel_rfl) ?_ ?_
    · refine wpOp_intro (by decide) (fun K9 HK9 => ?_); simp only [List.drop_succ_cons, List.drop_zero, List.take_succ_cons, List.take_zero]
      go_wp2_with fail
      refine HK9.out _ _ ⟨fun h => absurd h (by decide), ?_⟩
      clear HK9
      refine wpAnyB_one (i := 8) (by kernel_rfl) ?_
      refine wpOp_intro (by decide) (fun Ka HKa => ?_); simp only [List.drop_succ_cons, List.drop_zero, List.take_succ_cons, List.take_zero]
      go_wp2_with fail
      refine HKa.out _ _ ⟨fun h => absurd h (by decide), ?_⟩
      clear HKa
      refine wpAnyB_done (by kernel_rfl) ?_ _
      go_wp2_with fail
      go_end0
      have hfin := HLI.out.end1 (jj := 0) HX.out HRO.out HD.out rfl HG8.out HL8.out H6W.out HROW.out HZL.out HXL.out rfl
      simp only [putCells, Nat.add_assoc, Nat.reduceAdd] at hfin
      exact ⟨rfl, hfin⟩
    · refine wpOp_intro (by decide) (fun K9 HK9 => ?_); simp only [List.drop_succ_cons, List.drop_zero, List.take_succ_cons, List.take_zero]
      go_wp2_with fail
      refine HK9.out _ _ ⟨fun h => absurd h (by decide), ?_⟩
      clear HK9
      refine wpAnyB_one (i := 7) (by kernel_rfl) ?_
      refine wpOp_intro (by decide) (fun Ka HKa => ?_); simp only [List.drop_succ_cons, List.drop_zero, List.take_succ_cons, List.take_zero]
      go_wp2_with fail
      refine HKa.out _ _ ⟨fun h => absurd h (by decide), ?_⟩
      clear HKa
      refine wpAnyB_done (by kernel_rfl) ?_ _
      go_wp2_with fail
      go_end0
      have hfin := HLI.out.end2 (jj := 0) HX.out HRO.out HD.out rfl HG8.out HL8.out H6W.out HROW.out HZL.out HXL.out rfl
      simp only [putCells, Nat.add_assoc, Nat.reduceAdd] at hfin
      exact ⟨rfl, hfin⟩
set_option maxHeartbeats 1000000 in
set_option maxRecDepth 100000 in
theorem opC_any (w0 : World) (b g t6 : Nat) (bx : List Box) (t2 : Nat) (kd : Nat) (nm : ByteArray) (at_ m : Nat) (hbx0 : (t2, Obj.cells #[(.pointer (some ⟨b, 0, none⟩))] 75 (0, 0)) ∈ bx) (s : Rd.St) (ds : List D) (w : World)
    (hval : ∀ w, RdAt w b g s → Calls Tryd.prog 43 #[(.pointer (some ⟨b, 0, none⟩))] w (Got b g w (Qr.variable_ m s).2.d (Qr.variable_ m s).1))
    (h : LI w0 b g t6 bx 53 (mkOpV kd nm at_) 55 9 s ds w) (hl : ds.length ≤ 1000000) :
    Calls Tryd.prog 42 #[.pointer (some ⟨t6, 0, none⟩), .pointer (some ⟨t2, 0, none⟩)] w fun r w' => r = .returned (.tuple #[]) ∧ LI w0 b g t6 bx 53 (mkOpV kd nm at_) 55 9 (Qr.variable_ m s).1 (ds ++ [(Qr.variable_ m s).2.d]) w' := by
  obtain ⟨i0, hi, hz0, hz1, hz2⟩ := info_parts infoVd
  obtain ⟨v, h6, hG⟩ := h.ex
  obtain ⟨va, vc, hv⟩ := hG.form
  subst hv
  obtain ⟨⟨xs, hx, hro⟩, hap⟩ := hG
  have hvl : ∀ x, (Value.slice va ds.length vc).ownBlock = some x → LB t6 bx ≤ x ∧ x < w.heap.size := hx.lt
  have hlb6 := LB_t6 t6 bx
  have hlt6 := block_lt h6
  have lb := h.lb
  have l6 := h.l6
  obtain ⟨s', hs'⟩ : ∃ x, x = (Qr.variable_ m s).1 := ⟨_, rfl⟩
  obtain ⟨d, hd'⟩ : ∃ x, x = (Qr.variable_ m s).2.d := ⟨_, rfl⟩
  have HVC : Hid (∀ (w : World) (P : Nat → Prop) (cs : List Value), Reads w P d cs → ∃ (nm2 ty2 t : ByteArray) (hb : Bool) (k a b' : Int) (a1 a2 : Option Addr) (n1 c1 n2 c2 : Nat), cs = [.string nm2, .string ty2, .bool hb, .int .i64 k, .string t, .slice a1 n1 c1, .slice a2 n2 c2, .int .i64 a, .int .i64 b']) :=
    Lib.hid fun w P cs hh => Vd_cells (by rw [← hd']; exact hh)
  have HVAL := Lib.hid hval
  rw [← hs', ← hd']
  have HSE := Lib.hid hs'
  have HDE := Lib.hid hd'
  have H := Lib.hid h
  have HRS := Lib.hid hro
  have H6 := Lib.hid h6
  have HVL := Lib.hid hvl
  have HST : Hid (∀ w', Fr b w w' → Stands w (fun x => t6 < x ∧ (Value.slice va ds.length vc).ownBlock ≠ some x) w' (fun x => t6 < x ∧ (Value.slice va ds.length vc).ownBlock ≠ some x)) :=
    Lib.hid fun w' hf => ⟨hf.size, fun x hx2 hp => ⟨hp, hf.block x hx2 (by omega)⟩⟩
  have HROWS : Hid (∀ w', Fr b w w' → w'.ownsRow (LB t6 bx) 55 9 (.slice va ds.length vc) ds.length xs) := Lib.hid fun w' hf => row_to hx (fun x hx2 => hf.block x (hvl x hx2).2 (by have := (hvl x hx2).1; omega))
  have hS : w.cell? ⟨t6, 2, none⟩ = some (.slice va ds.length vc) ∧ w.cell? ⟨t2, 0, none⟩ = some (.pointer (some ⟨b, 0, none⟩)) :=
    ⟨by simp [World.cell?, h6, mkOpV], h.cellx hbx0⟩
  have HSS := Lib.hid hS
  have HSF : Hid (∀ w', Fr b w w' → w'.cell? ⟨t6, 2, none⟩ = some (.slice va ds.length vc) ∧ w'.cell? ⟨t2, 0, none⟩ = some (.pointer (some ⟨b, 0, none⟩))) := by
    refine Lib.hid fun w' hf => ⟨?_, h.cellf hf hbx0⟩
    rw [hf.cell (p := ⟨t6, 2, none⟩) hlt6 (by show ¬ t6 = b; omega)]
    exact HSS.out.1
  clear h hx hro h6 hvl hval hs' hd' hap
  go_enter Tryd.func42, Tryd.ntmps42
  go_wp2_with fail
  refine wp_region_phase (fun w' => w'.cell? ⟨t6, 2, none⟩ = some (.slice va ds.length vc) ∧ w'.cell? ⟨t2, 0, none⟩ = some (.pointer (some ⟨b, 0, none⟩))) 6 (by kernel_rfl) ?_
  refine wpAnyB_take (i := 0) (v := (.pointer (some ⟨t6, 2, none⟩))) (by kernel_rfl) (by decide) rfl (by kernel_rfl) (by kernel_rfl) (by kernel_rfl) (fun _ _ _ h => h) (Or.inl ⟨by rfl, fun w hSw => by obtain ⟨s0, s1⟩ := hSw; go_simp⟩) hS ?_; simp only [Act.put, List.setIfInBounds_toArray, List.set_cons_zero, List.set_cons_succ]
  refine wpAnyB_take (i := 1) (v := (.slice va ds.length vc)) (by kernel_rfl) (by decide) rfl (by kernel_rfl) (by kernel_rfl) (by kernel_rfl) (fun _ _ _ h => h) (Or.inl ⟨by rfl, fun w hSw => by obtain ⟨s0, s1⟩ := hSw; go_simp⟩) hS ?_; simp only [Act.put, List.setIfInBounds_toArray, List.set_cons_zero, List.set_cons_succ]
  refine wpAnyB_take (i := 2) (v := (.pointer (some ⟨b, 0, none⟩))) (by kernel_rfl) (by decide) rfl (by kernel_rfl) (by kernel_rfl) (by kernel_rfl) (fun _ _ _ h => h) (Or.inl ⟨by rfl, fun w hSw => by obtain ⟨s0, s1⟩ := hSw; go_simp⟩) hS ?_; simp only [Act.put, List.setIfInBounds_toArray, List.set_cons_zero, List.set_cons_succ]
  clear hS
  refine wpAnyB_one (i := 3) (by kernel_rfl) ?_
  refine wpOp_intro (by decide) (fun K4 HK4 => ?_); simp only [List.drop_succ_cons, List.drop_zero, List.take_succ_cons, List.take_zero]
  go_wp2_with fail
  refine (HVAL.out w.drew (H.out.rd.to (Nat.le_refl _) rfl rfl)).mono ?_
  rintro r w2 ⟨cs, rfl, hrd, hr2, hf2⟩
  have hf : Fr b w w2 := ⟨hf2.os, hf2.tape, hf2.output, hf2.size, hf2.block⟩
  clear hf2
  rw [← HSE.out] at hr2
  rw [← HDE.out] at hrd
  obtain ⟨nm2, ty2, t, hb, k, a, b', a1, a2, n1, c1, n2, c2, rfl⟩ := HVC.out _ _ _ hrd
  have HRD := Lib.hid hrd
  have HF := Lib.hid hf
  have HR2 := Lib.hid hr2
  clear hrd hr2 hf
  go_wp2_with fail
  refine HK4.out _ _ ⟨fun _ => HSF.out _ HF.out, ?_⟩
  clear HK4
  refine wpAnyB_one (i := 4) (by kernel_rfl) ?_
  refine wpOp_intro (by decide) (fun K6 HK6 => ?_); simp only [List.drop_succ_cons, List.drop_zero, List.take_succ_cons, List.take_zero]
  go_wp2_with fail
  have HBA : Hid (Below w2.heap.size w2 (w2.alloc (.cells #[.string nm2, .string ty2, .bool hb, .int .i64 k, .string t, .slice a1 n1 c1, .slice a2 n2 c2, .int .i64 a, .int .i64 b'] 55))) := Lib.hid ((Below.refl _ _).alloc (Nat.le_refl _) _)
  have HFA := Lib.hid (HF.out.trans (But.of_below (X := fun k => k = b) HBA.out))
  refine HK6.out _ _ ⟨fun _ => HSF.out _ HFA.out, ?_⟩
  clear HK6
  have HLI := Lib.hid ((H.out.step HR2.out HF.out).below HBA.out)
  have HX := Lib.hid (HROWS.out _ HFA.out)
  have HRO := Lib.hid (HRS.out.to (HST.out _ HFA.out))
  have H6W : Hid ((w2.alloc (.cells #[.string nm2, .string ty2, .bool hb, .int .i64 k, .string t, .slice a1 n1 c1, .slice a2 n2 c2, .int .i64 a, .int .i64 b'] 55)).heap[t6]? = some (.cells ((mkOpV kd nm at_) (.slice va ds.length vc)) 53 (0, 0))) := Lib.hid (by rw [HFA.out.block t6 hlt6 (by omega)]; exact H6.out)
  have HD := Lib.hid (HRD.out.to (w' := w2.alloc (.cells #[.string nm2, .string ty2, .bool hb, .int .i64 k, .string t, .slice a1 n1 c1, .slice a2 n2 c2, .int .i64 a, .int .i64 b'] 55)) (Q := fun x => t6 < x ∧ (Value.slice va ds.length vc).ownBlock ≠ some x) ⟨HBA.out.size, fun x hx2 hp => ⟨⟨Nat.lt_of_lt_of_le hlt6 hp, fun e => by have h1 := (HVL.out x e).2; have h2 : w.heap.size ≤ x := hp; omega⟩, HBA.out.block x hx2⟩⟩)
  have HLIT : Hid (∀ j u, ([.string nm2, .string ty2, .bool hb, .int .i64 k, .string t, .slice a1 n1 c1, .slice a2 n2 c2, .int .i64 a, .int .i64 b'] : List Value)[j]? = some u → (w2.alloc (.cells #[.string nm2, .string ty2, .bool hb, .int .i64 k, .string t, .slice a1 n1 c1, .slice a2 n2 c2, .int .i64 a, .int .i64 b'] 55)).cell? ((⟨w2.heap.size, 0, none⟩ : Addr).add j) = some u) := Lib.hid (lit_cells (fz := (0, 0)) (heap_at_new _ _))
  have HONE := Lib.hid (Reads.one HRD.out)
  have hbase : LB t6 bx ≤ (w2.alloc (.cells #[.string nm2, .string ty2, .bool hb, .int .i64 k, .string t, .slice a1 n1 c1, .slice a2 n2 c2, .int .i64 a, .int .i64 b'] 55)).heap.size := HLI.out.low
  refine wpAnyB_one (i := 5) (by kernel_rfl) ?_
  refine wpOp_intro (by decide) (fun K7 HK7 => ?_); simp only [List.drop_succ_cons, List.drop_zero, List.take_succ_cons, List.take_zero]
  go_wp2_with (first | (at_builtin; refine wpList_append_own_at _ rfl _ _ 49 rfl (LB t6 bx) 55 i0 _ 9 128 Tryd.underlying49 hi hz0 hz1 hz2 rfl (by decide) (.slice va ds.length vc) ds.length xs rfl HX.out ⟨w2.heap.size, 0, none⟩ 1 1 [.string nm2, .string ty2, .bool hb, .int .i64 k, .string t, .slice a1 n1 c1, .slice a2 n2 c2, .int .i64 a, .int .i64 b'] rfl rfl HLIT.out HONE.out (by unfold maxLen; omega) (by omega) hbase ?_; intro v' w8 hrow8 hg8 hnil8 hloc8; clear hnil8; obtain ⟨g', c', rfl, hg1, hg2⟩ := rowForm hrow8 (by omega); have HROW := Lib.hid hrow8; have HG8 := Lib.hid hg8; have HL8 := Lib.hid hloc8; clear hrow8 hg8 hloc8) | fail)
  have h68 := HLI.out.h6 HX.out HG8.out H6W.out
  have y6 : w8.cell? ⟨t6, 2, none⟩ = some (.slice va ds.length vc) := by simp [World.cell?, h68, mkOpV]
  have y7 : w8.frozen? ⟨t6, 2, none⟩ = false := by simp [World.frozen?, h68]
  have hb0 : w8.cell? ⟨t2, 0, none⟩ = some (.pointer (some ⟨b, 0, none⟩)) := by
    have h1 := HLI.out.cb _ hbx0
    have h2 := HLI.out.lx _ hbx0
    simp only at h1 h2
    exact blk_cell (cs := #[(.pointer (some ⟨b, 0, none⟩))]) (T := 75) (fz := (0, 0)) (by rw [HG8.out.block t2 (block_lt h1) (fun e => by have := (HX.out.lt t2 e.symm).1; omega)]; exact h1) 0 _ rfl
  refine HK7.out _ _ ⟨fun _ => ⟨y6, hb0⟩, ?_⟩
  clear HK7 hb0
  refine wpAnyB_takeAny (i := 6) (v := (.pointer (some ⟨t6, 2, none⟩))) (by decide) rfl (by kernel_rfl) (by kernel_rfl) (by kernel_rfl) (fun _ _ _ h => h) (Or.inl ⟨by rfl, fun w _ => by go_simp⟩) ?_; simp only [Act.put, List.setIfInBounds_toArray, List.set_cons_zero, List.set_cons_succ]
  clear h68
  refine wpAnyB_one (i := 7) (by kernel_rfl) ?_
  refine wpOp_intro (by decide) (fun K9 HK9 => ?_); simp only [List.drop_succ_cons, List.drop_zero, List.take_succ_cons, List.take_zero]
  go_wp2_with fail
  refine HK9.out _ _ ⟨fun h => absurd h (by decide), ?_⟩
  clear HK9
  refine wpAnyB_done (by kernel_rfl) ?_ _
  go_wp2_with fail
  go_end0
  exact ⟨rfl, HLI.out.end0 (jj := 2) HX.out HRO.out HD.out rfl HG8.out HL8.out H6W.out HROW.out rfl⟩

end Go.Proofs.YtabcaljnpahgpaaDoor
namespace Go.Proofs.YtabcaljnpahgpaaDoor
set_option linter.unusedSimpArgs false
set_option linter.unusedVariables false
open Go Go.RowKit

theorem infoOp : (Tryd.prog.info? 53).map (fun i => (i.zero, i.size, i.bytes)) = some (some (.agg #[.int .i64 0, .string ⟨#[]⟩, .slice none 0 0, .slice none 0 0, .slice none 0 0, .int .i64 0]), 6, 104) := by kernel_rfl
theorem infoFr : (Tryd.prog.info? 57).map (fun i => (i.zero, i.size, i.bytes)) = some (some (.agg #[.string ⟨#[]⟩, .string ⟨#[]⟩, .slice none 0 0, .slice none 0 0, .int .i64 0]), 5, 88) := by kernel_rfl
section
variable {w : World} {P : Nat → Prop}
theorem Op_open {x : Qr.Op} {cs : List Value} (h : Reads w P x.d cs) : ∃ (a1 a2 a3 : Option Addr) (c1 c2 c3 : Nat), cs = [.int .i64 x.kind, .string ⟨x.name.toArray⟩, .slice a1 x.vars.length c1, .slice a2 x.dirs.length c2, .slice a3 x.sels.length c3, .int .i64 x.at_] ∧
    Reads w P (.seq 9 (x.vars.map Qr.Vd.d)) [.slice a1 x.vars.length c1] ∧ Reads w P (.seq 3 (x.dirs.map Qr.Dir.d)) [.slice a2 x.dirs.length c2] ∧ Reads w P (.seq 7 (x.sels.map Qr.Sel.d)) [.slice a3 x.sels.length c3] := by
  unfold Qr.Op.d at h
  obtain ⟨x1, r1, rfl, e1, h1⟩ := h.obj_inv.cons_inv
  obtain ⟨x2, r2, rfl, e2, h2⟩ := h1.cons_inv
  obtain ⟨x3, r3, rfl, e3, h3⟩ := h2.cons_inv
  obtain ⟨x4, r4, rfl, e4, h4⟩ := h3.cons_inv
  obtain ⟨x5, r5, rfl, e5, h5⟩ := h4.cons_inv
  obtain ⟨x6, r6, rfl, e6, h6⟩ := h5.cons_inv
  obtain rfl := e1.int_inv
  obtain rfl := e2.str_inv
  obtain ⟨b3, d3, rfl, _⟩ := e3.seq_inv
  obtain ⟨b4, d4, rfl, _⟩ := e4.seq_inv
  obtain ⟨b5, d5, rfl, _⟩ := e5.seq_inv
  obtain rfl := e6.int_inv
  obtain rfl := h6.nil_inv
  simp only [List.length_map] at e3 e4 e5 ⊢
  exact ⟨b3, b4, b5, d3, d4, d5, rfl, e3, e4, e5⟩
theorem Fr_open {x : Qr.Fr} {cs : List Value} (h : Reads w P x.d cs) : ∃ (a1 a2 : Option Addr) (c1 c2 : Nat), cs = [.string ⟨x.name.toArray⟩, .string ⟨x.on.toArray⟩, .slice a1 x.dirs.length c1, .slice a2 x.sels.length c2, .int .i64 x.at_] ∧
    Reads w P (.seq 3 (x.dirs.map Qr.Dir.d)) [.slice a1 x.dirs.length c1] ∧ Reads w P (.seq 7 (x.sels.map Qr.Sel.d)) [.slice a2 x.sels.length c2] := by
  unfold Qr.Fr.d at h
  obtain ⟨x1, r1, rfl, e1, h1⟩ := h.obj_inv.cons_inv
  obtain ⟨x2, r2, rfl, e2, h2⟩ := h1.cons_inv
  obtain ⟨x3, r3, rfl, e3, h3⟩ := h2.cons_inv
  obtain ⟨x4, r4, rfl, e4, h4⟩ := h3.cons_inv
  obtain ⟨x5, r5, rfl, e5, h5⟩ := h4.cons_inv
  obtain rfl := e1.str_inv
  obtain rfl := e2.str_inv
  obtain ⟨b3, d3, rfl, _⟩ := e3.seq_inv
  obtain ⟨b4, d4, rfl, _⟩ := e4.seq_inv
  obtain rfl := e5.int_inv
  obtain rfl := h5.nil_inv
  simp only [List.length_map] at e3 e4 ⊢
  exact ⟨b3, b4, d3, d4, rfl, e3, e4⟩
theorem Dir_open {x : Qr.Dir} {cs : List Value} (h : Reads w P x.d cs) : ∃ (a1 : Option Addr) (c1 : Nat), cs = [.string ⟨x.name.toArray⟩, .slice a1 x.args.length c1, .int .i64 x.at_] ∧ Reads w P (.seq 7 (x.args.map Rd.A.d)) [.slice a1 x.args.length c1] := by
  unfold Qr.Dir.d at h
  obtain ⟨x1, r1, rfl, e1, h1⟩ := h.obj_inv.cons_inv
  obtain ⟨x2, r2, rfl, e2, h2⟩ := h1.cons_inv
  obtain ⟨x3, r3, rfl, e3, h3⟩ := h2.cons_inv
  obtain rfl := e1.str_inv
  obtain ⟨b2, d2, rfl, _⟩ := e2.seq_inv
  obtain rfl := e3.int_inv
  obtain rfl := h3.nil_inv
  simp only [List.length_map] at e2 ⊢
  exact ⟨b2, d2, rfl, e2⟩
end
end Go.Proofs.YtabcaljnpahgpaaDoor
namespace Go.Proofs.YtabcaljnpahgpaaDoor
set_option linter.unusedSimpArgs false
set_option linter.unusedVariables false
open Go Go.RowKit

/-- A selection's walk, as deep as so many tokens allow. -/
def SelC (b g n kk : Nat) : Prop := ∀ (s : Rd.St) (w : World), RdAt w b g s → s.rest.length ≤ n → (s.err ≠ 0 ∨ s.rest.length ≤ kk) → 0 ≤ s.deep ∧ s.deep + kk ≤ 800000 →
  Calls Tryd.prog 54 #[.pointer (some ⟨b, 0, none⟩)] w (Got b g w (Qr.sel (n + 1) (kk + 1) s).2.d (Qr.sel (n + 1) (kk + 1) s).1)
def sbx (w0 : World) (b : Nat) : List Box := [(w0.heap.size, .cells #[.pointer (some ⟨b, 0, none⟩)] 75 (0, 0))]
/-- What stands while selections are read. -/
def SLI (w0 : World) (b g n kk : Nat) (d1 : Int) (s : Rd.St) (out : List Qr.Sel) (w : World) : Prop :=
  LI w0 b g (w0.heap.size + 1) (sbx w0 b) 51 mkOne 74 7 s (out.map Qr.Sel.d) w ∧ s.deep = d1 ∧ s.rest.length ≤ n ∧ (s.err ≠ 0 ∨ s.rest.length ≤ kk) ∧ (s.err = 0 → out.length + s.rest.length ≤ 1602) ∧ out.length ≤ 1603
theorem enters_SC (cap : Array Value) (w : World) : Sem.run Tryd.prog (callFunc 53 cap) w = .ok (.enter 53 cap) w := by kernel_rfl

set_option maxHeartbeats 1000000 in
set_option maxRecDepth 100000 in
theorem sels_step (b g n kk : Nat) (hnb : n ≤ 1600) (hS : SelC b g n kk) (s : Rd.St) (w : World) (h : RdAt w b g s) (hn : s.rest.length ≤ n) (hk : s.err ≠ 0 ∨ s.rest.length ≤ kk + 1) (hd : 0 ≤ s.deep ∧ s.deep + kk + 1 ≤ 800000) :
    Calls Tryd.prog 40 #[.pointer (some ⟨b, 0, none⟩)] w (GotL b g w 7 ((Qr.selsOf (Qr.sel (n + 1) (kk + 1)) s).2.map Qr.Sel.d) (Qr.selsOf (Qr.sel (n + 1) (kk + 1)) s).1) := by
  have hlb := h.lt
  have H := Lib.hid h
  have HK := Lib.hid hk
  have HS := Lib.hid hS
  obtain ⟨d0, d1⟩ := hd
  clear h hk hS
  have hLI : LI w b g (w.heap.size + 1) (sbx w b) 51 mkOne 74 7 s [] ((w.alloc (.cells #[.pointer (some ⟨b, 0, none⟩)] 75)).alloc (.cells #[.slice none 0 0] 51)) := by
    have hbb : Below w.heap.size w ((w.alloc (.cells #[.pointer (some ⟨b, 0, none⟩)] 75)).alloc (.cells #[.slice none 0 0] 51)) :=
      ((Below.refl _ _).alloc (Nat.le_refl _) _).alloc (by simp) _
    refine ⟨H.out.below hbb, fun p hp => ?_, ⟨.slice none 0 0, ?_, Grows.nil _ _ _ _ _⟩, But.of_below hbb, hlb.1, hlb.2, fun p hp => ?_, by omega⟩
    · unfold sbx at hp
      rw [List.mem_singleton.1 hp]
      show ((w.alloc _).alloc _).heap[w.heap.size]? = _
      rw [Lib.alloc_old _ _ _ (by simp)]; exact heap_at_new _ _
    · have := heap_at_new (w.alloc (.cells #[.pointer (some ⟨b, 0, none⟩)] 75)) (.cells #[.slice none 0 0] 51)
      rw [show (w.alloc (.cells #[.pointer (some ⟨b, 0, none⟩)] 75)).heap.size = w.heap.size + 1 by simp] at this
      exact this
    · unfold sbx at hp
      rw [List.mem_singleton.1 hp]
      simp only
      omega
  have HLI := Lib.hid hLI
  have k2 := hLI.cellx (t := w.heap.size) (v := .pointer (some ⟨b, 0, none⟩)) (T := 75) (by simp [sbx])
  clear hLI
  go_enter Tryd.func40, Tryd.ntmps40
  go_wp2_with fail
  refine (rdown_any b g s Rd.lbrc _ HLI.out.rd (by omega)).mono ?_
  rintro r w1 ⟨rfl, h1, f1⟩
  have HL1 := Lib.hid (HLI.out.step h1 f1)
  obtain ⟨s1, hs1⟩ : ∃ x, x = Rd.down Rd.lbrc s := ⟨_, rfl⟩
  rw [← hs1] at HL1
  have HS1 := Lib.hid hs1
  have hok1 : Rd.Ok s s1 := by rw [hs1]; exact Rd.ok_down _ _
  have hle1 : s1.rest.length ≤ n := Nat.le_trans hok1.len hn
  have hdp1 : s1.deep = s.deep + 1 := by rw [hs1]; exact Rd.down_deep _ _
  have HC1 : Hid (s1.err ≠ 0 ∨ s1.rest.length ≤ kk) := by
    refine Lib.hid ?_
    rcases HK.out with hx | hx
    · left; rw [hok1.err hx]; exact hx
    · rcases Qr.down_less Rd.lbrc s with hy | hy
      · left; rw [hs1]; exact hy
      · right; rw [hs1]; omega
  have HD1 := Lib.hid hdp1
  have HCL : Hid (∀ (s2 : Rd.St) (out : List Qr.Sel) (w1 : World), LI w b g (w.heap.size + 1) (sbx w b) 51 mkOne 74 7 s2 (out.map Qr.Sel.d) w1 → s2.rest.length ≤ n → (s2.err ≠ 0 ∨ s2.rest.length ≤ kk) → s2.deep = s.deep + 1 → out.length ≤ 1000000 →
      Calls Tryd.prog 53 #[.pointer (some ⟨w.heap.size + 1, 0, none⟩), .pointer (some ⟨w.heap.size, 0, none⟩)] w1 fun r w' => r = .returned (.tuple #[]) ∧
        LI w b g (w.heap.size + 1) (sbx w b) 51 mkOne 74 7 (Qr.sel (n + 1) (kk + 1) s2).1 ((out ++ [(Qr.sel (n + 1) (kk + 1) s2).2]).map Qr.Sel.d) w') :=
    Lib.hid fun s2 out w1 hl hr hc hdp ho => by
      rw [List.map_append]
      exact selsC_any w b g (w.heap.size + 1) (sbx w b) w.heap.size (n + 1) (kk + 1) (by simp [sbx]) s2 (out.map Qr.Sel.d) w1
        (fun w2 hr2 => HS.out s2 w2 hr2 hr hc (by rw [hdp]; omega)) hl (by rw [List.length_map]; exact ho)
  have HDP := Lib.hid (Qr.sel_deep (n + 1) (kk + 1))
  have HOK := Lib.hid (Qr.ok_sel (n + 1) (kk + 1))
  have HGO := Lib.hid (Qr.sel_goes (n + 1) kk)
  have HOUT := Lib.hid (show Qr.selsOf (Qr.sel (n + 1) (kk + 1)) s = (Rd.up Rd.rbrc (Rd.loop1 Rd.rbrc (Qr.sel (n + 1) (kk + 1)) (s1.rest.length + 1) s1).1, (Rd.loop1 Rd.rbrc (Qr.sel (n + 1) (kk + 1)) (s1.rest.length + 1) s1).2) by rw [hs1]; rfl)
  clear h1 f1 k2 hs1 hok1 hdp1
  have k2 : w1.cell? ⟨w.heap.size, 0, none⟩ = some (.pointer (some ⟨b, 0, none⟩)) := HL1.out.cellx (T := 75) (by simp [sbx])
  go_wp2_with fail
  refine (some1_any Rd.rbrc (Qr.sel (n + 1) (kk + 1)) (SLI w b g n kk (s.deep + 1)) b g _ _ (enters_SC _) (fun s out w' h => h.1.rd) (fun s out w1 w2 h hb => ⟨h.1.below hb, h.2⟩) (fun s2 out w2 h he => ?_) (fun s2 out w2 h he _ => HGO.out s2 he) (s1.rest.length + 1) s1 w1 ?_ (.inr (Nat.lt_succ_of_le (HOK.out s1).len))).mono ?_
  · refine (HCL.out s2 out w2 h.1 h.2.2.1 h.2.2.2.1 h.2.1 (by have := h.2.2.2.2.2; omega)).mono ?_
    rintro r w3 ⟨hre, hli⟩
    have hlen := (HOK.out s2).len
    have hg := HGO.out s2 he
    have h5 := h.2.2.2.2.1 he
    refine ⟨hre, hli, by rw [HDP.out]; exact h.2.1, Nat.le_trans hlen h.2.2.1, ?_, fun he2 => ?_, by rw [List.length_append]; simp; omega⟩
    · rcases h.2.2.2.1 with hx | hx
      · exact absurd he hx
      · right; omega
    · rcases hg with hx | hx
      · exact absurd he2 hx
      · rw [List.length_append]
        simp
        omega
  · refine (HCL.out s1 [] w1 HL1.out hle1 HC1.out HD1.out (by simp)).mono ?_
    rintro r w3 ⟨hre, hli⟩
    have hlen := (HOK.out s1).len
    refine ⟨hre, hli, by rw [HDP.out]; exact HD1.out, by omega, ?_, fun _ => by simp; omega, by simp⟩
    rcases HC1.out with hx | hx
    · left; rw [(HOK.out s1).err hx]; exact hx
    · right; omega
  rintro r w5 ⟨rfl, hL⟩
  obtain ⟨L, hLL⟩ : ∃ x, x = Rd.loop1 Rd.rbrc (Qr.sel (n + 1) (kk + 1)) (s1.rest.length + 1) s1 := ⟨_, rfl⟩
  rw [← hLL] at hL
  have HLL := Lib.hid hLL
  have HL := Lib.hid hL
  have hdl := hL.2.1
  clear k2 hLL hL
  have k2 : w5.cell? ⟨w.heap.size, 0, none⟩ = some (.pointer (some ⟨b, 0, none⟩)) := HL.out.1.cellx (T := 75) (by simp [sbx])
  have hdr : -1000000 ≤ L.1.deep ∧ L.1.deep ≤ 1000000 := by omega
  have HDR := Lib.hid hdr
  clear hdl hdr
  go_wp2_with fail
  refine (rup_any b g L.1 Rd.rbrc w5 HL.out.1.rd HDR.out).mono ?_
  rintro r w6 ⟨rfl, h6, f6⟩
  have HL6 := Lib.hid (HL.out.1.step h6 f6)
  obtain ⟨v, hv, hg⟩ := HL6.out.ex
  obtain ⟨va, vc, rfl⟩ := hg.form
  have k3 := blk_cell hv 0 (.slice va (L.2.map Qr.Sel.d).length vc) rfl
  have HG := Lib.hid hg
  clear hv hg h6 f6 k2
  go_wp2_with fail
  go_ret
  rw [HOUT.out, ← HLL.out]
  refine ⟨va, vc, by simp, ?_, HL6.out.rd, HL6.out.fr⟩
  exact HG.out.reads.to (Stands.sub w6 (fun x _ hp => by
    rcases hp with hp | hp
    · have := hp.1; show w.heap.size ≤ x; omega
    · have := Nat.le_trans (LB_t6 _ _) (HG.out.lt x hp).1; show w.heap.size ≤ x; omega))
end Go.Proofs.YtabcaljnpahgpaaDoor
namespace Go.Proofs.YtabcaljnpahgpaaDoor
set_option linter.unusedSimpArgs false
set_option linter.unusedVariables false
open Go Go.RowKit

/-- A block that is filled, and what its fields hold, in blocks from lo on. -/
structure FJ (w0 : World) (b g t6 lo : Nat) (bx : List Box) (T6 : TypeId) (ds : List D) (cs : List Value) (s : Rd.St) (w : World) : Prop where
  rd : RdAt w b g s
  cb : ∀ p ∈ bx, w.heap[p.1]? = some p.2
  b6 : w.heap[t6]? = some (.cells cs.toArray T6 (0, 0))
  fr : Fr b w0 w
  lb : b < w0.heap.size
  lg : g < w0.heap.size
  lx : ∀ p ∈ bx, w0.heap.size ≤ p.1 ∧ p.1 < lo ∧ p.1 ≠ t6
  l6 : w0.heap.size ≤ t6 ∧ t6 < lo
  hi : lo ≤ w.heap.size
  rr : ReadsR w (fun x => lo ≤ x) ds cs
section
variable {w0 w w' : World} {b g t6 lo : Nat} {bx : List Box} {T6 : TypeId} {ds : List D} {cs : List Value} {s s' : Rd.St}
theorem FJ.step (h : FJ w0 b g t6 lo bx T6 ds cs s w) (hr : RdAt w' b g s') (hf : Fr b w w') : FJ w0 b g t6 lo bx T6 ds cs s' w' := by
  have lb := h.lb
  have l6 := h.l6
  refine ⟨hr, fun p hp => ?_, ?_, h.fr.trans hf, lb, h.lg, h.lx, l6, Nat.le_trans h.hi hf.size, h.rr.to ⟨hf.size, fun x hx hp => ⟨hp, hf.block x hx (by have h3 : lo ≤ x := hp; omega)⟩⟩⟩
  · have hp1 := h.cb p hp
    have hp2 := h.lx p hp
    rw [hf.block p.1 (block_lt hp1) (by omega)]
    exact hp1
  · rw [hf.block t6 (block_lt h.b6) (by omega)]
    exact h.b6
theorem FJ.below (h : FJ w0 b g t6 lo bx T6 ds cs s w) (hb : Below w.heap.size w w') : FJ w0 b g t6 lo bx T6 ds cs s w' := h.step (h.rd.below hb) (But.of_below hb)
theorem FJ.put (h : FJ w0 b g t6 lo bx T6 ds cs s w) (j : Nat) {d : D} {v : Value} (hv : Reads w (fun x => lo ≤ x) d [v]) (ho : ds.all D.one = true) : FJ w0 b g t6 lo bx T6 (ds.set j d) (cs.set j v) s (w.setCell ⟨t6, j, none⟩ v) := by
  have lb := h.lb
  have lg := h.lg
  have l6 := h.l6
  refine ⟨h.rd.set_ne (by omega) (by omega) _ _, fun p hp => ?_, ?_, h.fr.setCell (.inr l6.1) v, lb, lg, h.lx, l6, by rw [size_set]; exact h.hi, (h.rr.set hv j ho).to ⟨by rw [size_set]; exact Nat.le_refl _, fun x hx hp => ⟨hp, heap_set_ne (by have h3 : lo ≤ x := hp; omega)⟩⟩⟩
  · have hp2 := h.lx p hp
    rw [heap_set_ne (by omega)]
    exact h.cb p hp
  · have := heap_set1 (k := j) (v := v) h.b6
    rwa [List.setIfInBounds_toArray] at this
/-- A callee's data. -/
theorem FJ.data (h : FJ w0 b g t6 lo bx T6 ds cs s w) {d : D} {us : List Value} (hd : Reads w' (fun x => w.heap.size ≤ x) d us) : Reads w' (fun x => lo ≤ x) d us :=
  hd.to (Stands.sub w' (fun x _ hp => Nat.le_trans h.hi hp))
theorem FJ.fin {r : Nat} {o : Obj} (h : FJ w0 b g t6 lo bx T6 ds cs s w) (hr : (r, o) ∈ bx) :
    Reads (putCells w r 0 cs) (fun x => w0.heap.size ≤ x) (.obj ds) cs ∧ RdAt (putCells w r 0 cs) b g s ∧ Fr b w0 (putCells w r 0 cs) := by
  have lb := h.lb
  have lg := h.lg
  have l6 := h.l6
  have hr2 := h.lx _ hr
  simp only at hr2
  have hk : ∀ x, x ≠ r → (putCells w r 0 cs).heap[x]? = w.heap[x]? := fun x h1 => putCells_ne _ _ h1 _ _ _
  have hsz := putCells_size r cs 0 w
  have ho := putCells_os r cs 0 w
  refine ⟨(Reads.obj h.rr).to ⟨by rw [hsz]; exact Nat.le_refl _, fun x hx hp => ⟨by have h3 : lo ≤ x := hp; show w0.heap.size ≤ x; omega, hk x (by have h3 : lo ≤ x := hp; omega)⟩⟩, h.rd.to (by rw [hsz]; exact Nat.le_refl _) (hk b (by omega)) (hk g (by omega)), ⟨ho.1.trans h.fr.os, ho.2.1.trans h.fr.tape, ho.2.2.trans h.fr.output, by rw [hsz]; exact h.fr.size, fun x hx hxb => by
    rw [hk x (by omega)]
    exact h.fr.block x hx hxb⟩⟩
end
end Go.Proofs.YtabcaljnpahgpaaDoor
