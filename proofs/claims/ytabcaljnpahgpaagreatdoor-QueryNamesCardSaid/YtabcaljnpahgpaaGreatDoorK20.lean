/-
  Documents as data in memory; a block that is filled field by field, its data beside it. The reader of documents: directives, but, walked. The reader of documents: variable, walked.
-/
import Derived.Test.YtabcaljnpahgpaaGreatDoorK2
import Derived.Test.YtabcaljnpahgpaaGreatDoorK15
import Derived.Test.YtabcaljnpahgpaaGreatDoorK14
namespace Go.Proofs.YtabcaljnpahgpaaGreatDoor
set_option linter.unusedSimpArgs false
set_option linter.unusedVariables false
open Go Go.RowKit
namespace Qr
def Dir.d (x : Dir) : D := .obj [.str x.name, .seq 7 (x.args.map Rd.A.d), .int x.at_]
mutual
def Sel.d : Sel → D
  | .mk k al nm ar ds ss a => .obj [.int k, .str al, .str nm, .seq 7 (ar.map Rd.A.d), .seq 3 (ds.map Dir.d), .seq 7 (Sel.dl ss), .int a]
def Sel.dl : List Sel → List D
  | [] => []
  | x :: r => Sel.d x :: Sel.dl r
end
theorem Sel.dl_map : ∀ l : List Sel, Sel.dl l = l.map Sel.d
  | [] => by rw [Sel.dl]; rfl
  | x :: r => by rw [Sel.dl, Sel.dl_map r]; rfl
def Vd.d (x : Vd) : D := .obj [.str x.name, .str x.type, .bool x.has, x.dflt.d, .int x.at_]
def Op.d (x : Op) : D := .obj [.int x.kind, .str x.name, .seq 9 (x.vars.map Vd.d), .seq 3 (x.dirs.map Dir.d), .seq 7 (x.sels.map Sel.d), .int x.at_]
def Fr.d (x : Fr) : D := .obj [.str x.name, .str x.on, .seq 3 (x.dirs.map Dir.d), .seq 7 (x.sels.map Sel.d), .int x.at_]
end Qr

/-- A field of one cell. -/
def D.one : D → Bool
  | .obj _ => false
  | _ => true
theorem Reads.one_cell {w : World} {P : Nat → Prop} {d : D} {cs : List Value} (h : Reads w P d cs) (hd : d.one = true) : ∃ v, cs = [v] := by
  cases h with
  | int n => exact ⟨_, rfl⟩
  | str s => exact ⟨_, rfl⟩
  | bool b => exact ⟨_, rfl⟩
  | obj h => cases hd
  | seq h => exact ⟨_, rfl⟩
theorem ReadsR.set {w : World} {P : Nat → Prop} {d : D} {v : Value} (hv : Reads w P d [v]) : ∀ {ds : List D} {cs : List Value} (j : Nat), ReadsR w P ds cs → ds.all D.one = true → ReadsR w P (ds.set j d) (cs.set j v)
  | [], _, j, .nil, _ => by cases j <;> exact .nil
  | x :: ds, _, 0, .cons h t, ho => by
    rw [List.all_cons, Bool.and_eq_true] at ho
    obtain ⟨u, rfl⟩ := h.one_cell ho.1
    exact .cons hv t
  | x :: ds, _, j + 1, .cons h t, ho => by
    rw [List.all_cons, Bool.and_eq_true] at ho
    obtain ⟨u, rfl⟩ := h.one_cell ho.1
    exact .cons h (ReadsR.set hv j t ho.2)

/-- A block that is filled, and what its fields hold. -/
structure FI (w0 : World) (b g t6 : Nat) (bx : List Box) (T6 : TypeId) (ds : List D) (cs : List Value) (s : Rd.St) (w : World) : Prop where
  bi : BI w0 b g t6 bx T6 cs.toArray s w
  rr : ReadsR w (fun x => t6 < x) ds cs
section
variable {w0 w w' : World} {b g t6 : Nat} {bx : List Box} {T6 : TypeId} {ds : List D} {cs : List Value} {s s' : Rd.St}
theorem FI.rd (h : FI w0 b g t6 bx T6 ds cs s w) : RdAt w b g s := h.bi.rd
theorem FI.step (h : FI w0 b g t6 bx T6 ds cs s w) (hr : RdAt w' b g s') (hf : Fr b w w') : FI w0 b g t6 bx T6 ds cs s' w' :=
  ⟨h.bi.step hr hf, h.rr.to ⟨hf.size, fun x hx hp => ⟨hp, hf.block x hx (by have h1 := h.bi.l6; have h2 := h.bi.lb; have h3 : t6 < x := hp; omega)⟩⟩⟩
theorem FI.below (h : FI w0 b g t6 bx T6 ds cs s w) (hb : Below w.heap.size w w') : FI w0 b g t6 bx T6 ds cs s w' := h.step (h.rd.below hb) (But.of_below hb)
theorem FI.put (h : FI w0 b g t6 bx T6 ds cs s w) (j : Nat) {d : D} {v : Value} (hv : Reads w (fun x => t6 < x) d [v]) (ho : ds.all D.one = true) : FI w0 b g t6 bx T6 (ds.set j d) (cs.set j v) s (w.setCell ⟨t6, j, none⟩ v) := by
  refine ⟨?_, (h.rr.set hv j ho).to ⟨by rw [size_set]; exact Nat.le_refl _, fun x hx hp => ⟨hp, heap_set_ne (by have h3 : t6 < x := hp; omega)⟩⟩⟩
  have := h.bi.put j v
  rwa [List.setIfInBounds_toArray] at this
/-- A callee's data. -/
theorem FI.data (h : FI w0 b g t6 bx T6 ds cs s w) {d : D} {us : List Value} (hd : Reads w' (fun x => w.heap.size ≤ x) d us) : Reads w' (fun x => t6 < x) d us :=
  hd.to (Stands.sub w' (fun x _ hp => by have h1 := block_lt h.bi.b6; have h2 : w.heap.size ≤ x := hp; show t6 < x; omega))
theorem FI.fin {r : Nat} {o : Obj} (h : FI w0 b g t6 bx T6 ds cs s w) (hr : (r, o) ∈ bx) :
    Reads (putCells w r 0 cs) (fun x => w0.heap.size ≤ x) (.obj ds) cs ∧ RdAt (putCells w r 0 cs) b g s ∧ Fr b w0 (putCells w r 0 cs) :=
  h.bi.fin hr (.obj h.rr) (fun x hx => hx)
/-- The start: the result's block, what was done, and the new block. -/
theorem FI.start {w1 w2 : World} {T : TypeId} {zs : Array Value} (hr : RdAt w2 b g s) (hf : Fr b (w.alloc (.cells zs T)) w2) (hl : b < w.heap.size ∧ g < w.heap.size) (hw : w1 = w2.alloc (.cells cs.toArray T6)) (hd : ReadsR w1 (fun x => w2.heap.size < x) ds cs) :
    FI w b g w2.heap.size [(w.heap.size, .cells zs T (0, 0))] T6 ds cs s w1 := by
  have h1 := hf.size
  have h2 : (w.alloc (.cells zs T)).heap.size = w.heap.size + 1 := by simp
  have hbb : Below w2.heap.size w2 w1 := by rw [hw]; exact (Below.refl _ _).alloc (Nat.le_refl _) _
  refine ⟨⟨hr.below hbb, fun p hp => ?_, by rw [hw]; exact heap_at_new _ _, ((But.of_below ((Below.refl _ _).alloc (Nat.le_refl _) _)).trans hf).trans (But.of_below hbb), hl.1, hl.2, fun p hp => ?_, by omega⟩, hd⟩
  · rw [List.mem_singleton.1 hp]
    show w1.heap[w.heap.size]? = _
    rw [hbb.block w.heap.size (by omega), hf.block w.heap.size (by omega) (by omega)]
    exact heap_at_new _ _
  · rw [List.mem_singleton.1 hp]
    show w.heap.size ≤ w.heap.size ∧ w.heap.size < w2.heap.size
    omega
end
end Go.Proofs.YtabcaljnpahgpaaGreatDoor
namespace Go.Proofs.YtabcaljnpahgpaaGreatDoor
set_option linter.unusedSimpArgs false
set_option linter.unusedVariables false
open Go Go.RowKit

theorem infoDir : (Tryz.prog.info? 146).map (fun i => (i.zero, i.size, i.bytes)) = some (some (.agg #[.string ⟨#[]⟩, .slice none 0 0, .int .i64 0]), 3, 48) := by kernel_rfl
theorem txts_one (w : World) (c : List UInt8) (v : ByteArray) (T : TypeId) (hv : v = ⟨c.toArray⟩) : Txts (w.alloc (.cells #[.string v] T)) (.slice (some ⟨w.heap.size, 0, none⟩) 1 1) [c] := by
  subst hv
  exact txts_lit w [c] #[.string ⟨c.toArray⟩] T rfl
set_option maxHeartbeats 1000000 in
set_option maxRecDepth 100000 in
theorem dirs_any (b g n : Nat) (hnb : n ≤ 1600) (s : Rd.St) (w : World) (h : RdAt w b g s) (hn : s.rest.length ≤ n) (hd : 0 ≤ s.deep ∧ s.deep + n ≤ 900000) :
    Calls Tryz.prog 115 #[.pointer (some ⟨b, 0, none⟩)] w (GotL b g w 3 ((Qr.dirs (n + 1) s).2.map Qr.Dir.d) (Qr.dirs (n + 1) s).1) := by
  obtain ⟨i0, hi, hz0, hz1, hz2⟩ := info_parts infoDir
  have H := Lib.hid h
  have HL := Lib.hid h.rest_len
  obtain ⟨d0, d1⟩ := hd
  clear h
  go_enter Tryz.func115, Tryz.ntmps115
  go_wp2_with fail
  go_loopg [3] (s.rest.length + 2) (fun k s3 wr => ∃ (m : Nat) (sr : Rd.St) (out : List Qr.Dir), k = m + 1 ∧ sr.rest.length < m ∧ out.length + sr.rest.length ≤ 1502 ∧ sr.rest.length ≤ n ∧ sr.deep = s.deep ∧ GI w b g 146 3 sr s3 (out.map Qr.Dir.d) wr ∧ Qr.dirsGo (n + 1) m sr out = Qr.dirs (n + 1) s)
  case atStart => exact ⟨s.rest.length + 1, s, [], rfl, by omega, by have := HL.out; simp; omega, hn, rfl, GI.nil H.out _ _, rfl⟩
  case round =>
    obtain ⟨m, sr, out, rfl, hm, hol, hrn, hdp, hG, hgo⟩ := hrel
    obtain ⟨va, vc, hv⟩ := hG.row.form
    rw [List.length_map] at hv
    subst hv
    have HG := Lib.hid hG
    have HGO := Lib.hid hgo
    have HDP := Lib.hid hdp
    have hbA : Below wr.heap.size wr (wr.alloc (.cells #[.string ⟨#[64]⟩] 9)) := (Below.refl _ _).alloc (Nat.le_refl _) _
    have HBA := Lib.hid hbA
    clear hG hgo hdp hbA
    go_wp2_with fail
    refine (ris_any b g sr _ [Qr.sAt] _ (HG.out.rd.below HBA.out) (txts_one wr Qr.sAt _ _ rfl) (by simp)).mono ?_
    rintro r w2 ⟨rfl, hb2⟩
    rw [show ([Qr.sAt].any (Rd.isS sr)) = Rd.isS sr Qr.sAt by simp]
    have HF2 := Lib.hid (But.of_below (X := fun k => k = b) (HBA.out.trans (hb2.mono HBA.out.size)))
    have HR2 := Lib.hid (HG.out.rd.below (HBA.out.trans (hb2.mono HBA.out.size)))
    obtain ⟨B, hB⟩ : ∃ B, B = Rd.isS sr Qr.sAt := ⟨_, rfl⟩
    have HB := Lib.hid hB
    rw [← hB]
    obtain ⟨m', rfl⟩ : ∃ m', m = m' + 1 := ⟨m - 1, by omega⟩
    clear hB hb2
    cases B
    · have HE : Hid (Qr.dirs (n + 1) s = (sr, out)) := by
        rw [← HGO.out, Qr.dirsGo, if_neg (by rw [← HB.out]; simp)]
        exact Lib.hid rfl
      go_wp2_with fail
      go_ret
      rw [HE.out]
      have hg2 := HG.out.step HR2.out HF2.out
      exact ⟨va, vc, by rw [List.length_map]; rfl, by rw [List.length_map]; exact hg2.reads, HR2.out, hg2.fr⟩
    · have HNX := Lib.hid (Rd.next_sign HB.out.symm)
      have HST : Hid (Qr.dirsGo (n + 1) m' (Qr.dir (n + 1) sr).1 (out ++ [(Qr.dir (n + 1) sr).2]) = Qr.dirs (n + 1) s) := by
        rw [← HGO.out, Qr.dirsGo, if_pos HB.out.symm]
        exact Lib.hid rfl
      go_wp2_with fail
      refine (rnext_any b g sr w2 HR2.out).mono ?_
      rintro r w3 ⟨rfl, h3, f3⟩
      obtain ⟨pa, hpa⟩ : ∃ x, x = (Rd.peek sr).at_ := ⟨_, rfl⟩
      rw [← hpa]
      have HPA := Lib.hid hpa
      obtain ⟨s3, hs3⟩ : ∃ x, x = Rd.next sr := ⟨_, rfl⟩
      rw [← hs3] at h3
      have HS3 := Lib.hid hs3
      have HF0 : Hid (FI wr b g w3.heap.size [] 146 [.str [], .seq 7 [], .int pa] [.string ⟨#[]⟩, .slice none 0 0, .int .i64 pa] s3 (w3.alloc (.cells #[.string ⟨#[]⟩, .slice none 0 0, .int .i64 pa] 146))) := by
        have hbb : Below w3.heap.size w3 (w3.alloc (.cells #[.string ⟨#[]⟩, .slice none 0 0, .int .i64 pa] 146)) := (Below.refl _ _).alloc (Nat.le_refl _) _
        have h1 := HF2.out.size
        have h2 := f3.size
        exact Lib.hid ⟨⟨h3.below hbb, fun p hp => absurd hp (by simp), heap_at_new _ _, (HF2.out.trans f3).trans (But.of_below hbb), HG.out.rd.lt.1, HG.out.rd.lt.2, fun p hp => absurd hp (by simp), by omega⟩, .cons (.str []) (.cons (.seq (cap := 0) .nil) (.cons (.int _) .nil))⟩
      obtain ⟨t6, ht6⟩ : ∃ x, x = w3.heap.size := ⟨_, rfl⟩
      clear h3 f3 hpa hs3
      go_wp2_with fail
      refine (rname_any b g s3 _ HF0.out.rd).mono ?_
      rintro r w4 ⟨rfl, h4, f4⟩
      have hF1 := HF0.out.step h4 f4
      rw [← ht6] at hF1 ⊢
      clear ht6
      obtain ⟨s4, hs4⟩ : ∃ x, x = (Rd.name s3).1 := ⟨_, rfl⟩
      obtain ⟨nm, hnm⟩ : ∃ x, x = (Rd.name s3).2 := ⟨_, rfl⟩
      rw [← hs4] at hF1
      rw [← hnm]
      have HF1 := Lib.hid hF1
      have HS4 := Lib.hid hs4
      have HNM := Lib.hid hnm
      have HF2' := Lib.hid (hF1.put 0 (.str nm) rfl)
      clear h4 f4 hF1 hs4 hnm
      have y0 := blk_cell HF1.out.bi.b6 0 (.string ⟨#[]⟩) rfl
      have yf0 := blk_free HF1.out.bi.b6 0
      have HOK4 : Hid (Rd.Ok sr s4) := by rw [HS4.out, HS3.out]; exact Lib.hid ((Rd.ok_next sr).trans (Rd.ok_name _))
      have HDP4 : Hid (s4.deep = s.deep) := by rw [HS4.out, Rd.name_deep, HS3.out, Rd.next_deep]; exact HDP
      go_wp2_with fail
      refine (rargs_any b g false n hnb s4 _ HF2'.out.rd (Nat.le_trans HOK4.out.len hrn) (by rw [HDP4.out]; omega)).mono ?_
      rintro r w5 ⟨a5, c5, rfl, hrd, h5, f5⟩
      obtain ⟨q, hq⟩ : ∃ x, x = Rd.args false (n + 1) s4 := ⟨_, rfl⟩
      rw [← hq] at hrd h5 ⊢
      have HQ := Lib.hid hq
      have HDA := Lib.hid (HF2'.out.data hrd)
      have HF3 := Lib.hid (HF2'.out.step h5 f5)
      have HF4 := Lib.hid (HF3.out.put 1 HDA.out rfl)
      clear hrd h5 f5 hq y0 yf0
      obtain ⟨ln, hln⟩ : ∃ x, x = q.2.length := ⟨_, rfl⟩
      rw [List.length_map, ← hln] at HDA HF4 ⊢
      clear hln
      have y0 := blk_cell HF3.out.bi.b6 0 (.string ⟨nm.toArray⟩) rfl
      have y1 := blk_cell HF3.out.bi.b6 1 (.slice none 0 0) rfl
      have yf1 := blk_free HF3.out.bi.b6 1
      have y2 := blk_cell HF3.out.bi.b6 2 (.int .i64 pa) rfl
      have HRW := Lib.hid (show ReadsR (w5.setCell ⟨t6, 1, none⟩ (.slice a5 ln c5)) (fun x => t6 < x) [.str nm, .seq 7 (q.2.map Rd.A.d), .int pa] [.string ⟨nm.toArray⟩, .slice a5 ln c5, .int .i64 pa] from HF4.out.rr)
      have hsz6 := HF4.out.bi.l6
      obtain ⟨W, hW⟩ : ∃ x, x = (w5.setCell ⟨t6, 1, none⟩ (.slice a5 ln c5)).alloc (.cells #[.string ⟨nm.toArray⟩, .slice a5 ln c5, .int .i64 pa] 146) := ⟨_, rfl⟩
      have hWB : Below (w5.setCell ⟨t6, 1, none⟩ (.slice a5 ln c5)).heap.size (w5.setCell ⟨t6, 1, none⟩ (.slice a5 ln c5)) W := by rw [hW]; exact (Below.refl _ _).alloc (Nat.le_refl _) _
      have hfw := HF4.out.below hWB
      have hN6 := HG.out.step hfw.rd hfw.bi.fr
      obtain ⟨⟨xs, hx, hRo⟩, hap⟩ := hN6.row
      rw [List.length_map] at hx
      have HN6 := Lib.hid hN6
      have HX := Lib.hid hx
      have HRO := Lib.hid hRo
      have HDD : Hid (Reads W (fun x => w.heap.size ≤ x ∧ (Value.slice va out.length vc).ownBlock ≠ some x) (Qr.Dir.d ⟨nm, q.2, pa⟩) [.string ⟨nm.toArray⟩, .slice a5 ln c5, .int .i64 pa]) := by
        refine Lib.hid (HG.out.data ((Reads.obj HRW.out).to ?_))
        exact ⟨hWB.size, fun x hx2 hp => ⟨by have h3 : t6 < x := hp; show wr.heap.size ≤ x; omega, hWB.block x hx2⟩⟩
      have HONE := Lib.hid (ReadsR.one HRW.out)
      have HLIT : Hid (∀ j u, ([.string ⟨nm.toArray⟩, .slice a5 ln c5, .int .i64 pa] : List Value)[j]? = some u → W.cell? ((⟨w5.heap.size, 0, none⟩ : Addr).add j) = some u) := by
        have := lit_cells (w := W) (L := w5.heap.size) (fz := (0, 0)) (T := 146) (zs := [.string ⟨nm.toArray⟩, .slice a5 ln c5, .int .i64 pa]) (by rw [hW]; have h9 := heap_at_new (w5.setCell ⟨t6, 1, none⟩ (.slice a5 ln c5)) (.cells #[.string ⟨nm.toArray⟩, .slice a5 ln c5, .int .i64 pa] 146); rw [size_set] at h9; exact h9)
        exact Lib.hid this
      have hbase : w.heap.size ≤ W.heap.size := hN6.fr.size
      clear hWB hfw hN6 hx hRo hap HL
      subst hW
      go_wp2_with (first | (at_builtin; refine wpList_append_own_at _ rfl _ _ 46 rfl w.heap.size 146 i0 _ 3 48 Tryz.underlying46 hi hz0 hz1 hz2 rfl (by decide) (.slice va out.length vc) out.length xs rfl HX.out ⟨w5.heap.size, 0, none⟩ 1 1 [.string ⟨nm.toArray⟩, .slice a5 ln c5, .int .i64 pa] rfl rfl HLIT.out HONE.out (by unfold maxLen; omega) (by omega) hbase ?_; intro v' w8 hrow8 hg8 hnil8 hloc8; clear hnil8; have HROW := Lib.hid hrow8; have HG8 := Lib.hid hg8; have HL8 := Lib.hid hloc8; clear hrow8 hg8 hloc8) | fail)
      go_roundg (m' + 1)
      case measure => omega
      case rel =>
        have hE : Qr.dir (n + 1) sr = (q.1, ⟨nm, q.2, pa⟩) := by unfold Qr.dir; dsimp only; rw [← HS3.out, ← HNM.out, ← HS4.out, ← HQ.out, ← HPA.out]
        have h1 := HNX.out.1
        have h2 := (Qr.ok_dir (n + 1) sr).len
        have h3 := (Qr.dir_deep (n + 1) sr)
        have h4 := HST.out
        have hsn : (Rd.next sr).rest.length < sr.rest.length := h1
        have h5 : (Qr.dir (n + 1) sr).1.rest.length ≤ (Rd.next sr).rest.length := ((Rd.ok_name (Rd.next sr)).trans (Rd.ok_args false (n + 1) _)).len
        rw [hE] at h2 h3 h4 h5
        refine ⟨m', q.1, out ++ [⟨nm, q.2, pa⟩], rfl, by simp only at h5; omega, by rw [List.length_append]; simp only [List.length_singleton] at h5 ⊢; omega, by simp only at h5; omega, by rw [← HDP.out]; exact h3, ?_, h4⟩
        rw [List.map_append]
        exact HN6.out.more (by rw [List.length_map]; exact HX.out) HRO.out HDD.out rfl HG8.out HL8.out (by rw [List.length_map]; exact HROW.out)

set_option maxHeartbeats 1000000 in
set_option maxRecDepth 100000 in
theorem but_any (b g : Nat) (s : Rd.St) (w : World) (h : RdAt w b g s) :
    Calls Tryz.prog 114 #[.pointer (some ⟨b, 0, none⟩)] w fun r w' => r = .returned (.string ⟨(Qr.but s).2.toArray⟩) ∧ RdAt w' b g (Qr.but s).1 ∧ Fr b w w' := by
  have H := Lib.hid h
  have hb3 : Below w.heap.size w (w.alloc (.cells #[.string ⟨#[111, 110]⟩] 9)) := (Below.refl _ _).alloc (Nat.le_refl _) _
  have HB3 := Lib.hid hb3
  clear hb3 h
  go_enter Tryz.func114, Tryz.ntmps114
  go_wp2_with fail
  refine (rword_any b g s _ [Qr.sOn] _ (H.out.below HB3.out) (txts_one w Qr.sOn _ _ rfl) (by simp)).mono ?_
  rintro r w2 ⟨rfl, hb2⟩
  have HB2 := Lib.hid (HB3.out.trans (hb2.mono HB3.out.size))
  have H2 := Lib.hid (H.out.below HB2.out)
  obtain ⟨B, hB⟩ : ∃ B, B = Rd.isW s [Qr.sOn] := ⟨_, rfl⟩
  have HB := Lib.hid hB
  rw [← hB]
  clear hB hb2
  cases B
  · have HE : Hid (Qr.but s = Rd.name s) := by unfold Qr.but; rw [if_neg (by rw [← HB.out]; simp)]; exact Lib.hid rfl
    go_wp2_with fail
    refine (rname_any b g _ w2 H2.out).mono ?_
    rintro r w3 ⟨rfl, h3, f3⟩
    have H3 := Lib.hid h3
    have F3 := Lib.hid f3
    clear h3 f3
    go_wp2_with fail
    go_ret
    rw [HE.out]
    exact ⟨rfl, H3.out, (But.of_below HB2.out).trans F3.out⟩
  · have HE : Hid (Qr.but s = Rd.name (Rd.wrong s)) := by unfold Qr.but; rw [if_pos HB.out.symm]; exact Lib.hid rfl
    go_wp2_with fail
    refine (rwrong_any b g _ w2 H2.out).mono ?_
    rintro r w4 ⟨rfl, h4, f4⟩
    have H4 := Lib.hid h4
    have F4 := Lib.hid f4
    clear h4 f4
    go_wp2_with fail
    refine (rname_any b g _ w4 H4.out).mono ?_
    rintro r w3 ⟨rfl, h3, f3⟩
    have H3 := Lib.hid h3
    have F3 := Lib.hid f3
    clear h3 f3
    go_wp2_with fail
    go_ret
    rw [HE.out]
    exact ⟨rfl, H3.out, ((But.of_below HB2.out).trans F4.out).trans F3.out⟩
end Go.Proofs.YtabcaljnpahgpaaGreatDoor
namespace Go.Proofs.YtabcaljnpahgpaaGreatDoor
set_option linter.unusedSimpArgs false
set_option linter.unusedVariables false
open Go Go.RowKit

set_option maxHeartbeats 2000000 in
set_option maxRecDepth 100000 in
theorem variable_any (b g : Nat) (n : Nat) (hnb : n ≤ 1600) (s : Rd.St) (w : World) (h : RdAt w b g s) (hn : s.err ≠ 0 ∨ s.rest.length ≤ n) (hd : 0 ≤ s.deep ∧ s.deep + n ≤ 900000) :
    Calls Tryz.prog 118 #[.pointer (some ⟨b, 0, none⟩)] w (Got b g w (Qr.variable_ (n + 1) s).2.d (Qr.variable_ (n + 1) s).1) := by
  have hlb := h.lt
  have H := Lib.hid h
  have HN := Lib.hid hn
  obtain ⟨d0, d1⟩ := hd
  have hba : Below w.heap.size w (w.alloc (.cells #[.string ⟨#[]⟩, .string ⟨#[]⟩, .bool false, .int .i64 0, .string ⟨#[]⟩, .slice none 0 0, .slice none 0 0, .int .i64 0, .int .i64 0] 97)) := (Below.refl _ _).alloc (Nat.le_refl _) _
  have HBA := Lib.hid hba
  clear h hn hba
  go_enter Tryz.func118, Tryz.ntmps118
  go_wp2_with fail
  refine (rpeek_any b g s _ (H.out.below HBA.out)).mono ?_
  rintro r w2 ⟨rfl, hb2⟩
  obtain ⟨pa, hpa⟩ : ∃ x, x = (Rd.peek s).at_ := ⟨_, rfl⟩
  rw [← hpa]
  have HPA := Lib.hid hpa
  have hBI : BI w b g w2.heap.size [(w.heap.size, .cells #[.string ⟨#[]⟩, .string ⟨#[]⟩, .bool false, .int .i64 0, .string ⟨#[]⟩, .slice none 0 0, .slice none 0 0, .int .i64 0, .int .i64 0] 97 (0, 0))] 97 #[.string ⟨#[]⟩, .string ⟨#[]⟩, .bool false, .int .i64 0, .string ⟨#[]⟩, .slice none 0 0, .slice none 0 0, .int .i64 0, .int .i64 pa] s (w2.alloc (.cells #[.string ⟨#[]⟩, .string ⟨#[]⟩, .bool false, .int .i64 0, .string ⟨#[]⟩, .slice none 0 0, .slice none 0 0, .int .i64 0, .int .i64 pa] 97)) := by
    have hsz : (w.alloc (.cells #[.string ⟨#[]⟩, .string ⟨#[]⟩, .bool false, .int .i64 0, .string ⟨#[]⟩, .slice none 0 0, .slice none 0 0, .int .i64 0, .int .i64 0] 97)).heap.size = w.heap.size + 1 := by simp
    have hs2 := hb2.size
    have hbb : Below w2.heap.size w2 (w2.alloc (.cells #[.string ⟨#[]⟩, .string ⟨#[]⟩, .bool false, .int .i64 0, .string ⟨#[]⟩, .slice none 0 0, .slice none 0 0, .int .i64 0, .int .i64 pa] 97)) := (Below.refl _ _).alloc (Nat.le_refl _) _
    refine ⟨((H.out.below HBA.out).below hb2).below hbb, fun p hp => ?_, heap_at_new _ _, ((But.of_below HBA.out).trans (But.of_below hb2)).trans (But.of_below hbb), hlb.1, hlb.2, fun p hp => ?_, by omega⟩
    · simp only [List.mem_singleton] at hp
      subst hp
      show (w2.alloc _).heap[w.heap.size]? = _
      rw [hbb.block w.heap.size (by omega), hb2.block w.heap.size (by omega)]
      exact heap_at_new _ _
    · simp only [List.mem_singleton] at hp
      subst hp
      simp only
      omega
  have HBa := Lib.hid hBI
  obtain ⟨t6, ht6⟩ : ∃ x, x = w2.heap.size := ⟨_, rfl⟩
  have HT6 := Lib.hid ht6
  clear hb2 hBI hpa
  go_wp2_with fail
  refine (rwant_any b g s Rd.dollar _ HBa.out.rd).mono ?_
  rintro r w1 ⟨rfl, h1, f1⟩
  have hB1 := HBa.out.step h1 f1
  rw [← ht6] at hB1 ⊢
  clear ht6
  obtain ⟨s1, hs1⟩ : ∃ x, x = Rd.want Rd.dollar s := ⟨_, rfl⟩
  rw [← hs1] at hB1
  have HS1 := Lib.hid hs1
  have HB0 := Lib.hid hB1
  have HOK1 : Hid (Rd.Ok s s1) := by rw [HS1.out]; exact Lib.hid (Rd.ok_want _ s)
  have HDP1 : Hid (s1.deep = s.deep) := by rw [HS1.out]; exact Lib.hid (Rd.want_deep _ s)
  clear h1 f1 hB1 hs1
  go_wp2_with fail
  refine (rname_any b g s1 _ HB0.out.rd).mono ?_
  rintro r w3 ⟨rfl, h3, f3⟩
  have hB3 := HB0.out.step h3 f3
  obtain ⟨s3, hs3⟩ : ∃ x, x = (Rd.name s1).1 := ⟨_, rfl⟩
  obtain ⟨nm, hnm⟩ : ∃ x, x = (Rd.name s1).2 := ⟨_, rfl⟩
  rw [← hs3] at hB3
  rw [← hnm]
  have HS3 := Lib.hid hs3
  have HNM := Lib.hid hnm
  have HB3 := Lib.hid hB3
  have l6 := hB3.lx _ (List.mem_singleton.2 rfl)
  simp only at l6
  have n1 : ¬ t6 = w.heap.size := by omega
  have n2 : ¬ w.heap.size = t6 := by omega
  have HOK3 : Hid (Rd.Ok s s3) := by rw [HS3.out]; exact Lib.hid (HOK1.out.trans (Rd.ok_name s1))
  have HDP3 : Hid (s3.deep = s.deep) := by rw [HS3.out, Rd.name_deep, HDP1.out]; exact Lib.hid rfl
  clear h3 f3 hB3 hs3 hnm
  have y0 := blk_cell HB3.out.b6 0 (.string ⟨#[]⟩) rfl
  have yf0 := blk_free HB3.out.b6 0
  have y1 := blk_cell HB3.out.b6 1 (.string ⟨#[]⟩) rfl
  have yf1 := blk_free HB3.out.b6 1
  have y2 := blk_cell HB3.out.b6 2 (.bool false) rfl
  have yf2 := blk_free HB3.out.b6 2
  have y3 := blk_cell HB3.out.b6 3 (.int .i64 0) rfl
  have yf3 := blk_free HB3.out.b6 3
  have y4 := blk_cell HB3.out.b6 4 (.string ⟨#[]⟩) rfl
  have yf4 := blk_free HB3.out.b6 4
  have y5 := blk_cell HB3.out.b6 5 (.slice none 0 0) rfl
  have yf5 := blk_free HB3.out.b6 5
  have y6 := blk_cell HB3.out.b6 6 (.slice none 0 0) rfl
  have yf6 := blk_free HB3.out.b6 6
  have y7 := blk_cell HB3.out.b6 7 (.int .i64 0) rfl
  have yf7 := blk_free HB3.out.b6 7
  have y8 := blk_cell HB3.out.b6 8 (.int .i64 pa) rfl
  have yf8 := blk_free HB3.out.b6 8
  have HB4 := Lib.hid (HB3.out.put 0 (.string ⟨nm.toArray⟩))
  go_wp2_with fail
  refine (rwant_any b g s3 Rd.colon _ HB4.out.rd).mono ?_
  rintro r w5 ⟨rfl, h5, f5⟩
  have HB5 := Lib.hid (HB4.out.step h5 f5)
  obtain ⟨s5, hs5⟩ : ∃ x, x = Rd.want Rd.colon s3 := ⟨_, rfl⟩
  rw [← hs5] at HB5
  have HS5 := Lib.hid hs5
  have HOK5 : Hid (Rd.Ok s s5) := by rw [HS5.out]; exact Lib.hid (HOK3.out.trans (Rd.ok_want _ s3))
  have HDP5 : Hid (s5.deep = s.deep) := by rw [HS5.out, Rd.want_deep, HDP3.out]; exact Lib.hid rfl
  have HN5 : Hid (s5.err ≠ 0 ∨ s5.rest.length ≤ n) := by
    refine Lib.hid ?_
    rcases HN.out with h | h
    · left; rw [HOK5.out.err h]; exact h
    · right; exact Nat.le_trans HOK5.out.len h
  clear h5 f5 hs5
  clear y0 yf0 y1 yf1 y2 yf2 y3 yf3 y4 yf4 y5 yf5 y6 yf6 y7 yf7 y8 yf8
  go_wp2_with fail
  refine (rtype_any b g n s5 w5 HB5.out.rd HN5.out hnb (by rw [HDP5.out]; omega)).mono ?_
  rintro r w6 ⟨rfl, h6, f6⟩
  obtain ⟨s6, hs6⟩ : ∃ x, x = (Rd.type (n + 1) s5).1 := ⟨_, rfl⟩
  obtain ⟨ty, hty⟩ : ∃ x, x = (Rd.type (n + 1) s5).2 := ⟨_, rfl⟩
  have hB6 := HB5.out.step h6 f6
  rw [← hs6] at hB6
  rw [← hty]
  have HS6 := Lib.hid hs6
  have HTY := Lib.hid hty
  have HB6 := Lib.hid hB6
  have HOK6 : Hid (Rd.Ok s s6) := by rw [HS6.out]; exact Lib.hid (HOK5.out.trans (Rd.ok_type _ s5))
  have HDP6 : Hid (s6.deep = s.deep) := by rw [HS6.out, Rd.type_deep, HDP5.out]; exact Lib.hid rfl
  clear h6 f6 hB6 hs6 hty
  have y0 := blk_cell HB6.out.b6 0 (.string ⟨nm.toArray⟩) rfl
  have yf0 := blk_free HB6.out.b6 0
  have y1 := blk_cell HB6.out.b6 1 (.string ⟨#[]⟩) rfl
  have yf1 := blk_free HB6.out.b6 1
  have y2 := blk_cell HB6.out.b6 2 (.bool false) rfl
  have yf2 := blk_free HB6.out.b6 2
  have y3 := blk_cell HB6.out.b6 3 (.int .i64 0) rfl
  have yf3 := blk_free HB6.out.b6 3
  have y4 := blk_cell HB6.out.b6 4 (.string ⟨#[]⟩) rfl
  have yf4 := blk_free HB6.out.b6 4
  have y5 := blk_cell HB6.out.b6 5 (.slice none 0 0) rfl
  have yf5 := blk_free HB6.out.b6 5
  have y6 := blk_cell HB6.out.b6 6 (.slice none 0 0) rfl
  have yf6 := blk_free HB6.out.b6 6
  have y7 := blk_cell HB6.out.b6 7 (.int .i64 0) rfl
  have yf7 := blk_free HB6.out.b6 7
  have y8 := blk_cell HB6.out.b6 8 (.int .i64 pa) rfl
  have yf8 := blk_free HB6.out.b6 8
  have HB7 := Lib.hid (HB6.out.put 1 (.string ⟨ty.toArray⟩))
  go_wp2_with fail
  refine (rtake_any b g s6 Qr.sEq _ HB7.out.rd).mono ?_
  rintro r w8 ⟨rfl, h8, f8⟩
  have HB8 := Lib.hid (HB7.out.step h8 f8)
  obtain ⟨B, hB⟩ : ∃ B, B = Rd.isS s6 Qr.sEq := ⟨_, rfl⟩
  have HB := Lib.hid hB
  rw [← hB]
  have HB9 := Lib.hid (HB8.out.put 2 (.bool B))
  clear h8 f8 hB
  clear y0 yf0 y1 yf1 y2 yf2 y3 yf3 y4 yf4 y5 yf5 y6 yf6 y7 yf7 y8 yf8
  have y0 := blk_cell HB8.out.b6 0 (.string ⟨nm.toArray⟩) rfl
  have yf0 := blk_free HB8.out.b6 0
  have y1 := blk_cell HB8.out.b6 1 (.string ⟨ty.toArray⟩) rfl
  have yf1 := blk_free HB8.out.b6 1
  have y2 := blk_cell HB8.out.b6 2 (.bool false) rfl
  have yf2 := blk_free HB8.out.b6 2
  have y3 := blk_cell HB8.out.b6 3 (.int .i64 0) rfl
  have yf3 := blk_free HB8.out.b6 3
  have y4 := blk_cell HB8.out.b6 4 (.string ⟨#[]⟩) rfl
  have yf4 := blk_free HB8.out.b6 4
  have y5 := blk_cell HB8.out.b6 5 (.slice none 0 0) rfl
  have yf5 := blk_free HB8.out.b6 5
  have y6 := blk_cell HB8.out.b6 6 (.slice none 0 0) rfl
  have yf6 := blk_free HB8.out.b6 6
  have y7 := blk_cell HB8.out.b6 7 (.int .i64 0) rfl
  have yf7 := blk_free HB8.out.b6 7
  have y8 := blk_cell HB8.out.b6 8 (.int .i64 pa) rfl
  have yf8 := blk_free HB8.out.b6 8
  have z0 := blk_cell (HB8.out.cb (w.heap.size, .cells #[.string ⟨#[]⟩, .string ⟨#[]⟩, .bool false, .int .i64 0, .string ⟨#[]⟩, .slice none 0 0, .slice none 0 0, .int .i64 0, .int .i64 0] 97 (0, 0)) (by simp)) 0 (.string ⟨#[]⟩) rfl
  have zf0 := blk_free (HB8.out.cb (w.heap.size, .cells #[.string ⟨#[]⟩, .string ⟨#[]⟩, .bool false, .int .i64 0, .string ⟨#[]⟩, .slice none 0 0, .slice none 0 0, .int .i64 0, .int .i64 0] 97 (0, 0)) (by simp)) 0
  have z1 := blk_cell (HB8.out.cb (w.heap.size, .cells #[.string ⟨#[]⟩, .string ⟨#[]⟩, .bool false, .int .i64 0, .string ⟨#[]⟩, .slice none 0 0, .slice none 0 0, .int .i64 0, .int .i64 0] 97 (0, 0)) (by simp)) 1 (.string ⟨#[]⟩) rfl
  have zf1 := blk_free (HB8.out.cb (w.heap.size, .cells #[.string ⟨#[]⟩, .string ⟨#[]⟩, .bool false, .int .i64 0, .string ⟨#[]⟩, .slice none 0 0, .slice none 0 0, .int .i64 0, .int .i64 0] 97 (0, 0)) (by simp)) 1
  have z2 := blk_cell (HB8.out.cb (w.heap.size, .cells #[.string ⟨#[]⟩, .string ⟨#[]⟩, .bool false, .int .i64 0, .string ⟨#[]⟩, .slice none 0 0, .slice none 0 0, .int .i64 0, .int .i64 0] 97 (0, 0)) (by simp)) 2 (.bool false) rfl
  have zf2 := blk_free (HB8.out.cb (w.heap.size, .cells #[.string ⟨#[]⟩, .string ⟨#[]⟩, .bool false, .int .i64 0, .string ⟨#[]⟩, .slice none 0 0, .slice none 0 0, .int .i64 0, .int .i64 0] 97 (0, 0)) (by simp)) 2
  have z3 := blk_cell (HB8.out.cb (w.heap.size, .cells #[.string ⟨#[]⟩, .string ⟨#[]⟩, .bool false, .int .i64 0, .string ⟨#[]⟩, .slice none 0 0, .slice none 0 0, .int .i64 0, .int .i64 0] 97 (0, 0)) (by simp)) 3 (.int .i64 0) rfl
  have zf3 := blk_free (HB8.out.cb (w.heap.size, .cells #[.string ⟨#[]⟩, .string ⟨#[]⟩, .bool false, .int .i64 0, .string ⟨#[]⟩, .slice none 0 0, .slice none 0 0, .int .i64 0, .int .i64 0] 97 (0, 0)) (by simp)) 3
  have z4 := blk_cell (HB8.out.cb (w.heap.size, .cells #[.string ⟨#[]⟩, .string ⟨#[]⟩, .bool false, .int .i64 0, .string ⟨#[]⟩, .slice none 0 0, .slice none 0 0, .int .i64 0, .int .i64 0] 97 (0, 0)) (by simp)) 4 (.string ⟨#[]⟩) rfl
  have zf4 := blk_free (HB8.out.cb (w.heap.size, .cells #[.string ⟨#[]⟩, .string ⟨#[]⟩, .bool false, .int .i64 0, .string ⟨#[]⟩, .slice none 0 0, .slice none 0 0, .int .i64 0, .int .i64 0] 97 (0, 0)) (by simp)) 4
  have z5 := blk_cell (HB8.out.cb (w.heap.size, .cells #[.string ⟨#[]⟩, .string ⟨#[]⟩, .bool false, .int .i64 0, .string ⟨#[]⟩, .slice none 0 0, .slice none 0 0, .int .i64 0, .int .i64 0] 97 (0, 0)) (by simp)) 5 (.slice none 0 0) rfl
  have zf5 := blk_free (HB8.out.cb (w.heap.size, .cells #[.string ⟨#[]⟩, .string ⟨#[]⟩, .bool false, .int .i64 0, .string ⟨#[]⟩, .slice none 0 0, .slice none 0 0, .int .i64 0, .int .i64 0] 97 (0, 0)) (by simp)) 5
  have z6 := blk_cell (HB8.out.cb (w.heap.size, .cells #[.string ⟨#[]⟩, .string ⟨#[]⟩, .bool false, .int .i64 0, .string ⟨#[]⟩, .slice none 0 0, .slice none 0 0, .int .i64 0, .int .i64 0] 97 (0, 0)) (by simp)) 6 (.slice none 0 0) rfl
  have zf6 := blk_free (HB8.out.cb (w.heap.size, .cells #[.string ⟨#[]⟩, .string ⟨#[]⟩, .bool false, .int .i64 0, .string ⟨#[]⟩, .slice none 0 0, .slice none 0 0, .int .i64 0, .int .i64 0] 97 (0, 0)) (by simp)) 6
  have z7 := blk_cell (HB8.out.cb (w.heap.size, .cells #[.string ⟨#[]⟩, .string ⟨#[]⟩, .bool false, .int .i64 0, .string ⟨#[]⟩, .slice none 0 0, .slice none 0 0, .int .i64 0, .int .i64 0] 97 (0, 0)) (by simp)) 7 (.int .i64 0) rfl
  have zf7 := blk_free (HB8.out.cb (w.heap.size, .cells #[.string ⟨#[]⟩, .string ⟨#[]⟩, .bool false, .int .i64 0, .string ⟨#[]⟩, .slice none 0 0, .slice none 0 0, .int .i64 0, .int .i64 0] 97 (0, 0)) (by simp)) 7
  have z8 := blk_cell (HB8.out.cb (w.heap.size, .cells #[.string ⟨#[]⟩, .string ⟨#[]⟩, .bool false, .int .i64 0, .string ⟨#[]⟩, .slice none 0 0, .slice none 0 0, .int .i64 0, .int .i64 0] 97 (0, 0)) (by simp)) 8 (.int .i64 0) rfl
  have zf8 := blk_free (HB8.out.cb (w.heap.size, .cells #[.string ⟨#[]⟩, .string ⟨#[]⟩, .bool false, .int .i64 0, .string ⟨#[]⟩, .slice none 0 0, .slice none 0 0, .int .i64 0, .int .i64 0] 97 (0, 0)) (by simp)) 8
  cases B
  · have HT : Hid (Rd.take Qr.sEq s6 = s6) := by unfold Rd.take; rw [if_neg (by rw [← HB.out]; simp)]; exact Lib.hid rfl
    have HE : Hid (Qr.variable_ (n + 1) s = (s6, ⟨nm, ty, false, Rd.V.none, pa⟩)) := by
      have hdf : Qr.dflt (n + 1) s6 = (s6, Rd.V.none) := by unfold Qr.dflt; rw [if_neg (by rw [← HB.out]; simp)]
      refine Lib.hid ?_
      unfold Qr.variable_
      dsimp only
      rw [← HS1.out, ← HS3.out, ← HNM.out, ← HS5.out, ← HS6.out, ← HTY.out, ← HPA.out, ← HB.out, hdf]
    have HBz : Hid (BI w b g t6 [(w.heap.size, .cells #[.string ⟨#[]⟩, .string ⟨#[]⟩, .bool false, .int .i64 0, .string ⟨#[]⟩, .slice none 0 0, .slice none 0 0, .int .i64 0, .int .i64 0] 97 (0, 0))] 97 [.string ⟨nm.toArray⟩, .string ⟨ty.toArray⟩, .bool false, .int .i64 0, .string ⟨#[]⟩, .slice none 0 0, .slice none 0 0, .int .i64 0, .int .i64 pa].toArray s6 (w8.setCell ⟨t6, 2, none⟩ (.bool false))) := by
      have := HB9.out
      rw [HT.out] at this
      exact Lib.hid this
    have HRS : Hid (Reads (w8.setCell ⟨t6, 2, none⟩ (.bool false)) (fun _ => False) (Qr.Vd.d ⟨nm, ty, false, Rd.V.none, pa⟩) [.string ⟨nm.toArray⟩, .string ⟨ty.toArray⟩, .bool false, .int .i64 0, .string ⟨#[]⟩, .slice none 0 0, .slice none 0 0, .int .i64 0, .int .i64 pa]) := by
      unfold Qr.Vd.d
      exact Lib.hid (.obj (.cons (.str _) (.cons (.str _) (.cons (.bool _) (.cons (leaf_reads _ 0 0 []) (.cons (.int _) .nil))))))
    have hfin := HBz.out.fin (r := w.heap.size) (List.mem_singleton.2 rfl) HRS.out (fun x hx => hx.elim)
    simp only [putCells, Nat.reduceAdd, Nat.zero_add] at hfin
    have HFN := Lib.hid hfin
    clear hfin
    go_wp2_with fail
    refine bodyPost_ret (v := .agg #[.string ⟨nm.toArray⟩, .string ⟨ty.toArray⟩, .bool false, .int .i64 0, .string ⟨#[]⟩, .slice none 0 0, .slice none 0 0, .int .i64 0, .int .i64 pa]) (by simp [results, Tryz.results118, go_sem, z0, z1, z2, z3, z4, z5, z6, z7, z8, n1, n2]) rfl ?_
    rw [HE.out]
    exact ⟨_, rfl, HFN.out⟩
  · have HT : Hid (Rd.take Qr.sEq s6 = Rd.next s6) := by unfold Rd.take; rw [if_pos HB.out.symm]; exact Lib.hid rfl
    have HNX := Lib.hid (Rd.next_sign HB.out.symm)
    have HRN : Hid ((Rd.next s6).rest.length ≤ n) := by
      refine Lib.hid ?_
      have h6 := HOK6.out.len
      have h7 := HNX.out.1
      rcases HN.out with h | h
      · have := HOK6.out.err h
        have hz := HB.out
        rw [Rd.isS_err (by rw [this]; exact h)] at hz
        cases hz
      · omega
    have HB9' : Hid (BI w b g t6 [(w.heap.size, .cells #[.string ⟨#[]⟩, .string ⟨#[]⟩, .bool false, .int .i64 0, .string ⟨#[]⟩, .slice none 0 0, .slice none 0 0, .int .i64 0, .int .i64 0] 97 (0, 0))] 97 #[.string ⟨nm.toArray⟩, .string ⟨ty.toArray⟩, .bool true, .int .i64 0, .string ⟨#[]⟩, .slice none 0 0, .slice none 0 0, .int .i64 0, .int .i64 pa] (Rd.next s6) (w8.setCell ⟨t6, 2, none⟩ (.bool true))) := by
      have := HB9.out
      rw [HT.out] at this
      exact Lib.hid this
    have HND := Lib.hid (Rd.next_deep s6)
    go_wp2_with fail
    refine (rvalue_any b g true n hnb (Rd.next s6) _ HB9'.out.rd HRN.out (by rw [HND.out, HDP6.out]; omega)).mono ?_
    rintro r w10 ⟨cs, rfl, hrd, hr10, hf10⟩
    obtain ⟨k, a, t, a1, a2, n1', c1, n2', c2, rfl⟩ := V_cells hrd
    obtain ⟨s10, hs10⟩ : ∃ x, x = (Rd.value true (n + 1) (Rd.next s6)).1 := ⟨_, rfl⟩
    obtain ⟨v10, hv10⟩ : ∃ x, x = (Rd.value true (n + 1) (Rd.next s6)).2 := ⟨_, rfl⟩
    rw [← hs10] at hr10
    rw [← hv10] at hrd
    have HS10 := Lib.hid hs10
    have HV10 := Lib.hid hv10
    have HB10 := Lib.hid (HB9'.out.step hr10 hf10)
    have hlt := block_lt HB9'.out.b6
    have HRD := Lib.hid (hrd.to (w' := putCells w10 t6 3 [.int .i64 k, .string t, .slice a1 n1' c1, .slice a2 n2' c2, .int .i64 a]) (Q := fun x => t6 < x) ⟨by rw [putCells_size]; exact Nat.le_refl _, fun x hx hp => ⟨Nat.lt_of_lt_of_le hlt hp, putCells_ne _ _ (by have : (w8.setCell ⟨t6, 2, none⟩ (.bool true)).heap.size ≤ x := hp; omega) _ _ _⟩⟩)
    have HE : Hid (Qr.variable_ (n + 1) s = (s10, ⟨nm, ty, true, v10, pa⟩)) := by
      have hdf : Qr.dflt (n + 1) s6 = (s10, v10) := by unfold Qr.dflt; rw [if_pos HB.out.symm, HS10.out, HV10.out]
      refine Lib.hid ?_
      unfold Qr.variable_
      dsimp only
      rw [← HS1.out, ← HS3.out, ← HNM.out, ← HS5.out, ← HS6.out, ← HTY.out, ← HPA.out, ← HB.out, hdf]
    have HRS : Hid (Reads (putCells w10 t6 3 [.int .i64 k, .string t, .slice a1 n1' c1, .slice a2 n2' c2, .int .i64 a]) (fun x => t6 < x) (Qr.Vd.d ⟨nm, ty, true, v10, pa⟩) [.string ⟨nm.toArray⟩, .string ⟨ty.toArray⟩, .bool true, .int .i64 k, .string t, .slice a1 n1' c1, .slice a2 n2' c2, .int .i64 a, .int .i64 pa]) := by
      unfold Qr.Vd.d
      exact Lib.hid (.obj (.cons (.str _) (.cons (.str _) (.cons (.bool _) (.cons HRD.out (.cons (.int _) .nil))))))
    have HBz : Hid (BI w b g t6 [(w.heap.size, .cells #[.string ⟨#[]⟩, .string ⟨#[]⟩, .bool false, .int .i64 0, .string ⟨#[]⟩, .slice none 0 0, .slice none 0 0, .int .i64 0, .int .i64 0] 97 (0, 0))] 97 [.string ⟨nm.toArray⟩, .string ⟨ty.toArray⟩, .bool true, .int .i64 k, .string t, .slice a1 n1' c1, .slice a2 n2' c2, .int .i64 a, .int .i64 pa].toArray s10 (putCells w10 t6 3 [.int .i64 k, .string t, .slice a1 n1' c1, .slice a2 n2' c2, .int .i64 a])) :=
      Lib.hid (((((HB10.out.put 3 (.int .i64 k)).put 4 (.string t)).put 5 (.slice a1 n1' c1)).put 6 (.slice a2 n2' c2)).put 7 (.int .i64 a))
    have hfin := HBz.out.fin (r := w.heap.size) (List.mem_singleton.2 rfl) HRS.out (fun x hx => hx)
    simp only [putCells, Nat.reduceAdd, Nat.zero_add] at hfin
    have HFN := Lib.hid hfin
    clear y0 yf0 z0 zf0 y1 yf1 z1 zf1 y2 yf2 z2 zf2 y3 yf3 z3 zf3 y4 yf4 z4 zf4 y5 yf5 z5 zf5 y6 yf6 z6 zf6 y7 yf7 z7 zf7 y8 yf8 z8 zf8
    clear hfin hrd hr10 hf10 hs10 hv10
    have y0 := blk_cell HB10.out.b6 0 (.string ⟨nm.toArray⟩) rfl
    have yf0 := blk_free HB10.out.b6 0
    have y1 := blk_cell HB10.out.b6 1 (.string ⟨ty.toArray⟩) rfl
    have yf1 := blk_free HB10.out.b6 1
    have y2 := blk_cell HB10.out.b6 2 (.bool true) rfl
    have yf2 := blk_free HB10.out.b6 2
    have y3 := blk_cell HB10.out.b6 3 (.int .i64 0) rfl
    have yf3 := blk_free HB10.out.b6 3
    have y4 := blk_cell HB10.out.b6 4 (.string ⟨#[]⟩) rfl
    have yf4 := blk_free HB10.out.b6 4
    have y5 := blk_cell HB10.out.b6 5 (.slice none 0 0) rfl
    have yf5 := blk_free HB10.out.b6 5
    have y6 := blk_cell HB10.out.b6 6 (.slice none 0 0) rfl
    have yf6 := blk_free HB10.out.b6 6
    have y7 := blk_cell HB10.out.b6 7 (.int .i64 0) rfl
    have yf7 := blk_free HB10.out.b6 7
    have y8 := blk_cell HB10.out.b6 8 (.int .i64 pa) rfl
    have yf8 := blk_free HB10.out.b6 8
    have z0 := blk_cell (HB10.out.cb _ (List.mem_singleton.2 rfl)) 0 (.string ⟨#[]⟩) rfl
    have zf0 := blk_free (HB10.out.cb _ (List.mem_singleton.2 rfl)) 0
    have z1 := blk_cell (HB10.out.cb _ (List.mem_singleton.2 rfl)) 1 (.string ⟨#[]⟩) rfl
    have zf1 := blk_free (HB10.out.cb _ (List.mem_singleton.2 rfl)) 1
    have z2 := blk_cell (HB10.out.cb _ (List.mem_singleton.2 rfl)) 2 (.bool false) rfl
    have zf2 := blk_free (HB10.out.cb _ (List.mem_singleton.2 rfl)) 2
    have z3 := blk_cell (HB10.out.cb _ (List.mem_singleton.2 rfl)) 3 (.int .i64 0) rfl
    have zf3 := blk_free (HB10.out.cb _ (List.mem_singleton.2 rfl)) 3
    have z4 := blk_cell (HB10.out.cb _ (List.mem_singleton.2 rfl)) 4 (.string ⟨#[]⟩) rfl
    have zf4 := blk_free (HB10.out.cb _ (List.mem_singleton.2 rfl)) 4
    have z5 := blk_cell (HB10.out.cb _ (List.mem_singleton.2 rfl)) 5 (.slice none 0 0) rfl
    have zf5 := blk_free (HB10.out.cb _ (List.mem_singleton.2 rfl)) 5
    have z6 := blk_cell (HB10.out.cb _ (List.mem_singleton.2 rfl)) 6 (.slice none 0 0) rfl
    have zf6 := blk_free (HB10.out.cb _ (List.mem_singleton.2 rfl)) 6
    have z7 := blk_cell (HB10.out.cb _ (List.mem_singleton.2 rfl)) 7 (.int .i64 0) rfl
    have zf7 := blk_free (HB10.out.cb _ (List.mem_singleton.2 rfl)) 7
    have z8 := blk_cell (HB10.out.cb _ (List.mem_singleton.2 rfl)) 8 (.int .i64 0) rfl
    have zf8 := blk_free (HB10.out.cb _ (List.mem_singleton.2 rfl)) 8
    go_wp2_with fail
    refine bodyPost_ret (v := .agg #[.string ⟨nm.toArray⟩, .string ⟨ty.toArray⟩, .bool true, .int .i64 k, .string t, .slice a1 n1' c1, .slice a2 n2' c2, .int .i64 a, .int .i64 pa]) (by simp [results, Tryz.results118, go_sem, z0, z1, z2, z3, z4, z5, z6, z7, z8, n1, n2]) rfl ?_
    rw [HE.out]
    exact ⟨_, rfl, HFN.out⟩
end Go.Proofs.YtabcaljnpahgpaaGreatDoor
