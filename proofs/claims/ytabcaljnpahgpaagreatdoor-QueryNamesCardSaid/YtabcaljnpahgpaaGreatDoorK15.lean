/-
  The reader of types: told, words, names, walked. The reader of types: a block that is filled field by field; input, member, walked. What stands while a part of a type is read; one element of a row.
-/
import Derived.Test.YtabcaljnpahgpaaGreatDoorK14
import Derived.Test.YtabcaljnpahgpaaGreatDoorK2
namespace Go.Proofs.YtabcaljnpahgpaaGreatDoor
set_option linter.unusedSimpArgs false
set_option linter.unusedVariables false
open Go Go.RowKit

set_option maxRecDepth 100000 in
theorem told_any (b g : Nat) (s : Rd.St) (w : World) (h : RdAt w b g s) :
    Calls Tryz.prog 65 #[.pointer (some ⟨b, 0, none⟩)] w fun r w' => r = .returned (.tuple #[]) ∧ RdAt w' b g (Sd.told s) ∧ Fr b w w' := by
  have H := Lib.hid h
  clear h
  go_enter Tryz.func65, Tryz.ntmps65
  go_wp2_with fail
  refine (rpeek_any b g s w H.out).mono ?_
  rintro r w1 ⟨rfl, hb1⟩
  have H1 := Lib.hid (H.out.below hb1)
  have HB := Lib.hid hb1
  clear hb1
  by_cases hk : (Rd.peek s).kind = 4
  · have e4 := eqT (n := (Rd.peek s).kind) (k := 4) (by omega)
    have HE : Hid (Sd.told s = Rd.next s) := by unfold Sd.told; rw [if_pos hk]; exact Lib.hid rfl
    clear hk
    go_wp2_with fail
    refine (rnext_any b g s w1 H1.out).mono ?_
    rintro r w2 ⟨rfl, h2, f2⟩
    have H2 := Lib.hid h2
    have F2 := Lib.hid f2
    clear h2 f2
    go_wp2_with fail
    go_end0
    exact ⟨rfl, by rw [HE.out]; exact H2.out, (But.of_below HB.out).trans F2.out⟩
  · have e4 := eqF (n := (Rd.peek s).kind) (k := 4) (by omega)
    have HE : Hid (Sd.told s = s) := by unfold Sd.told; rw [if_neg hk]; exact Lib.hid rfl
    clear hk
    go_wp2_with fail
    go_end0
    exact ⟨rfl, by rw [HE.out]; exact H1.out, But.of_below HB.out⟩

theorem infoS : (Tryz.prog.info? 9).map (fun i => (i.zero, i.size, i.bytes)) = some (some (.string ⟨#[]⟩), 1, 16) := by kernel_rfl
/-- Texts as data. -/
def sds (l : List (List UInt8)) : List D := l.map D.str
/-- A row of texts of the call's own, beside the reader. -/
structure NI (w0 : World) (b g : Nat) (s : Rd.St) (v : Value) (out : List (List UInt8)) (w : World) : Prop where
  rd : RdAt w b g s
  row : Grows w (fun _ => False) w0.heap.size 9 1 v (sds out)
  fr : Fr b w0 w
  lb : b < w0.heap.size
  lg : g < w0.heap.size
theorem NI.step {w0 w w' : World} {b g : Nat} {s s' : Rd.St} {v : Value} {out : List (List UInt8)} (h : NI w0 b g s v out w) (hr : RdAt w' b g s') (hf : Fr b w w') : NI w0 b g s' v out w' := by
  have lb := h.lb
  have hs := h.fr.size
  exact ⟨hr, h.row.to ⟨hf.size, fun x _ hp => hp.elim⟩ (fun x hx => ⟨fun hp => hp, hf.block x (h.row.lt x hx).2 (by have := (h.row.lt x hx).1; omega)⟩), h.fr.trans hf, h.lb, h.lg⟩
theorem sds_len (l : List (List UInt8)) : (sds l).length = l.length := by simp [sds]
theorem NI.more {w0 w w8 : World} {b g : Nat} {s : Rd.St} {v v' : Value} {out : List (List UInt8)} {t : List UInt8} (h : NI w0 b g s v out w) (hg : w.grownBy w8 v.ownBlock)
    {xs : List Value} (hx2 : w.ownsRow w0.heap.size 9 1 v out.length xs) (hR : RowsD w (fun _ => False) 1 (sds out) xs) (hrow : w8.ownsRow w0.heap.size 9 1 v' (out.length + 1) (xs ++ [.string ⟨t.toArray⟩])) : NI w0 b g s v' (out ++ [t]) w8 := by
  have lb := h.lb
  have lg := h.lg
  have hlt := hx2.lt
  have e8 : ∀ x, x < w0.heap.size → w8.heap[x]? = w.heap[x]? := fun x hx3 => hg.block x (Nat.lt_of_lt_of_le hx3 h.fr.size) (fun e => by have := (hlt x e.symm).1; omega)
  refine ⟨h.rd.to hg.size (e8 b lb) (e8 g lg), ⟨⟨xs ++ [.string ⟨t.toArray⟩], ?_, ?_⟩, fun x _ hp => hp⟩, ⟨hg.os.trans h.fr.os, hg.tape.trans h.fr.tape, hg.output.trans h.fr.output, Nat.le_trans h.fr.size hg.size, fun x hx3 hxb => by rw [e8 x hx3]; exact h.fr.block x hx3 hxb⟩, lb, lg⟩
  · rw [sds_len, List.length_append]
    exact hrow
  · have hst : Stands w (fun _ => False) w8 (fun _ => False) := ⟨hg.size, fun x _ hp => hp.elim⟩
    have : sds (out ++ [t]) = sds out ++ [D.str t] := by simp [sds]
    rw [this]
    exact (hR.to hst).snoc (.str t) rfl

set_option maxHeartbeats 1000000 in
set_option maxRecDepth 100000 in
theorem rnames_any (b g : Nat) (s : Rd.St) (c : List UInt8) (w : World) (h : RdAt w b g s) :
    Calls Tryz.prog 72 #[.pointer (some ⟨b, 0, none⟩), .string ⟨c.toArray⟩] w (GotL b g w 1 (sds (Sd.names c s).2) (Sd.names c s).1) := by
  obtain ⟨i0, hi, hz0, hz1, hz2⟩ := info_parts infoS
  have hlb := h.lt
  have H := Lib.hid h
  clear h
  go_enter Tryz.func72, Tryz.ntmps72
  go_wp2_with fail
  refine (rtake_any b g s c w H.out).mono ?_
  rintro r w1 ⟨rfl, h1, f1⟩
  have H1 := Lib.hid h1
  have F1 := Lib.hid f1
  clear h1 f1
  go_wp2_with fail
  refine (rname_any b g _ w1 H1.out).mono ?_
  rintro r w2 ⟨rfl, h2, f2⟩
  obtain ⟨s2, hs2⟩ : ∃ x, x = (Rd.name (Rd.take c s)).1 := ⟨_, rfl⟩
  obtain ⟨t2, ht2⟩ : ∃ x, x = (Rd.name (Rd.take c s)).2 := ⟨_, rfl⟩
  rw [← hs2] at h2
  rw [← ht2]
  have HNM : Hid (Sd.names c s = Sd.namesGo c (s2.rest.length + 1) s2 [t2]) := by unfold Sd.names; rw [hs2, ht2]; exact Lib.hid rfl
  have hbA : Below w2.heap.size w2 (w2.alloc (.cells #[.string ⟨t2.toArray⟩] 9)) := (Below.refl _ _).alloc (Nat.le_refl _) _
  have hf12 := F1.out.trans f2
  have hs12 := hf12.size
  have HNI : Hid (NI w b g s2 (.slice (some ⟨w2.heap.size, 0, none⟩) 1 1) [t2] (w2.alloc (.cells #[.string ⟨t2.toArray⟩] 9))) := by
    refine Lib.hid ⟨h2.below hbA, ⟨⟨[.string ⟨t2.toArray⟩], ?_, ?_⟩, fun x _ hp => hp⟩, hf12.trans (But.of_below hbA), hlb.1, hlb.2⟩
    · exact World.ownsRow_lit w2 #[.string ⟨t2.toArray⟩] 1 hs12 (by unfold maxLen; omega) rfl
    · exact RowsD.cons (cs' := []) (.str t2) rfl .nil
  have HM := Lib.hid h2.rest_len
  clear h2 f2 hs2 ht2 hbA hf12
  go_wp2_with fail
  go_loopg [5] (s2.rest.length + 2) (fun k s5 wr => ∃ (m : Nat) (s : Rd.St) (out : List (List UInt8)), k = m + 1 ∧ s.rest.length < m ∧ out.length + s.rest.length ≤ 1502 ∧ NI w b g s s5 out wr ∧ Sd.namesGo c m s out = Sd.namesGo c (s2.rest.length + 1) s2 [t2])
  case atStart => exact ⟨s2.rest.length + 1, s2, [t2], rfl, by omega, by have := HM.out; simp; omega, HNI.out, rfl⟩
  case round =>
    obtain ⟨m, sr, out, rfl, hm, hol, hN, hgo⟩ := hrel
    obtain ⟨va, vc, hv⟩ := hN.row.form
    rw [sds_len] at hv
    subst hv
    have HN := Lib.hid hN
    have HGO := Lib.hid hgo
    clear hN hgo HNI
    go_wp2_with fail
    refine (rtake_any b g sr c wr HN.out.rd).mono ?_
    rintro r w3 ⟨rfl, h3, f3⟩
    have HN3 := Lib.hid (HN.out.step h3 f3)
    obtain ⟨B, hB⟩ : ∃ B, B = Rd.isS sr c := ⟨_, rfl⟩
    have HB := Lib.hid hB
    rw [← hB]
    clear hB h3 f3
    obtain ⟨m', rfl⟩ : ∃ m', m = m' + 1 := ⟨m - 1, by omega⟩
    cases B
    · have HT : Hid (Rd.take c sr = sr) := by unfold Rd.take; rw [if_neg (by rw [← HB.out]; simp)]; exact Lib.hid rfl
      have HE : Hid (Sd.names c s = (sr, out)) := by
        rw [HNM.out, ← HGO.out, Sd.namesGo, if_neg (by rw [← HB.out]; simp)]
        exact Lib.hid rfl
      go_wp2_with fail
      go_ret
      have hr := HN3.out.row.reads.to (Q := fun x => w.heap.size ≤ x) (Stands.sub w3 (fun x _ hp => by
        rcases hp with hp | hp
        · exact hp.elim
        · exact (HN3.out.row.lt x hp).1))
      rw [HE.out]
      exact ⟨va, vc, by rw [sds_len]; rfl, by rw [sds_len]; exact hr, by have := HN3.out.rd; rw [HT.out] at this; exact this, HN3.out.fr⟩
    · have HT : Hid (Rd.take c sr = Rd.next sr) := by unfold Rd.take; rw [if_pos HB.out.symm]; exact Lib.hid rfl
      have HNX := Lib.hid (Rd.next_sign HB.out.symm)
      have HN4 : Hid (NI w b g (Rd.next sr) (.slice va out.length vc) out w3) := by rw [← HT.out]; exact HN3
      have HOK := Lib.hid (Rd.ok_name (Rd.next sr))
      have HST : Hid (Sd.namesGo c m' (Rd.name (Rd.next sr)).1 (out ++ [(Rd.name (Rd.next sr)).2]) = Sd.namesGo c (s2.rest.length + 1) s2 [t2]) := by
        rw [← HGO.out, Sd.namesGo, if_pos HB.out.symm]
        exact Lib.hid rfl
      clear HN3
      go_wp2_with fail
      refine (rname_any b g (Rd.next sr) w3 HN4.out.rd).mono ?_
      rintro r w4 ⟨rfl, h4, f4⟩
      obtain ⟨s5', hs5⟩ : ∃ x, x = (Rd.name (Rd.next sr)).1 := ⟨_, rfl⟩
      obtain ⟨t5, ht5⟩ : ∃ x, x = (Rd.name (Rd.next sr)).2 := ⟨_, rfl⟩
      rw [← hs5] at h4
      rw [← ht5]
      have HS5 := Lib.hid hs5
      have HT5 := Lib.hid ht5
      have hN5 := HN4.out.step h4 f4
      have hbA : Below w4.heap.size w4 (w4.alloc (.cells #[.string ⟨t5.toArray⟩] 9)) := (Below.refl _ _).alloc (Nat.le_refl _) _
      have hN6 := hN5.step (hN5.rd.below hbA) (But.of_below hbA)
      obtain ⟨⟨xs, hx, hRo⟩, hap⟩ := hN6.row
      rw [sds_len] at hx
      have HN6 := Lib.hid hN6
      have HX := Lib.hid hx
      have HRO := Lib.hid hRo
      have HLIT : Hid (∀ j u, ([.string ⟨t5.toArray⟩] : List Value)[j]? = some u → (w4.alloc (.cells #[.string ⟨t5.toArray⟩] 9)).cell? ((⟨w4.heap.size, 0, none⟩ : Addr).add j) = some u) := Lib.hid (lit_cells (fz := (0, 0)) (heap_at_new _ _))
      have hbase : w.heap.size ≤ (w4.alloc (.cells #[.string ⟨t5.toArray⟩] 9)).heap.size := hN6.fr.size
      clear h4 f4 hs5 ht5 hN5 hbA hN6 hx hRo hap HN4
      go_wp2_with (first | (at_builtin; refine wpList_append_own_at _ rfl _ _ 34 rfl w.heap.size 9 i0 (.string ⟨#[]⟩) 1 16 Tryz.underlying34 hi hz0 hz1 hz2 rfl (by decide) (.slice va out.length vc) out.length xs rfl HX.out ⟨w4.heap.size, 0, none⟩ 1 1 [.string ⟨t5.toArray⟩] rfl rfl HLIT.out (fun u hu => by simp at hu; subst hu; rfl) (by unfold maxLen; omega) (by omega) hbase ?_; intro v' w8 hrow8 hg8 hnil8 hloc8; clear hnil8 hloc8; have HROW := Lib.hid hrow8; have HG8 := Lib.hid hg8; clear hrow8 hg8) | fail)
      go_roundg (m' + 1)
      case measure => omega
      case rel =>
        have hlen := HOK.out.len
        have h1 := HNX.out.1
        rw [← HS5.out] at hlen
        refine ⟨m', s5', out ++ [t5], rfl, by omega, by rw [List.length_append]; simp; omega, HN6.out.more HG8.out HX.out HRO.out HROW.out, by rw [HS5.out, HT5.out]; exact HST.out⟩
end Go.Proofs.YtabcaljnpahgpaaGreatDoor
namespace Go.Proofs.YtabcaljnpahgpaaGreatDoor
set_option linter.unusedSimpArgs false
set_option linter.unusedVariables false
open Go Go.RowKit

/-- A block that is being filled, beside blocks that are kept. -/
structure BI (w0 : World) (b g t6 : Nat) (bx : List Box) (T6 : TypeId) (c6 : Array Value) (s : Rd.St) (w : World) : Prop where
  rd : RdAt w b g s
  cb : ∀ p ∈ bx, w.heap[p.1]? = some p.2
  b6 : w.heap[t6]? = some (.cells c6 T6 (0, 0))
  fr : Fr b w0 w
  lb : b < w0.heap.size
  lg : g < w0.heap.size
  lx : ∀ p ∈ bx, w0.heap.size ≤ p.1 ∧ p.1 < t6
  l6 : w0.heap.size ≤ t6
section
variable {w0 w w' : World} {b g t6 : Nat} {bx : List Box} {T6 : TypeId} {c6 : Array Value} {s s' : Rd.St}
theorem BI.step (h : BI w0 b g t6 bx T6 c6 s w) (hr : RdAt w' b g s') (hf : Fr b w w') : BI w0 b g t6 bx T6 c6 s' w' := by
  have lb := h.lb
  have l6 := h.l6
  refine ⟨hr, fun p hp => ?_, ?_, h.fr.trans hf, lb, h.lg, h.lx, l6⟩
  · have hp1 := h.cb p hp
    have hp2 := h.lx p hp
    rw [hf.block p.1 (block_lt hp1) (by omega)]
    exact hp1
  · rw [hf.block t6 (block_lt h.b6) (by omega)]
    exact h.b6
theorem BI.below (h : BI w0 b g t6 bx T6 c6 s w) (hb : Below w.heap.size w w') : BI w0 b g t6 bx T6 c6 s w' := h.step (h.rd.below hb) (But.of_below hb)
theorem BI.put (h : BI w0 b g t6 bx T6 c6 s w) (j : Nat) (v : Value) : BI w0 b g t6 bx T6 (c6.setIfInBounds j v) s (w.setCell ⟨t6, j, none⟩ v) := by
  have lb := h.lb
  have lg := h.lg
  have l6 := h.l6
  refine ⟨h.rd.set_ne (by omega) (by omega) _ _, fun p hp => ?_, heap_set1 h.b6, h.fr.setCell (.inr l6) v, lb, lg, h.lx, l6⟩
  have hp2 := h.lx p hp
  rw [heap_set_ne (by omega)]
  exact h.cb p hp
theorem BI.cellx (h : BI w0 b g t6 bx T6 c6 s w) {t : Nat} {v : Value} {T : TypeId} (hp : (t, Obj.cells #[v] T (0, 0)) ∈ bx) : w.cell? ⟨t, 0, none⟩ = some v := by
  have := h.cb _ hp
  simp only at this
  simp [World.cell?, this]
/-- The end: what was filled is copied to its place. -/
theorem BI.fin {d : D} {cs : List Value} {P : Nat → Prop} {r : Nat} {o : Obj} (h : BI w0 b g t6 bx T6 cs.toArray s w) (hr : (r, o) ∈ bx) (hd : Reads w P d cs) (hP : ∀ x, P x → t6 < x) :
    Reads (putCells w r 0 cs) (fun x => w0.heap.size ≤ x) d cs ∧ RdAt (putCells w r 0 cs) b g s ∧ Fr b w0 (putCells w r 0 cs) := by
  have lb := h.lb
  have lg := h.lg
  have l6 := h.l6
  have hr2 := h.lx _ hr
  simp only at hr2
  have hk : ∀ x, x ≠ r → (putCells w r 0 cs).heap[x]? = w.heap[x]? := fun x h1 => putCells_ne _ _ h1 _ _ _
  have hsz := putCells_size r cs 0 w
  have ho := putCells_os r cs 0 w
  refine ⟨hd.to ⟨by rw [hsz]; exact Nat.le_refl _, fun x hx hp => ⟨by have := hP x hp; show w0.heap.size ≤ x; omega, hk x (by have := hP x hp; omega)⟩⟩, h.rd.to (by rw [hsz]; exact Nat.le_refl _) (hk b (by omega)) (hk g (by omega)), ⟨ho.1.trans h.fr.os, ho.2.1.trans h.fr.tape, ho.2.2.trans h.fr.output, by rw [hsz]; exact h.fr.size, fun x hx hxb => by
    rw [hk x (by omega)]
    exact h.fr.block x hx hxb⟩⟩
end
namespace Sd
def In.d (x : In) : D := .obj [.str x.name, .str x.type, .bool x.has, x.dflt.d, .int x.at_]
def Fd.d (x : Fd) : D := .obj [.str x.name, .seq 9 (x.args.map In.d), .str x.type, .int x.at_]
def Td.d (x : Td) : D := .obj [.int x.kind, .str x.name, .seq 1 (sds x.impl), .seq 4 (x.fields.map Fd.d), .seq 1 (sds x.members), .seq 9 (x.inputs.map In.d), .int x.at_]
end Sd

set_option maxHeartbeats 1000000 in
set_option maxRecDepth 100000 in
theorem member_any (b g : Nat) (s : Rd.St) (w : World) (h : RdAt w b g s) :
    Calls Tryz.prog 78 #[.pointer (some ⟨b, 0, none⟩)] w fun r w' => r = .returned (.string ⟨(Sd.member s).2.toArray⟩) ∧ RdAt w' b g (Sd.member s).1 ∧ Fr b w w' := by
  have H := Lib.hid h
  clear h
  go_enter Tryz.func78, Tryz.ntmps78
  go_wp2_with fail
  refine (told_any b g s w H.out).mono ?_
  rintro r w1 ⟨rfl, h1, f1⟩
  have H1 := Lib.hid h1
  have F1 := Lib.hid f1
  clear h1 f1
  have hb3 : Below w1.heap.size w1 (w1.alloc (.cells #[.string ⟨#[116, 114, 117, 101]⟩, .string ⟨#[102, 97, 108, 115, 101]⟩, .string ⟨#[110, 117, 108, 108]⟩] 9)) := (Below.refl _ _).alloc (Nat.le_refl _) _
  have HB3 := Lib.hid hb3
  clear hb3
  go_wp2_with fail
  refine (rword_any b g (Sd.told s) _ [Rd.sTrue, Rd.sFalse, Rd.sNull] _ (H1.out.below HB3.out) (txts_lit w1 [Rd.sTrue, Rd.sFalse, Rd.sNull] _ _ rfl) (by simp)).mono ?_
  rintro r w2 ⟨rfl, hb2⟩
  have HB2 := Lib.hid (HB3.out.trans (hb2.mono HB3.out.size))
  have H2 := Lib.hid (H1.out.below HB2.out)
  obtain ⟨B, hB⟩ : ∃ B, B = Rd.isW (Sd.told s) [Rd.sTrue, Rd.sFalse, Rd.sNull] := ⟨_, rfl⟩
  have HB := Lib.hid hB
  rw [← hB]
  clear hB hb2
  cases B
  · have HE : Hid (Sd.member s = Rd.name (Sd.told s)) := by unfold Sd.member; rw [if_neg (by rw [← HB.out]; simp)]; exact Lib.hid rfl
    go_wp2_with fail
    refine (rname_any b g _ w2 H2.out).mono ?_
    rintro r w3 ⟨rfl, h3, f3⟩
    have H3 := Lib.hid h3
    have F3 := Lib.hid f3
    clear h3 f3
    go_wp2_with fail
    go_ret
    rw [HE.out]
    exact ⟨rfl, H3.out, (F1.out.trans (But.of_below HB2.out)).trans F3.out⟩
  · have HE : Hid (Sd.member s = Rd.name (Rd.wrong (Sd.told s))) := by unfold Sd.member; rw [if_pos HB.out.symm]; exact Lib.hid rfl
    go_wp2_with fail
    refine (rwrong_any b g _ w2 H2.out).mono ?_
    rintro r w4 ⟨rfl, h4, f4⟩
    have H4 := Lib.hid h4
    have F4 := Lib.hid f4
    clear h4 f4
    go_wp2_with fail
    refine (rname_any b g _ w4 H4.out).mono ?_
    rintro r w3 ⟨rfl, h3, f3⟩
    have H3 := Lib.hid h3
    have F3 := Lib.hid f3
    clear h3 f3
    go_wp2_with fail
    go_ret
    rw [HE.out]
    exact ⟨rfl, H3.out, ((F1.out.trans (But.of_below HB2.out)).trans F4.out).trans F3.out⟩
end Go.Proofs.YtabcaljnpahgpaaGreatDoor
namespace Go.Proofs.YtabcaljnpahgpaaGreatDoor
set_option linter.unusedSimpArgs false
set_option linter.unusedVariables false
open Go Go.RowKit

/-- What stands while a field's arguments are read. -/
def FLI {α : Type} (w0 : World) (b g t6 : Nat) (bx : List Box) (T6 : TypeId) (mk : Value → Array Value) (E : TypeId) (k : Nat) (dd : α → D) (m : Nat) (d1 : Int) (s : Rd.St) (out : List α) (w : World) : Prop :=
  LI w0 b g t6 bx T6 mk E k s (out.map dd) w ∧ s.deep = d1 ∧ s.rest.length ≤ m ∧ (s.err = 0 → out.length + s.rest.length ≤ 1602) ∧ out.length ≤ 1603
/-- A block that is filled, with a row in it that may grow. -/
theorem BI.li {w0 w : World} {b g t6 k : Nat} {bx : List Box} {T6 E : TypeId} {mk : Value → Array Value} {s : Rd.St} (h : BI w0 b g t6 bx T6 (mk (.slice none 0 0)) s w) : LI w0 b g t6 bx T6 mk E k s [] w :=
  ⟨h.rd, h.cb, ⟨_, h.b6, Grows.nil _ _ _ _ _⟩, h.fr, h.lb, h.lg, fun p hp => ⟨(h.lx p hp).1, by have := (h.lx p hp).2; omega⟩, h.l6⟩
theorem LI.bi {w0 w : World} {b g t6 k : Nat} {bx : List Box} {T6 E : TypeId} {mk : Value → Array Value} {s : Rd.St} {ds : List D} (h : LI w0 b g t6 bx T6 mk E k s ds w) {bx' : List Box} (hs : ∀ p ∈ bx', p ∈ bx ∧ p.1 < t6) :
    ∃ a c, BI w0 b g t6 bx' T6 (mk (.slice a ds.length c)) s w ∧ Reads w (fun x => t6 < x) (.seq k ds) [.slice a ds.length c] := by
  obtain ⟨v, h1, h2⟩ := h.ex
  obtain ⟨a, c, rfl⟩ := h2.form
  have hL := LB_t6 t6 bx
  exact ⟨a, c, ⟨h.rd, fun p hp => h.cb p (hs p hp).1, h1, h.fr, h.lb, h.lg, fun p hp => ⟨(h.lx0 p (hs p hp).1).1, (hs p hp).2⟩, h.l6⟩, h2.reads.to (Stands.sub w (fun x _ hp => by
    rcases hp with hp | hp
    · exact hp.1
    · have := (h2.lt x hp).1; show t6 < x; omega))⟩

theorem In_cells {w : World} {P : Nat → Prop} {x : Sd.In} {cs : List Value} (h : Reads w P x.d cs) : ∃ (nm ty t : ByteArray) (hb : Bool) (k a b' : Int) (a1 a2 : Option Addr) (n1 c1 n2 c2 : Nat), cs = [.string nm, .string ty, .bool hb, .int .i64 k, .string t, .slice a1 n1 c1, .slice a2 n2 c2, .int .i64 a, .int .i64 b'] := by
  unfold Sd.In.d at h
  obtain ⟨x1, r1, rfl, e1, h1⟩ := h.obj_inv.cons_inv
  obtain ⟨x2, r2, rfl, e2, h2⟩ := h1.cons_inv
  obtain ⟨x3, r3, rfl, e3, h3⟩ := h2.cons_inv
  obtain ⟨x4, r4, rfl, e4, h4⟩ := h3.cons_inv
  obtain ⟨x5, r5, rfl, e5, h5⟩ := h4.cons_inv
  obtain rfl := e1.str_inv
  obtain rfl := e2.str_inv
  obtain rfl := e3.bool_inv
  obtain ⟨k, a, t, a1, a2, n1, c1, n2, c2, rfl⟩ := V_cells e4
  obtain rfl := e5.int_inv
  obtain rfl := h5.nil_inv
  exact ⟨_, _, _, _, _, _, _, _, _, _, _, _, _, rfl⟩
section
variable {w : World} {P : Nat → Prop}
theorem Reads.elem {k : Nat} {xs : List D} {a : Option Addr} {n c : Nat} (h : Reads w P (.seq k xs) [.slice a n c]) : n = xs.length ∧ ∀ (j : Nat) d, xs[j]? = some d → ∃ g o cs, a = some ⟨g, o, none⟩ ∧ P g ∧ g < w.heap.size ∧ cs.length = k ∧
    (∀ (q : Nat) v, cs[q]? = some v → w.cell? ⟨g, o + j * k + q, none⟩ = some v) ∧ Reads w P d cs := by
  obtain ⟨a', c', e, hr⟩ := h.seq_inv
  obtain ⟨rfl, rfl, rfl⟩ : a = a' ∧ n = xs.length ∧ c = c' := by simpa using e
  refine ⟨rfl, fun j d hj => ?_⟩
  have := hr.at j d hj
  rw [Nat.zero_add] at this
  exact this
end
end Go.Proofs.YtabcaljnpahgpaaGreatDoor
