/-
  The reader of types: told, words, names, walked. The reader of types: a block that is filled field by field; input, member, walked. The reader of types: input, walked.
-/
import Derived.Test.YtabcaljnpahgpaaGreatDoorK14
import Derived.Test.YtabcaljnpahgpaaGreatDoorK2
namespace Go.Proofs.YtabcaljnpahgpaaGreatDoor
set_option linter.unusedSimpArgs false
set_option linter.unusedVariables false
open Go Go.RowKit

set_option maxRecDepth 100000 in
theorem told_any (b g : Nat) (s : Rd.St) (w : World) (h : RdAt w b g s) :
    Calls Tryz.prog 65 #[.pointer (some ⟨b, 0, none⟩)] w fun r w' => r = .returned (.tuple #[]) ∧ RdAt w' b g (Sd.told s) ∧ Fr b w w' := by
  have H := Lib.hid h
  clear h
  go_enter Tryz.func65, Tryz.ntmps65
  go_wp2_with fail
  refine (rpeek_any b g s w H.out).mono ?_
  rintro r w1 ⟨rfl, hb1⟩
  have H1 := Lib.hid (H.out.below hb1)
  have HB := Lib.hid hb1
  clear hb1
  by_cases hk : (Rd.peek s).kind = 4
  · have e4 := eqT (n := (Rd.peek s).kind) (k := 4) (by omega)
    have HE : Hid (Sd.told s = Rd.next s) := by unfold Sd.told; rw [if_pos hk]; exact Lib.hid rfl
    clear hk
    go_wp2_with fail
    refine (rnext_any b g s w1 H1.out).mono ?_
    rintro r w2 ⟨rfl, h2, f2⟩
    have H2 := Lib.hid h2
    have F2 := Lib.hid f2
    clear h2 f2
    go_wp2_with fail
    go_end0
    exact ⟨rfl, by rw [HE.out]; exact H2.out, (But.of_below HB.out).trans F2.out⟩
  · have e4 := eqF (n := (Rd.peek s).kind) (k := 4) (by omega)
    have HE : Hid (Sd.told s = s) := by unfold Sd.told; rw [if_neg hk]; exact Lib.hid rfl
    clear hk
    go_wp2_with fail
    go_end0
    exact ⟨rfl, by rw [HE.out]; exact H1.out, But.of_below HB.out⟩

theorem infoS : (Tryz.prog.info? 9).map (fun i => (i.zero, i.size, i.bytes)) = some (some (.string ⟨#[]⟩), 1, 16) := by kernel_rfl
/-- Texts as data. -/
def sds (l : List (List UInt8)) : List D := l.map D.str
/-- A row of texts of the call's own, beside the reader. -/
structure NI (w0 : World) (b g : Nat) (s : Rd.St) (v : Value) (out : List (List UInt8)) (w : World) : Prop where
  rd : RdAt w b g s
  row : Grows w (fun _ => False) w0.heap.size 9 1 v (sds out)
  fr : Fr b w0 w
  lb : b < w0.heap.size
  lg : g < w0.heap.size
theorem NI.step {w0 w w' : World} {b g : Nat} {s s' : Rd.St} {v : Value} {out : List (List UInt8)} (h : NI w0 b g s v out w) (hr : RdAt w' b g s') (hf : Fr b w w') : NI w0 b g s' v out w' := by
  have lb := h.lb
  have hs := h.fr.size
  exact ⟨hr, h.row.to ⟨hf.size, fun x _ hp => hp.elim⟩ (fun x hx => ⟨fun hp => hp, hf.block x (h.row.lt x hx).2 (by have := (h.row.lt x hx).1; omega)⟩), h.fr.trans hf, h.lb, h.lg⟩
theorem sds_len (l : List (List UInt8)) : (sds l).length = l.length := by simp [sds]
theorem NI.more {w0 w w8 : World} {b g : Nat} {s : Rd.St} {v v' : Value} {out : List (List UInt8)} {t : List UInt8} (h : NI w0 b g s v out w) (hg : w.grownBy w8 v.ownBlock)
    {xs : List Value} (hx2 : w.ownsRow w0.heap.size 9 1 v out.length xs) (hR : RowsD w (fun _ => False) 1 (sds out) xs) (hrow : w8.ownsRow w0.heap.size 9 1 v' (out.length + 1) (xs ++ [.string ⟨t.toArray⟩])) : NI w0 b g s v' (out ++ [t]) w8 := by
  have lb := h.lb
  have lg := h.lg
  have hlt := hx2.lt
  have e8 : ∀ x, x < w0.heap.size → w8.heap[x]? = w.heap[x]? := fun x hx3 => hg.block x (Nat.lt_of_lt_of_le hx3 h.fr.size) (fun e => by have := (hlt x e.symm).1; omega)
  refine ⟨h.rd.to hg.size (e8 b lb) (e8 g lg), ⟨⟨xs ++ [.string ⟨t.toArray⟩], ?_, ?_⟩, fun x _ hp => hp⟩, ⟨hg.os.trans h.fr.os, hg.tape.trans h.fr.tape, hg.output.trans h.fr.output, Nat.le_trans h.fr.size hg.size, fun x hx3 hxb => by rw [e8 x hx3]; exact h.fr.block x hx3 hxb⟩, lb, lg⟩
  · rw [sds_len, List.length_append]
    exact hrow
  · have hst : Stands w (fun _ => False) w8 (fun _ => False) := ⟨hg.size, fun x _ hp => hp.elim⟩
    have : sds (out ++ [t]) = sds out ++ [D.str t] := by simp [sds]
    rw [this]
    exact (hR.to hst).snoc (.str t) rfl

set_option maxHeartbeats 1000000 in
set_option maxRecDepth 100000 in
theorem rnames_any (b g : Nat) (s : Rd.St) (c : List UInt8) (w : World) (h : RdAt w b g s) :
    Calls Tryz.prog 72 #[.pointer (some ⟨b, 0, none⟩), .string ⟨c.toArray⟩] w (GotL b g w 1 (sds (Sd.names c s).2) (Sd.names c s).1) := by
  obtain ⟨i0, hi, hz0, hz1, hz2⟩ := info_parts infoS
  have hlb := h.lt
  have H := Lib.hid h
  clear h
  go_enter Tryz.func72, Tryz.ntmps72
  go_wp2_with fail
  refine (rtake_any b g s c w H.out).mono ?_
  rintro r w1 ⟨rfl, h1, f1⟩
  have H1 := Lib.hid h1
  have F1 := Lib.hid f1
  clear h1 f1
  go_wp2_with fail
  refine (rname_any b g _ w1 H1.out).mono ?_
  rintro r w2 ⟨rfl, h2, f2⟩
  obtain ⟨s2, hs2⟩ : ∃ x, x = (Rd.name (Rd.take c s)).1 := ⟨_, rfl⟩
  obtain ⟨t2, ht2⟩ : ∃ x, x = (Rd.name (Rd.take c s)).2 := ⟨_, rfl⟩
  rw [← hs2] at h2
  rw [← ht2]
  have HNM : Hid (Sd.names c s = Sd.namesGo c (s2.rest.length + 1) s2 [t2]) := by unfold Sd.names; rw [hs2, ht2]; exact Lib.hid rfl
  have hbA : Below w2.heap.size w2 (w2.alloc (.cells #[.string ⟨t2.toArray⟩] 9)) := (Below.refl _ _).alloc (Nat.le_refl _) _
  have hf12 := F1.out.trans f2
  have hs12 := hf12.size
  have HNI : Hid (NI w b g s2 (.slice (some ⟨w2.heap.size, 0, none⟩) 1 1) [t2] (w2.alloc (.cells #[.string ⟨t2.toArray⟩] 9))) := by
    refine Lib.hid ⟨h2.below hbA, ⟨⟨[.string ⟨t2.toArray⟩], ?_, ?_⟩, fun x _ hp => hp⟩, hf12.trans (But.of_below hbA), hlb.1, hlb.2⟩
    · exact World.ownsRow_lit w2 #[.string ⟨t2.toArray⟩] 1 hs12 (by unfold maxLen; omega) rfl
    · exact RowsD.cons (cs' := []) (.str t2) rfl .nil
  have HM := Lib.hid h2.rest_len
  clear h2 f2 hs2 ht2 hbA hf12
  go_wp2_with fail
  go_loopg [5] (s2.rest.length + 2) (fun k s5 wr => ∃ (m : Nat) (s : Rd.St) (out : List (List UInt8)), k = m + 1 ∧ s.rest.length < m ∧ out.length + s.rest.length ≤ 1502 ∧ NI w b g s s5 out wr ∧ Sd.namesGo c m s out = Sd.namesGo c (s2.rest.length + 1) s2 [t2])
  case atStart => exact ⟨s2.rest.length + 1, s2, [t2], rfl, by omega, by have := HM.out; simp; omega, HNI.out, rfl⟩
  case round =>
    obtain ⟨m, sr, out, rfl, hm, hol, hN, hgo⟩ := hrel
    obtain ⟨va, vc, hv⟩ := hN.row.form
    rw [sds_len] at hv
    subst hv
    have HN := Lib.hid hN
    have HGO := Lib.hid hgo
    clear hN hgo HNI
    go_wp2_with fail
    refine (rtake_any b g sr c wr HN.out.rd).mono ?_
    rintro r w3 ⟨rfl, h3, f3⟩
    have HN3 := Lib.hid (HN.out.step h3 f3)
    obtain ⟨B, hB⟩ : ∃ B, B = Rd.isS sr c := ⟨_, rfl⟩
    have HB := Lib.hid hB
    rw [← hB]
    clear hB h3 f3
    obtain ⟨m', rfl⟩ : ∃ m', m = m' + 1 := ⟨m - 1, by omega⟩
    cases B
    · have HT : Hid (Rd.take c sr = sr) := by unfold Rd.take; rw [if_neg (by rw [← HB.out]; simp)]; exact Lib.hid rfl
      have HE : Hid (Sd.names c s = (sr, out)) := by
        rw [HNM.out, ← HGO.out, Sd.namesGo, if_neg (by rw [← HB.out]; simp)]
        exact Lib.hid rfl
      go_wp2_with fail
      go_ret
      have hr := HN3.out.row.reads.to (Q := fun x => w.heap.size ≤ x) (Stands.sub w3 (fun x _ hp => by
        rcases hp with hp | hp
        · exact hp.elim
        · exact (HN3.out.row.lt x hp).1))
      rw [HE.out]
      exact ⟨va, vc, by rw [sds_len]; rfl, by rw [sds_len]; exact hr, by have := HN3.out.rd; rw [HT.out] at this; exact this, HN3.out.fr⟩
    · have HT : Hid (Rd.take c sr = Rd.next sr) := by unfold Rd.take; rw [if_pos HB.out.symm]; exact Lib.hid rfl
      have HNX := Lib.hid (Rd.next_sign HB.out.symm)
      have HN4 : Hid (NI w b g (Rd.next sr) (.slice va out.length vc) out w3) := by rw [← HT.out]; exact HN3
      have HOK := Lib.hid (Rd.ok_name (Rd.next sr))
      have HST : Hid (Sd.namesGo c m' (Rd.name (Rd.next sr)).1 (out ++ [(Rd.name (Rd.next sr)).2]) = Sd.namesGo c (s2.rest.length + 1) s2 [t2]) := by
        rw [← HGO.out, Sd.namesGo, if_pos HB.out.symm]
        exact Lib.hid rfl
      clear HN3
      go_wp2_with fail
      refine (rname_any b g (Rd.next sr) w3 HN4.out.rd).mono ?_
      rintro r w4 ⟨rfl, h4, f4⟩
      obtain ⟨s5', hs5⟩ : ∃ x, x = (Rd.name (Rd.next sr)).1 := ⟨_, rfl⟩
      obtain ⟨t5, ht5⟩ : ∃ x, x = (Rd.name (Rd.next sr)).2 := ⟨_, rfl⟩
      rw [← hs5] at h4
      rw [← ht5]
      have HS5 := Lib.hid hs5
      have HT5 := Lib.hid ht5
      have hN5 := HN4.out.step h4 f4
      have hbA : Below w4.heap.size w4 (w4.alloc (.cells #[.string ⟨t5.toArray⟩] 9)) := (Below.refl _ _).alloc (Nat.le_refl _) _
      have hN6 := hN5.step (hN5.rd.below hbA) (But.of_below hbA)
      obtain ⟨⟨xs, hx, hRo⟩, hap⟩ := hN6.row
      rw [sds_len] at hx
      have HN6 := Lib.hid hN6
      have HX := Lib.hid hx
      have HRO := Lib.hid hRo
      have HLIT : Hid (∀ j u, ([.string ⟨t5.toArray⟩] : List Value)[j]? = some u → (w4.alloc (.cells #[.string ⟨t5.toArray⟩] 9)).cell? ((⟨w4.heap.size, 0, none⟩ : Addr).add j) = some u) := Lib.hid (lit_cells (fz := (0, 0)) (heap_at_new _ _))
      have hbase : w.heap.size ≤ (w4.alloc (.cells #[.string ⟨t5.toArray⟩] 9)).heap.size := hN6.fr.size
      clear h4 f4 hs5 ht5 hN5 hbA hN6 hx hRo hap HN4
      go_wp2_with (first | (at_builtin; refine wpList_append_own_at _ rfl _ _ 34 rfl w.heap.size 9 i0 (.string ⟨#[]⟩) 1 16 Tryz.underlying34 hi hz0 hz1 hz2 rfl (by decide) (.slice va out.length vc) out.length xs rfl HX.out ⟨w4.heap.size, 0, none⟩ 1 1 [.string ⟨t5.toArray⟩] rfl rfl HLIT.out (fun u hu => by simp at hu; subst hu; rfl) (by unfold maxLen; omega) (by omega) hbase ?_; intro v' w8 hrow8 hg8 hnil8 hloc8; clear hnil8 hloc8; have HROW := Lib.hid hrow8; have HG8 := Lib.hid hg8; clear hrow8 hg8) | fail)
      go_roundg (m' + 1)
      case measure => omega
      case rel =>
        have hlen := HOK.out.len
        have h1 := HNX.out.1
        rw [← HS5.out] at hlen
        refine ⟨m', s5', out ++ [t5], rfl, by omega, by rw [List.length_append]; simp; omega, HN6.out.more HG8.out HX.out HRO.out HROW.out, by rw [HS5.out, HT5.out]; exact HST.out⟩
end Go.Proofs.YtabcaljnpahgpaaGreatDoor
namespace Go.Proofs.YtabcaljnpahgpaaGreatDoor
set_option linter.unusedSimpArgs false
set_option linter.unusedVariables false
open Go Go.RowKit

/-- A block that is being filled, beside blocks that are kept. -/
structure BI (w0 : World) (b g t6 : Nat) (bx : List Box) (T6 : TypeId) (c6 : Array Value) (s : Rd.St) (w : World) : Prop where
  rd : RdAt w b g s
  cb : ∀ p ∈ bx, w.heap[p.1]? = some p.2
  b6 : w.heap[t6]? = some (.cells c6 T6 (0, 0))
  fr : Fr b w0 w
  lb : b < w0.heap.size
  lg : g < w0.heap.size
  lx : ∀ p ∈ bx, w0.heap.size ≤ p.1 ∧ p.1 < t6
  l6 : w0.heap.size ≤ t6
section
variable {w0 w w' : World} {b g t6 : Nat} {bx : List Box} {T6 : TypeId} {c6 : Array Value} {s s' : Rd.St}
theorem BI.step (h : BI w0 b g t6 bx T6 c6 s w) (hr : RdAt w' b g s') (hf : Fr b w w') : BI w0 b g t6 bx T6 c6 s' w' := by
  have lb := h.lb
  have l6 := h.l6
  refine ⟨hr, fun p hp => ?_, ?_, h.fr.trans hf, lb, h.lg, h.lx, l6⟩
  · have hp1 := h.cb p hp
    have hp2 := h.lx p hp
    rw [hf.block p.1 (block_lt hp1) (by omega)]
    exact hp1
  · rw [hf.block t6 (block_lt h.b6) (by omega)]
    exact h.b6
theorem BI.below (h : BI w0 b g t6 bx T6 c6 s w) (hb : Below w.heap.size w w') : BI w0 b g t6 bx T6 c6 s w' := h.step (h.rd.below hb) (But.of_below hb)
theorem BI.put (h : BI w0 b g t6 bx T6 c6 s w) (j : Nat) (v : Value) : BI w0 b g t6 bx T6 (c6.setIfInBounds j v) s (w.setCell ⟨t6, j, none⟩ v) := by
  have lb := h.lb
  have lg := h.lg
  have l6 := h.l6
  refine ⟨h.rd.set_ne (by omega) (by omega) _ _, fun p hp => ?_, heap_set1 h.b6, h.fr.setCell (.inr l6) v, lb, lg, h.lx, l6⟩
  have hp2 := h.lx p hp
  rw [heap_set_ne (by omega)]
  exact h.cb p hp
theorem BI.cellx (h : BI w0 b g t6 bx T6 c6 s w) {t : Nat} {v : Value} {T : TypeId} (hp : (t, Obj.cells #[v] T (0, 0)) ∈ bx) : w.cell? ⟨t, 0, none⟩ = some v := by
  have := h.cb _ hp
  simp only at this
  simp [World.cell?, this]
/-- The end: what was filled is copied to its place. -/
theorem BI.fin {d : D} {cs : List Value} {P : Nat → Prop} {r : Nat} {o : Obj} (h : BI w0 b g t6 bx T6 cs.toArray s w) (hr : (r, o) ∈ bx) (hd : Reads w P d cs) (hP : ∀ x, P x → t6 < x) :
    Reads (putCells w r 0 cs) (fun x => w0.heap.size ≤ x) d cs ∧ RdAt (putCells w r 0 cs) b g s ∧ Fr b w0 (putCells w r 0 cs) := by
  have lb := h.lb
  have lg := h.lg
  have l6 := h.l6
  have hr2 := h.lx _ hr
  simp only at hr2
  have hk : ∀ x, x ≠ r → (putCells w r 0 cs).heap[x]? = w.heap[x]? := fun x h1 => putCells_ne _ _ h1 _ _ _
  have hsz := putCells_size r cs 0 w
  have ho := putCells_os r cs 0 w
  refine ⟨hd.to ⟨by rw [hsz]; exact Nat.le_refl _, fun x hx hp => ⟨by have := hP x hp; show w0.heap.size ≤ x; omega, hk x (by have := hP x hp; omega)⟩⟩, h.rd.to (by rw [hsz]; exact Nat.le_refl _) (hk b (by omega)) (hk g (by omega)), ⟨ho.1.trans h.fr.os, ho.2.1.trans h.fr.tape, ho.2.2.trans h.fr.output, by rw [hsz]; exact h.fr.size, fun x hx hxb => by
    rw [hk x (by omega)]
    exact h.fr.block x hx hxb⟩⟩
end
namespace Sd
def In.d (x : In) : D := .obj [.str x.name, .str x.type, .bool x.has, x.dflt.d, .int x.at_]
def Fd.d (x : Fd) : D := .obj [.str x.name, .seq 9 (x.args.map In.d), .str x.type, .int x.at_]
def Td.d (x : Td) : D := .obj [.int x.kind, .str x.name, .seq 1 (sds x.impl), .seq 4 (x.fields.map Fd.d), .seq 1 (sds x.members), .seq 9 (x.inputs.map In.d), .int x.at_]
end Sd

set_option maxHeartbeats 1000000 in
set_option maxRecDepth 100000 in
theorem member_any (b g : Nat) (s : Rd.St) (w : World) (h : RdAt w b g s) :
    Calls Tryz.prog 78 #[.pointer (some ⟨b, 0, none⟩)] w fun r w' => r = .returned (.string ⟨(Sd.member s).2.toArray⟩) ∧ RdAt w' b g (Sd.member s).1 ∧ Fr b w w' := by
  have H := Lib.hid h
  clear h
  go_enter Tryz.func78, Tryz.ntmps78
  go_wp2_with fail
  refine (told_any b g s w H.out).mono ?_
  rintro r w1 ⟨rfl, h1, f1⟩
  have H1 := Lib.hid h1
  have F1 := Lib.hid f1
  clear h1 f1
  have hb3 : Below w1.heap.size w1 (w1.alloc (.cells #[.string ⟨#[116, 114, 117, 101]⟩, .string ⟨#[102, 97, 108, 115, 101]⟩, .string ⟨#[110, 117, 108, 108]⟩] 9)) := (Below.refl _ _).alloc (Nat.le_refl _) _
  have HB3 := Lib.hid hb3
  clear hb3
  go_wp2_with fail
  refine (rword_any b g (Sd.told s) _ [Rd.sTrue, Rd.sFalse, Rd.sNull] _ (H1.out.below HB3.out) (txts_lit w1 [Rd.sTrue, Rd.sFalse, Rd.sNull] _ _ rfl) (by simp)).mono ?_
  rintro r w2 ⟨rfl, hb2⟩
  have HB2 := Lib.hid (HB3.out.trans (hb2.mono HB3.out.size))
  have H2 := Lib.hid (H1.out.below HB2.out)
  obtain ⟨B, hB⟩ : ∃ B, B = Rd.isW (Sd.told s) [Rd.sTrue, Rd.sFalse, Rd.sNull] := ⟨_, rfl⟩
  have HB := Lib.hid hB
  rw [← hB]
  clear hB hb2
  cases B
  · have HE : Hid (Sd.member s = Rd.name (Sd.told s)) := by unfold Sd.member; rw [if_neg (by rw [← HB.out]; simp)]; exact Lib.hid rfl
    go_wp2_with fail
    refine (rname_any b g _ w2 H2.out).mono ?_
    rintro r w3 ⟨rfl, h3, f3⟩
    have H3 := Lib.hid h3
    have F3 := Lib.hid f3
    clear h3 f3
    go_wp2_with fail
    go_ret
    rw [HE.out]
    exact ⟨rfl, H3.out, (F1.out.trans (But.of_below HB2.out)).trans F3.out⟩
  · have HE : Hid (Sd.member s = Rd.name (Rd.wrong (Sd.told s))) := by unfold Sd.member; rw [if_pos HB.out.symm]; exact Lib.hid rfl
    go_wp2_with fail
    refine (rwrong_any b g _ w2 H2.out).mono ?_
    rintro r w4 ⟨rfl, h4, f4⟩
    have H4 := Lib.hid h4
    have F4 := Lib.hid f4
    clear h4 f4
    go_wp2_with fail
    refine (rname_any b g _ w4 H4.out).mono ?_
    rintro r w3 ⟨rfl, h3, f3⟩
    have H3 := Lib.hid h3
    have F3 := Lib.hid f3
    clear h3 f3
    go_wp2_with fail
    go_ret
    rw [HE.out]
    exact ⟨rfl, H3.out, ((F1.out.trans (But.of_below HB2.out)).trans F4.out).trans F3.out⟩
end Go.Proofs.YtabcaljnpahgpaaGreatDoor
namespace Go.Proofs.YtabcaljnpahgpaaGreatDoor
set_option linter.unusedSimpArgs false
set_option linter.unusedVariables false
open Go Go.RowKit

set_option maxHeartbeats 2000000 in
set_option maxRecDepth 100000 in
theorem input_any (b g : Nat) (n : Nat) (hnb : n ≤ 1600) (s : Rd.St) (w : World) (h : RdAt w b g s) (hn : s.err ≠ 0 ∨ s.rest.length ≤ n) (hd : 0 ≤ s.deep ∧ s.deep + n ≤ 900000) :
    Calls Tryz.prog 80 #[.pointer (some ⟨b, 0, none⟩)] w (Got b g w (Sd.input (n + 1) s).2.d (Sd.input (n + 1) s).1) := by
  have hlb := h.lt
  have H := Lib.hid h
  have HN := Lib.hid hn
  obtain ⟨d0, d1⟩ := hd
  have hba : Below w.heap.size w (w.alloc (.cells #[.string ⟨#[]⟩, .string ⟨#[]⟩, .bool false, .int .i64 0, .string ⟨#[]⟩, .slice none 0 0, .slice none 0 0, .int .i64 0, .int .i64 0] 137)) := (Below.refl _ _).alloc (Nat.le_refl _) _
  have HBA := Lib.hid hba
  clear h hn hba
  go_enter Tryz.func80, Tryz.ntmps80
  go_wp2_with fail
  refine (told_any b g s _ (H.out.below HBA.out)).mono ?_
  rintro r w1 ⟨rfl, h1, f1⟩
  obtain ⟨s1, hs1⟩ : ∃ x, x = Sd.told s := ⟨_, rfl⟩
  rw [← hs1] at h1
  have HS1 := Lib.hid hs1
  have H1 := Lib.hid h1
  have F1 := Lib.hid f1
  clear h1 f1 hs1
  go_wp2_with fail
  refine (rpeek_any b g s1 w1 H1.out).mono ?_
  rintro r w2 ⟨rfl, hb2⟩
  obtain ⟨pa, hpa⟩ : ∃ x, x = (Rd.peek s1).at_ := ⟨_, rfl⟩
  rw [← hpa]
  have HPA := Lib.hid hpa
  have hBI : BI w b g w2.heap.size [(w.heap.size, .cells #[.string ⟨#[]⟩, .string ⟨#[]⟩, .bool false, .int .i64 0, .string ⟨#[]⟩, .slice none 0 0, .slice none 0 0, .int .i64 0, .int .i64 0] 137 (0, 0))] 137 #[.string ⟨#[]⟩, .string ⟨#[]⟩, .bool false, .int .i64 0, .string ⟨#[]⟩, .slice none 0 0, .slice none 0 0, .int .i64 0, .int .i64 pa] s1 (w2.alloc (.cells #[.string ⟨#[]⟩, .string ⟨#[]⟩, .bool false, .int .i64 0, .string ⟨#[]⟩, .slice none 0 0, .slice none 0 0, .int .i64 0, .int .i64 pa] 137)) := by
    have hsz : (w.alloc (.cells #[.string ⟨#[]⟩, .string ⟨#[]⟩, .bool false, .int .i64 0, .string ⟨#[]⟩, .slice none 0 0, .slice none 0 0, .int .i64 0, .int .i64 0] 137)).heap.size = w.heap.size + 1 := by simp
    have hs1 := F1.out.size
    have hs2 := hb2.size
    have hbb : Below w2.heap.size w2 (w2.alloc (.cells #[.string ⟨#[]⟩, .string ⟨#[]⟩, .bool false, .int .i64 0, .string ⟨#[]⟩, .slice none 0 0, .slice none 0 0, .int .i64 0, .int .i64 pa] 137)) := (Below.refl _ _).alloc (Nat.le_refl _) _
    refine ⟨(H1.out.below hb2).below hbb, fun p hp => ?_, heap_at_new _ _, (((But.of_below HBA.out).trans F1.out).trans (But.of_below hb2)).trans (But.of_below hbb), hlb.1, hlb.2, fun p hp => ?_, by omega⟩
    · simp only [List.mem_singleton] at hp
      subst hp
      show (w2.alloc _).heap[w.heap.size]? = _
      rw [hbb.block w.heap.size (by omega), hb2.block w.heap.size (by omega), F1.out.block w.heap.size (by omega) (by omega)]
      exact heap_at_new _ _
    · simp only [List.mem_singleton] at hp
      subst hp
      simp only
      omega
  have HB0 := Lib.hid hBI
  obtain ⟨t6, ht6⟩ : ∃ x, x = w2.heap.size := ⟨_, rfl⟩
  have HT6 := Lib.hid ht6
  have HOK1 : Hid (Rd.Ok s s1) := by
    rw [HS1.out]
    refine Lib.hid ?_
    unfold Sd.told
    split
    · exact Rd.ok_next s
    · exact Rd.Ok.refl s
  have HDP1 : Hid (s1.deep = s.deep) := by
    rw [HS1.out]
    refine Lib.hid ?_
    unfold Sd.told
    split
    · exact Rd.next_deep s
    · rfl
  clear hb2 hBI hpa
  go_wp2_with fail
  refine (rname_any b g s1 _ HB0.out.rd).mono ?_
  rintro r w3 ⟨rfl, h3, f3⟩
  have hB3 := HB0.out.step h3 f3
  rw [← ht6] at hB3 ⊢
  clear ht6
  obtain ⟨s3, hs3⟩ : ∃ x, x = (Rd.name s1).1 := ⟨_, rfl⟩
  obtain ⟨nm, hnm⟩ : ∃ x, x = (Rd.name s1).2 := ⟨_, rfl⟩
  rw [← hs3] at hB3
  rw [← hnm]
  have HS3 := Lib.hid hs3
  have HNM := Lib.hid hnm
  have HB3 := Lib.hid hB3
  have l6 := hB3.lx _ (List.mem_singleton.2 rfl)
  simp only at l6
  have n1 : ¬ t6 = w.heap.size := by omega
  have n2 : ¬ w.heap.size = t6 := by omega
  have HOK3 : Hid (Rd.Ok s s3) := by rw [HS3.out]; exact Lib.hid (HOK1.out.trans (Rd.ok_name s1))
  have HDP3 : Hid (s3.deep = s.deep) := by rw [HS3.out, Rd.name_deep, HDP1.out]; exact Lib.hid rfl
  clear h3 f3 hB3 hs3 hnm
  have y0 := blk_cell HB3.out.b6 0 (.string ⟨#[]⟩) rfl
  have yf0 := blk_free HB3.out.b6 0
  have y1 := blk_cell HB3.out.b6 1 (.string ⟨#[]⟩) rfl
  have yf1 := blk_free HB3.out.b6 1
  have y2 := blk_cell HB3.out.b6 2 (.bool false) rfl
  have yf2 := blk_free HB3.out.b6 2
  have y3 := blk_cell HB3.out.b6 3 (.int .i64 0) rfl
  have yf3 := blk_free HB3.out.b6 3
  have y4 := blk_cell HB3.out.b6 4 (.string ⟨#[]⟩) rfl
  have yf4 := blk_free HB3.out.b6 4
  have y5 := blk_cell HB3.out.b6 5 (.slice none 0 0) rfl
  have yf5 := blk_free HB3.out.b6 5
  have y6 := blk_cell HB3.out.b6 6 (.slice none 0 0) rfl
  have yf6 := blk_free HB3.out.b6 6
  have y7 := blk_cell HB3.out.b6 7 (.int .i64 0) rfl
  have yf7 := blk_free HB3.out.b6 7
  have y8 := blk_cell HB3.out.b6 8 (.int .i64 pa) rfl
  have yf8 := blk_free HB3.out.b6 8
  have HB4 := Lib.hid (HB3.out.put 0 (.string ⟨nm.toArray⟩))
  go_wp2_with fail
  refine (rwant_any b g s3 Rd.colon _ HB4.out.rd).mono ?_
  rintro r w5 ⟨rfl, h5, f5⟩
  have HB5 := Lib.hid (HB4.out.step h5 f5)
  obtain ⟨s5, hs5⟩ : ∃ x, x = Rd.want Rd.colon s3 := ⟨_, rfl⟩
  rw [← hs5] at HB5
  have HS5 := Lib.hid hs5
  have HOK5 : Hid (Rd.Ok s s5) := by rw [HS5.out]; exact Lib.hid (HOK3.out.trans (Rd.ok_want _ s3))
  have HDP5 : Hid (s5.deep = s.deep) := by rw [HS5.out, Rd.want_deep, HDP3.out]; exact Lib.hid rfl
  have HN5 : Hid (s5.err ≠ 0 ∨ s5.rest.length ≤ n) := by
    refine Lib.hid ?_
    rcases HN.out with h | h
    · left; rw [HOK5.out.err h]; exact h
    · right; exact Nat.le_trans HOK5.out.len h
  clear h5 f5 hs5
  clear y0 yf0 y1 yf1 y2 yf2 y3 yf3 y4 yf4 y5 yf5 y6 yf6 y7 yf7 y8 yf8
  go_wp2_with fail
  refine (rtype_any b g n s5 w5 HB5.out.rd HN5.out hnb (by rw [HDP5.out]; omega)).mono ?_
  rintro r w6 ⟨rfl, h6, f6⟩
  obtain ⟨s6, hs6⟩ : ∃ x, x = (Rd.type (n + 1) s5).1 := ⟨_, rfl⟩
  obtain ⟨ty, hty⟩ : ∃ x, x = (Rd.type (n + 1) s5).2 := ⟨_, rfl⟩
  have hB6 := HB5.out.step h6 f6
  rw [← hs6] at hB6
  rw [← hty]
  have HS6 := Lib.hid hs6
  have HTY := Lib.hid hty
  have HB6 := Lib.hid hB6
  have HOK6 : Hid (Rd.Ok s s6) := by rw [HS6.out]; exact Lib.hid (HOK5.out.trans (Rd.ok_type _ s5))
  have HDP6 : Hid (s6.deep = s.deep) := by rw [HS6.out, Rd.type_deep, HDP5.out]; exact Lib.hid rfl
  clear h6 f6 hB6 hs6 hty
  have y0 := blk_cell HB6.out.b6 0 (.string ⟨nm.toArray⟩) rfl
  have yf0 := blk_free HB6.out.b6 0
  have y1 := blk_cell HB6.out.b6 1 (.string ⟨#[]⟩) rfl
  have yf1 := blk_free HB6.out.b6 1
  have y2 := blk_cell HB6.out.b6 2 (.bool false) rfl
  have yf2 := blk_free HB6.out.b6 2
  have y3 := blk_cell HB6.out.b6 3 (.int .i64 0) rfl
  have yf3 := blk_free HB6.out.b6 3
  have y4 := blk_cell HB6.out.b6 4 (.string ⟨#[]⟩) rfl
  have yf4 := blk_free HB6.out.b6 4
  have y5 := blk_cell HB6.out.b6 5 (.slice none 0 0) rfl
  have yf5 := blk_free HB6.out.b6 5
  have y6 := blk_cell HB6.out.b6 6 (.slice none 0 0) rfl
  have yf6 := blk_free HB6.out.b6 6
  have y7 := blk_cell HB6.out.b6 7 (.int .i64 0) rfl
  have yf7 := blk_free HB6.out.b6 7
  have y8 := blk_cell HB6.out.b6 8 (.int .i64 pa) rfl
  have yf8 := blk_free HB6.out.b6 8
  have HB7 := Lib.hid (HB6.out.put 1 (.string ⟨ty.toArray⟩))
  go_wp2_with fail
  refine (rtake_any b g s6 Sd.eq_ _ HB7.out.rd).mono ?_
  rintro r w8 ⟨rfl, h8, f8⟩
  have HB8 := Lib.hid (HB7.out.step h8 f8)
  obtain ⟨B, hB⟩ : ∃ B, B = Rd.isS s6 Sd.eq_ := ⟨_, rfl⟩
  have HB := Lib.hid hB
  rw [← hB]
  have HB9 := Lib.hid (HB8.out.put 2 (.bool B))
  clear h8 f8 hB
  clear y0 yf0 y1 yf1 y2 yf2 y3 yf3 y4 yf4 y5 yf5 y6 yf6 y7 yf7 y8 yf8
  have y0 := blk_cell HB8.out.b6 0 (.string ⟨nm.toArray⟩) rfl
  have yf0 := blk_free HB8.out.b6 0
  have y1 := blk_cell HB8.out.b6 1 (.string ⟨ty.toArray⟩) rfl
  have yf1 := blk_free HB8.out.b6 1
  have y2 := blk_cell HB8.out.b6 2 (.bool false) rfl
  have yf2 := blk_free HB8.out.b6 2
  have y3 := blk_cell HB8.out.b6 3 (.int .i64 0) rfl
  have yf3 := blk_free HB8.out.b6 3
  have y4 := blk_cell HB8.out.b6 4 (.string ⟨#[]⟩) rfl
  have yf4 := blk_free HB8.out.b6 4
  have y5 := blk_cell HB8.out.b6 5 (.slice none 0 0) rfl
  have yf5 := blk_free HB8.out.b6 5
  have y6 := blk_cell HB8.out.b6 6 (.slice none 0 0) rfl
  have yf6 := blk_free HB8.out.b6 6
  have y7 := blk_cell HB8.out.b6 7 (.int .i64 0) rfl
  have yf7 := blk_free HB8.out.b6 7
  have y8 := blk_cell HB8.out.b6 8 (.int .i64 pa) rfl
  have yf8 := blk_free HB8.out.b6 8
  have z0 := blk_cell (HB8.out.cb (w.heap.size, .cells #[.string ⟨#[]⟩, .string ⟨#[]⟩, .bool false, .int .i64 0, .string ⟨#[]⟩, .slice none 0 0, .slice none 0 0, .int .i64 0, .int .i64 0] 137 (0, 0)) (by simp)) 0 (.string ⟨#[]⟩) rfl
  have zf0 := blk_free (HB8.out.cb (w.heap.size, .cells #[.string ⟨#[]⟩, .string ⟨#[]⟩, .bool false, .int .i64 0, .string ⟨#[]⟩, .slice none 0 0, .slice none 0 0, .int .i64 0, .int .i64 0] 137 (0, 0)) (by simp)) 0
  have z1 := blk_cell (HB8.out.cb (w.heap.size, .cells #[.string ⟨#[]⟩, .string ⟨#[]⟩, .bool false, .int .i64 0, .string ⟨#[]⟩, .slice none 0 0, .slice none 0 0, .int .i64 0, .int .i64 0] 137 (0, 0)) (by simp)) 1 (.string ⟨#[]⟩) rfl
  have zf1 := blk_free (HB8.out.cb (w.heap.size, .cells #[.string ⟨#[]⟩, .string ⟨#[]⟩, .bool false, .int .i64 0, .string ⟨#[]⟩, .slice none 0 0, .slice none 0 0, .int .i64 0, .int .i64 0] 137 (0, 0)) (by simp)) 1
  have z2 := blk_cell (HB8.out.cb (w.heap.size, .cells #[.string ⟨#[]⟩, .string ⟨#[]⟩, .bool false, .int .i64 0, .string ⟨#[]⟩, .slice none 0 0, .slice none 0 0, .int .i64 0, .int .i64 0] 137 (0, 0)) (by simp)) 2 (.bool false) rfl
  have zf2 := blk_free (HB8.out.cb (w.heap.size, .cells #[.string ⟨#[]⟩, .string ⟨#[]⟩, .bool false, .int .i64 0, .string ⟨#[]⟩, .slice none 0 0, .slice none 0 0, .int .i64 0, .int .i64 0] 137 (0, 0)) (by simp)) 2
  have z3 := blk_cell (HB8.out.cb (w.heap.size, .cells #[.string ⟨#[]⟩, .string ⟨#[]⟩, .bool false, .int .i64 0, .string ⟨#[]⟩, .slice none 0 0, .slice none 0 0, .int .i64 0, .int .i64 0] 137 (0, 0)) (by simp)) 3 (.int .i64 0) rfl
  have zf3 := blk_free (HB8.out.cb (w.heap.size, .cells #[.string ⟨#[]⟩, .string ⟨#[]⟩, .bool false, .int .i64 0, .string ⟨#[]⟩, .slice none 0 0, .slice none 0 0, .int .i64 0, .int .i64 0] 137 (0, 0)) (by simp)) 3
  have z4 := blk_cell (HB8.out.cb (w.heap.size, .cells #[.string ⟨#[]⟩, .string ⟨#[]⟩, .bool false, .int .i64 0, .string ⟨#[]⟩, .slice none 0 0, .slice none 0 0, .int .i64 0, .int .i64 0] 137 (0, 0)) (by simp)) 4 (.string ⟨#[]⟩) rfl
  have zf4 := blk_free (HB8.out.cb (w.heap.size, .cells #[.string ⟨#[]⟩, .string ⟨#[]⟩, .bool false, .int .i64 0, .string ⟨#[]⟩, .slice none 0 0, .slice none 0 0, .int .i64 0, .int .i64 0] 137 (0, 0)) (by simp)) 4
  have z5 := blk_cell (HB8.out.cb (w.heap.size, .cells #[.string ⟨#[]⟩, .string ⟨#[]⟩, .bool false, .int .i64 0, .string ⟨#[]⟩, .slice none 0 0, .slice none 0 0, .int .i64 0, .int .i64 0] 137 (0, 0)) (by simp)) 5 (.slice none 0 0) rfl
  have zf5 := blk_free (HB8.out.cb (w.heap.size, .cells #[.string ⟨#[]⟩, .string ⟨#[]⟩, .bool false, .int .i64 0, .string ⟨#[]⟩, .slice none 0 0, .slice none 0 0, .int .i64 0, .int .i64 0] 137 (0, 0)) (by simp)) 5
  have z6 := blk_cell (HB8.out.cb (w.heap.size, .cells #[.string ⟨#[]⟩, .string ⟨#[]⟩, .bool false, .int .i64 0, .string ⟨#[]⟩, .slice none 0 0, .slice none 0 0, .int .i64 0, .int .i64 0] 137 (0, 0)) (by simp)) 6 (.slice none 0 0) rfl
  have zf6 := blk_free (HB8.out.cb (w.heap.size, .cells #[.string ⟨#[]⟩, .string ⟨#[]⟩, .bool false, .int .i64 0, .string ⟨#[]⟩, .slice none 0 0, .slice none 0 0, .int .i64 0, .int .i64 0] 137 (0, 0)) (by simp)) 6
  have z7 := blk_cell (HB8.out.cb (w.heap.size, .cells #[.string ⟨#[]⟩, .string ⟨#[]⟩, .bool false, .int .i64 0, .string ⟨#[]⟩, .slice none 0 0, .slice none 0 0, .int .i64 0, .int .i64 0] 137 (0, 0)) (by simp)) 7 (.int .i64 0) rfl
  have zf7 := blk_free (HB8.out.cb (w.heap.size, .cells #[.string ⟨#[]⟩, .string ⟨#[]⟩, .bool false, .int .i64 0, .string ⟨#[]⟩, .slice none 0 0, .slice none 0 0, .int .i64 0, .int .i64 0] 137 (0, 0)) (by simp)) 7
  have z8 := blk_cell (HB8.out.cb (w.heap.size, .cells #[.string ⟨#[]⟩, .string ⟨#[]⟩, .bool false, .int .i64 0, .string ⟨#[]⟩, .slice none 0 0, .slice none 0 0, .int .i64 0, .int .i64 0] 137 (0, 0)) (by simp)) 8 (.int .i64 0) rfl
  have zf8 := blk_free (HB8.out.cb (w.heap.size, .cells #[.string ⟨#[]⟩, .string ⟨#[]⟩, .bool false, .int .i64 0, .string ⟨#[]⟩, .slice none 0 0, .slice none 0 0, .int .i64 0, .int .i64 0] 137 (0, 0)) (by simp)) 8
  cases B
  · have HT : Hid (Rd.take Sd.eq_ s6 = s6) := by unfold Rd.take; rw [if_neg (by rw [← HB.out]; simp)]; exact Lib.hid rfl
    have HE : Hid (Sd.input (n + 1) s = (s6, ⟨nm, ty, false, Rd.V.none, pa⟩)) := by
      have hdf : Sd.dflt (n + 1) s6 = (s6, Rd.V.none) := by unfold Sd.dflt; rw [if_neg (by rw [← HB.out]; simp)]
      refine Lib.hid ?_
      unfold Sd.input
      dsimp only
      rw [← HS1.out, ← HS3.out, ← HNM.out, ← HS5.out, ← HS6.out, ← HTY.out, ← HPA.out, ← HB.out, hdf]
    have HBz : Hid (BI w b g t6 [(w.heap.size, .cells #[.string ⟨#[]⟩, .string ⟨#[]⟩, .bool false, .int .i64 0, .string ⟨#[]⟩, .slice none 0 0, .slice none 0 0, .int .i64 0, .int .i64 0] 137 (0, 0))] 137 [.string ⟨nm.toArray⟩, .string ⟨ty.toArray⟩, .bool false, .int .i64 0, .string ⟨#[]⟩, .slice none 0 0, .slice none 0 0, .int .i64 0, .int .i64 pa].toArray s6 (w8.setCell ⟨t6, 2, none⟩ (.bool false))) := by
      have := HB9.out
      rw [HT.out] at this
      exact Lib.hid this
    have HRS : Hid (Reads (w8.setCell ⟨t6, 2, none⟩ (.bool false)) (fun _ => False) (Sd.In.d ⟨nm, ty, false, Rd.V.none, pa⟩) [.string ⟨nm.toArray⟩, .string ⟨ty.toArray⟩, .bool false, .int .i64 0, .string ⟨#[]⟩, .slice none 0 0, .slice none 0 0, .int .i64 0, .int .i64 pa]) := by
      unfold Sd.In.d
      exact Lib.hid (.obj (.cons (.str _) (.cons (.str _) (.cons (.bool _) (.cons (leaf_reads _ 0 0 []) (.cons (.int _) .nil))))))
    have hfin := HBz.out.fin (r := w.heap.size) (List.mem_singleton.2 rfl) HRS.out (fun x hx => hx.elim)
    simp only [putCells, Nat.reduceAdd, Nat.zero_add] at hfin
    have HFN := Lib.hid hfin
    clear hfin
    go_wp2_with fail
    refine bodyPost_ret (v := .agg #[.string ⟨nm.toArray⟩, .string ⟨ty.toArray⟩, .bool false, .int .i64 0, .string ⟨#[]⟩, .slice none 0 0, .slice none 0 0, .int .i64 0, .int .i64 pa]) (by simp [results, Tryz.results80, go_sem, z0, z1, z2, z3, z4, z5, z6, z7, z8, n1, n2]) rfl ?_
    rw [HE.out]
    exact ⟨_, rfl, HFN.out⟩
  · have HT : Hid (Rd.take Sd.eq_ s6 = Rd.next s6) := by unfold Rd.take; rw [if_pos HB.out.symm]; exact Lib.hid rfl
    have HNX := Lib.hid (Rd.next_sign HB.out.symm)
    have HRN : Hid ((Rd.next s6).rest.length ≤ n) := by
      refine Lib.hid ?_
      have h6 := HOK6.out.len
      have h7 := HNX.out.1
      rcases HN.out with h | h
      · have := HOK6.out.err h
        have hz := HB.out
        rw [Rd.isS_err (by rw [this]; exact h)] at hz
        cases hz
      · omega
    have HB9' : Hid (BI w b g t6 [(w.heap.size, .cells #[.string ⟨#[]⟩, .string ⟨#[]⟩, .bool false, .int .i64 0, .string ⟨#[]⟩, .slice none 0 0, .slice none 0 0, .int .i64 0, .int .i64 0] 137 (0, 0))] 137 #[.string ⟨nm.toArray⟩, .string ⟨ty.toArray⟩, .bool true, .int .i64 0, .string ⟨#[]⟩, .slice none 0 0, .slice none 0 0, .int .i64 0, .int .i64 pa] (Rd.next s6) (w8.setCell ⟨t6, 2, none⟩ (.bool true))) := by
      have := HB9.out
      rw [HT.out] at this
      exact Lib.hid this
    have HND := Lib.hid (Rd.next_deep s6)
    go_wp2_with fail
    refine (rvalue_any b g true n hnb (Rd.next s6) _ HB9'.out.rd HRN.out (by rw [HND.out, HDP6.out]; omega)).mono ?_
    rintro r w10 ⟨cs, rfl, hrd, hr10, hf10⟩
    obtain ⟨k, a, t, a1, a2, n1', c1, n2', c2, rfl⟩ := V_cells hrd
    obtain ⟨s10, hs10⟩ : ∃ x, x = (Rd.value true (n + 1) (Rd.next s6)).1 := ⟨_, rfl⟩
    obtain ⟨v10, hv10⟩ : ∃ x, x = (Rd.value true (n + 1) (Rd.next s6)).2 := ⟨_, rfl⟩
    rw [← hs10] at hr10
    rw [← hv10] at hrd
    have HS10 := Lib.hid hs10
    have HV10 := Lib.hid hv10
    have HB10 := Lib.hid (HB9'.out.step hr10 hf10)
    have hlt := block_lt HB9'.out.b6
    have HRD := Lib.hid (hrd.to (w' := putCells w10 t6 3 [.int .i64 k, .string t, .slice a1 n1' c1, .slice a2 n2' c2, .int .i64 a]) (Q := fun x => t6 < x) ⟨by rw [putCells_size]; exact Nat.le_refl _, fun x hx hp => ⟨Nat.lt_of_lt_of_le hlt hp, putCells_ne _ _ (by have : (w8.setCell ⟨t6, 2, none⟩ (.bool true)).heap.size ≤ x := hp; omega) _ _ _⟩⟩)
    have HE : Hid (Sd.input (n + 1) s = (s10, ⟨nm, ty, true, v10, pa⟩)) := by
      have hdf : Sd.dflt (n + 1) s6 = (s10, v10) := by unfold Sd.dflt; rw [if_pos HB.out.symm, HS10.out, HV10.out]
      refine Lib.hid ?_
      unfold Sd.input
      dsimp only
      rw [← HS1.out, ← HS3.out, ← HNM.out, ← HS5.out, ← HS6.out, ← HTY.out, ← HPA.out, ← HB.out, hdf]
    have HRS : Hid (Reads (putCells w10 t6 3 [.int .i64 k, .string t, .slice a1 n1' c1, .slice a2 n2' c2, .int .i64 a]) (fun x => t6 < x) (Sd.In.d ⟨nm, ty, true, v10, pa⟩) [.string ⟨nm.toArray⟩, .string ⟨ty.toArray⟩, .bool true, .int .i64 k, .string t, .slice a1 n1' c1, .slice a2 n2' c2, .int .i64 a, .int .i64 pa]) := by
      unfold Sd.In.d
      exact Lib.hid (.obj (.cons (.str _) (.cons (.str _) (.cons (.bool _) (.cons HRD.out (.cons (.int _) .nil))))))
    have HBz : Hid (BI w b g t6 [(w.heap.size, .cells #[.string ⟨#[]⟩, .string ⟨#[]⟩, .bool false, .int .i64 0, .string ⟨#[]⟩, .slice none 0 0, .slice none 0 0, .int .i64 0, .int .i64 0] 137 (0, 0))] 137 [.string ⟨nm.toArray⟩, .string ⟨ty.toArray⟩, .bool true, .int .i64 k, .string t, .slice a1 n1' c1, .slice a2 n2' c2, .int .i64 a, .int .i64 pa].toArray s10 (putCells w10 t6 3 [.int .i64 k, .string t, .slice a1 n1' c1, .slice a2 n2' c2, .int .i64 a])) :=
      Lib.hid (((((HB10.out.put 3 (.int .i64 k)).put 4 (.string t)).put 5 (.slice a1 n1' c1)).put 6 (.slice a2 n2' c2)).put 7 (.int .i64 a))
    have hfin := HBz.out.fin (r := w.heap.size) (List.mem_singleton.2 rfl) HRS.out (fun x hx => hx)
    simp only [putCells, Nat.reduceAdd, Nat.zero_add] at hfin
    have HFN := Lib.hid hfin
    clear y0 yf0 z0 zf0 y1 yf1 z1 zf1 y2 yf2 z2 zf2 y3 yf3 z3 zf3 y4 yf4 z4 zf4 y5 yf5 z5 zf5 y6 yf6 z6 zf6 y7 yf7 z7 zf7 y8 yf8 z8 zf8
    clear hfin hrd hr10 hf10 hs10 hv10
    have y0 := blk_cell HB10.out.b6 0 (.string ⟨nm.toArray⟩) rfl
    have yf0 := blk_free HB10.out.b6 0
    have y1 := blk_cell HB10.out.b6 1 (.string ⟨ty.toArray⟩) rfl
    have yf1 := blk_free HB10.out.b6 1
    have y2 := blk_cell HB10.out.b6 2 (.bool true) rfl
    have yf2 := blk_free HB10.out.b6 2
    have y3 := blk_cell HB10.out.b6 3 (.int .i64 0) rfl
    have yf3 := blk_free HB10.out.b6 3
    have y4 := blk_cell HB10.out.b6 4 (.string ⟨#[]⟩) rfl
    have yf4 := blk_free HB10.out.b6 4
    have y5 := blk_cell HB10.out.b6 5 (.slice none 0 0) rfl
    have yf5 := blk_free HB10.out.b6 5
    have y6 := blk_cell HB10.out.b6 6 (.slice none 0 0) rfl
    have yf6 := blk_free HB10.out.b6 6
    have y7 := blk_cell HB10.out.b6 7 (.int .i64 0) rfl
    have yf7 := blk_free HB10.out.b6 7
    have y8 := blk_cell HB10.out.b6 8 (.int .i64 pa) rfl
    have yf8 := blk_free HB10.out.b6 8
    have z0 := blk_cell (HB10.out.cb _ (List.mem_singleton.2 rfl)) 0 (.string ⟨#[]⟩) rfl
    have zf0 := blk_free (HB10.out.cb _ (List.mem_singleton.2 rfl)) 0
    have z1 := blk_cell (HB10.out.cb _ (List.mem_singleton.2 rfl)) 1 (.string ⟨#[]⟩) rfl
    have zf1 := blk_free (HB10.out.cb _ (List.mem_singleton.2 rfl)) 1
    have z2 := blk_cell (HB10.out.cb _ (List.mem_singleton.2 rfl)) 2 (.bool false) rfl
    have zf2 := blk_free (HB10.out.cb _ (List.mem_singleton.2 rfl)) 2
    have z3 := blk_cell (HB10.out.cb _ (List.mem_singleton.2 rfl)) 3 (.int .i64 0) rfl
    have zf3 := blk_free (HB10.out.cb _ (List.mem_singleton.2 rfl)) 3
    have z4 := blk_cell (HB10.out.cb _ (List.mem_singleton.2 rfl)) 4 (.string ⟨#[]⟩) rfl
    have zf4 := blk_free (HB10.out.cb _ (List.mem_singleton.2 rfl)) 4
    have z5 := blk_cell (HB10.out.cb _ (List.mem_singleton.2 rfl)) 5 (.slice none 0 0) rfl
    have zf5 := blk_free (HB10.out.cb _ (List.mem_singleton.2 rfl)) 5
    have z6 := blk_cell (HB10.out.cb _ (List.mem_singleton.2 rfl)) 6 (.slice none 0 0) rfl
    have zf6 := blk_free (HB10.out.cb _ (List.mem_singleton.2 rfl)) 6
    have z7 := blk_cell (HB10.out.cb _ (List.mem_singleton.2 rfl)) 7 (.int .i64 0) rfl
    have zf7 := blk_free (HB10.out.cb _ (List.mem_singleton.2 rfl)) 7
    have z8 := blk_cell (HB10.out.cb _ (List.mem_singleton.2 rfl)) 8 (.int .i64 0) rfl
    have zf8 := blk_free (HB10.out.cb _ (List.mem_singleton.2 rfl)) 8
    go_wp2_with fail
    refine bodyPost_ret (v := .agg #[.string ⟨nm.toArray⟩, .string ⟨ty.toArray⟩, .bool true, .int .i64 k, .string t, .slice a1 n1' c1, .slice a2 n2' c2, .int .i64 a, .int .i64 pa]) (by simp [results, Tryz.results80, go_sem, z0, z1, z2, z3, z4, z5, z6, z7, z8, n1, n2]) rfl ?_
    rw [HE.out]
    exact ⟨_, rfl, HFN.out⟩
end Go.Proofs.YtabcaljnpahgpaaGreatDoor
