/-
  The file system: Append, walked. The file system: what is planned stays small (plain). Frames: the table, walked. Frames: bytes that are read; the sum, walked. Frames: four bytes and their number, walked. Frames: slices.Grow and slices.Concat of bytes.
-/
import Derived.Test.YtcinagglbkbmkaaDoorZk5
import Derived.Test.YtcinagglbkbmkaaDoorZk2
import Derived.Shelf.Spec.SlicesGrow
import Derived.Laws.BitsAllLaws
import Derived.OpenShut
import Derived.Laws.AppendOwnNone
namespace Go.Proofs.YtcinagglbkbmkaaDoor
set_option linter.unusedSimpArgs false
set_option linter.unusedVariables false
open Go Go.RowKit
open Go.Maps Go.WideMaps

namespace Fs
def grow (l : List (List UInt8 × Nat)) (i : Nat) (b : List UInt8) : List (List UInt8 × Nat) := match l[i]? with | some f => l.set i (f.1 ++ b, f.2) | none => l
def fileAt (st : St) (n : List UInt8) : List UInt8 := match st.files[idx st n]? with | some f => f.1 | none => []
def append (st : St) (n b : List UInt8) : St × Int :=
  if openE st n ≠ 0 then (st, openE st n)
  else if 65536 < (fileAt st n).length + b.length then (st, 5)
  else if (step st).2.2 ≠ 0 then
    (if 2 < (step st).2.1 then ({ (step st).1 with files := grow st.files (idx st n) (b.take (min (min ((step st).2.1 - 3) b.length) (max 0 (st.room - used st))).toNat) }, (step st).2.2) else ((step st).1, (step st).2.2))
  else if st.room - used st < b.length then ((step st).1, 21)
  else ({ (step st).1 with files := grow st.files (idx st n) b }, 0)
end Fs

/-- Bytes that are handed in: a slice that is not nil, in memory that is no one's. -/
def BytesIn (w : World) (own : Nat → Tag) (v : Value) (l : List UInt8) : Prop :=
  ∃ g o c, v = .slice (some ⟨g, o, none⟩) l.length c ∧ l.length ≤ c ∧ g < w.heap.size ∧ own g = .other ∧ ∀ (i : Nat) (x : UInt8), l[i]? = some x → w.cell? ⟨g, o + i, none⟩ = some (.int .u8 x.toNat)
theorem BytesIn.kept {w w' : World} {own : Nat → Tag} {v : Value} {l : List UInt8} {T : Tag → Prop} (h : BytesIn w own v l) (hk : Kept own T w w') (hT : ¬ T .other) : BytesIn w' own v l := by
  obtain ⟨g, o, c, h1, hc, h2, h3, h4⟩ := h
  exact ⟨g, o, c, h1, hc, Nat.lt_of_lt_of_le h2 hk.size, h3, fun i x hi => by rw [World.cell?_of_block (hk.block g h2 (by rw [h3]; exact hT))]; exact h4 i x hi⟩
theorem addrAdd (g o k : Nat) : (⟨g, o, none⟩ : Addr).add k = ⟨g, o + k, none⟩ := by
  by_cases h : k = 0
  · subst h; simp [Addr.add]
  · simp [Addr.add, h]

theorem row_any {w : World} {base : Nat} {t : TypeId} {k n : Nat} {v : Value} {cs : List Value} (h : w.ownsRow base t k v n cs) : ∃ a c, v = .slice a n c := by
  rcases h.2 with ⟨h1, h2⟩ | ⟨g, cap, cur, hv, _⟩
  · exact ⟨none, 0, by rw [h1, h2]⟩
  · exact ⟨_, _, hv⟩
/-- A file's bytes have grown. -/
theorem FsOK.appended {base B : Nat} {st : Fs.St} {V : FsV} {own : Nat → Tag} {w w5 : World} (h : FsOK base B st V own w) {i b : Nat} {f : List UInt8 × Nat} {d d' : Value} {l : List UInt8} (hf : st.files[i]? = some f) (hb : V.fb[i]? = some b)
    (hd : V.dv[i]? = some d) (hrow : w5.ownsRow base 5 1 d' (f.1.length + l.length) (u8Cells f.1 ++ u8Cells l)) (hg : w.grownBy w5 d.ownBlock) (hloc : d'.ownBlock = d.ownBlock ∨ d'.ownBlock = some w.heap.size) (hbase : base ≤ w.heap.size) :
    ∃ own', FsOK base B { st with files := st.files.set i (f.1 ++ l, f.2) } { V with dv := V.dv.set i d' } own' (w5.setCell ⟨b, 0, none⟩ d') ∧ (∀ k, k < w.heap.size → own' k = own k) ∧ Kept own (· ≠ .other) w (w5.setCell ⟨b, 0, none⟩ d') := by
  have hF := h.at_.file i f b d hf hb hd
  obtain ⟨own', o1, o2, o3, o4, hk⟩ := retag hF.row hrow hg hloc hF.tagD h.fresh h.old hbase
  have hA := h.at_.tags (own' := own') (fun k hk _ => o1 k hk)
  have hblt := heap_lt hF.blk
  have htb : own' b = .file i := (o1 b hblt).trans hF.tag
  have hkW : Kept own (fun t => t = .file i ∨ t = .data i) w (w5.setCell ⟨b, 0, none⟩ d') := (hk.mono (fun t ht => .inr ht)).setCell ⟨b, 0, none⟩ (.inl hF.tag) _
  have hkW' := hkW.tags o1
  have hb5 : w5.heap[b]? = some (.cells #[d, .int .i64 f.2] 73 (0, 0)) := by rw [hk.block b hblt (by rw [hF.tag]; simp)]; exact hF.blk
  refine ⟨own', ⟨hA.file1 (f' := (f.1 ++ l, f.2)) (d' := d') hf hb hd hkW' ⟨heap_set hb5 _, htb, ?_, o2⟩, fun k hk2 => o3 k (by simpa [World.setCell] using hk2), o4⟩, o1, hkW.mono (fun t ht => by rcases ht with rfl | rfl <;> simp)⟩
  show World.ownsRow _ _ _ _ _ (f.1 ++ l).length (u8Cells (f.1 ++ l))
  have e1 : u8Cells (f.1 ++ l) = u8Cells f.1 ++ u8Cells l := by simp [u8Cells]
  rw [List.length_append, e1]
  refine row_kept hrow (fun g hg2 => Below.heap_setCell _ _ _ _ (fun e => ?_))
  have h1 := o2 g hg2
  rw [e, htb] at h1
  cases h1

set_option maxHeartbeats 1000000 in
set_option maxRecDepth 100000 in
theorem append_any (base B : Nat) (st : Fs.St) (V : FsV) (own : Nat → Tag) (s : ByteArray) (bv : Value) (l : List UInt8) (w : World) (h : FsOK base B st V own w) (hbv : BytesIn w own bv l) (hs : s.size ≤ 1000000)
    (hlen : ∀ f ∈ st.files, f.1.length ≤ 65536) (hll : l.length ≤ 1000000) (hdl : st.dir.length ≤ 900000) (hfl : st.files.length ≤ 900000) (hrm : 0 ≤ st.room ∧ st.room ≤ 1048576) (hhow : (Fs.step st).2.1 ≤ 9223372036854775807) (hbase : base ≤ w.heap.size) :
    Calls Tryd.prog 18 #[.pointer (some ⟨B, 0, none⟩), .string s, bv] w fun e w' => e = .returned (.int .i64 (Fs.append st s.data.toList l).2) ∧ OpPost base B (Fs.append st s.data.toList l).1 own w w' := by
  obtain ⟨i0, hi, hz0, hz1, hz2⟩ := info_parts infoB
  obtain ⟨bg, bo, bc, rfl, hbcap, hbl, hbt, hbcl⟩ := hbv
  have HB := Lib.hid (show BytesIn w own (.slice (some ⟨bg, bo, none⟩) l.length bc) l from ⟨bg, bo, bc, rfl, hbcap, hbl, hbt, hbcl⟩)
  have H := Lib.hid h
  have hused : Fs.used st ≤ 1000000000000 := by
    have h1 := Fs.sum_le st 65536 hlen st.dir
    have h2 := Nat.mul_le_mul_right 65536 hdl
    exact Nat.le_trans (Nat.le_trans h1 h2) (by decide)
  clear h hbcl
  go_enter Tryd.func18, Tryd.ntmps18
  go_wp2_with fail
  refine (open_any base B st V own s w H.out.at_ hs).mono ?_
  rintro e w1 ⟨hb1, hres⟩
  have hk01 : Kept own (· = .root) w w1 := kept_below hb1
  have H1 := Lib.hid (H.out.kept (kept_below hb1))
  rcases hres with ⟨h0, f, b, d, hf, hb, hd, rfl⟩ | ⟨h0, rfl⟩
  · have HF := Lib.hid (H1.out.at_.file (Fs.idx st s.data.toList) f b d hf hb hd)
    have hfa : Fs.fileAt st s.data.toList = f.1 := by unfold Fs.fileAt; rw [hf]
    have hfl2 := hlen f (List.mem_of_getElem? hf)
    obtain ⟨da, dc, hdv⟩ : ∃ a c, d = .slice a f.1.length c := by
      rcases HF.out.row.2 with ⟨e1, e2⟩ | ⟨g, cap, cur, e1, _⟩
      · exact ⟨none, 0, by rw [e1, e2]⟩
      · exact ⟨_, _, e1⟩
    have x0 : w1.cell? ⟨b, 0, none⟩ = some (.slice da f.1.length dc) := by rw [← hdv]; exact root_cell HF.out.blk 0 _ rfl
    have HDV := Lib.hid hdv
    clear hdv
    by_cases hlong : 65536 < f.1.length + l.length
    · have HE : Hid (Fs.append st s.data.toList l = (st, 5)) := by unfold Fs.append; rw [if_neg (by simp [h0]), hfa, if_pos hlong]; exact Lib.hid rfl
      have hl2 : (65536 : Int) < (f.1.length : Int) + (l.length : Int) := by omega
      go_wp2
      go_ret
      rw [HE.out]
      exact ⟨rfl, V, own, H1.out, fun _ _ => rfl, kept_below hb1⟩
    · have hl2 : (f.1.length : Int) + (l.length : Int) ≤ 65536 := by omega
      have x3 : w1.cell? ⟨B, 3, none⟩ = some (.int .i64 st.room) := root_cell H1.out.at_.root 3 _ rfl
      have HL3 : ∀ x : Later w1, x.1.cell? ⟨B, 3, none⟩ = some (.int .i64 st.room) := fun x => Later.cell x3 x
      have HU : ∀ x : Later w1, Calls Tryd.prog 37 #[.pointer (some ⟨B, 0, none⟩)] x.1 fun e w' => e = .returned (.int .i64 (Fs.used st)) ∧ Below x.1.heap.size x.1 w' := fun x =>
        used_any base B st V own x.1 (H1.out.kept (kept_below x.2)) (fun f hf => by have := hlen f hf; omega) hdl hfl
      have HUU := Lib.hid HU
      clear HU
      go_wp2_with fail
      refine wp_region_later (by kernel_rfl) (by kernel_rfl) ?_
      repeat (go_big_quiet_step ((exact Later.call (v := .int .i64 (Fs.used st)) (HUU.out _))))
      refine wpQuiet_nil ?_; rintro w1b ⟨⟨_, hb1b⟩, rfl⟩
      have H1B := Lib.hid (H1.out.kept (kept_below hb1b))
      have hb02 : Below w.heap.size w w1b := hb1.trans (hb1b.mono hb1.size)
      clear HUU HL3 x3 x0
      go_wp2_with fail
      refine (step_any base B st V own w1b H1B.out.at_).mono ?_
      rintro e w2 ⟨pv, rfl, h2, hk2⟩
      have hk02 : Kept own (· ≠ .other) w w2 := (kept_below hb02).trans (hk2.mono (fun t ht => by rw [ht]; simp))
      have hkr : Kept own (· = .root) w w2 := (kept_below hb02).trans hk2
      have hfr2 : ∀ k, w2.heap.size ≤ k → own k = .other := fun k hk => H1B.out.fresh k (Nat.le_trans hk2.size hk)
      have H2 := Lib.hid (show FsOK base B (Fs.step st).1 { V with pv := pv } own w2 from ⟨h2, hfr2, H.out.old⟩)
      clear h2
      by_cases hc : (Fs.step st).2.2 = 0
      · have hc2 : ((Fs.step st).2.2 != 0) = false := by rw [hc]; rfl
        by_cases hroom : st.room - Fs.used st < l.length
        · have HE : Hid (Fs.append st s.data.toList l = ((Fs.step st).1, 21)) := by
            unfold Fs.append; rw [if_neg (by simp [h0]), hfa, if_neg hlong, if_neg (by simp [hc]), if_pos hroom]; exact Lib.hid rfl
          clear hc
          go_wp2
          go_ret
          rw [HE.out]
          exact ⟨rfl, _, own, H2.out, fun _ _ => rfl, hk02⟩
        · have HE : Hid (Fs.append st s.data.toList l = ({ (Fs.step st).1 with files := Fs.grow st.files (Fs.idx st s.data.toList) l }, 0)) := by
            unfold Fs.append; rw [if_neg (by simp [h0]), hfa, if_neg hlong, if_neg (by simp [hc]), if_neg hroom]; exact Lib.hid rfl
          have hroom2 : (l.length : Int) ≤ st.room - Fs.used st := by omega
          have HGR : Hid (Fs.grow st.files (Fs.idx st s.data.toList) l = (Fs.step st).1.files.set (Fs.idx st s.data.toList) (f.1 ++ l, f.2)) := by
            unfold Fs.grow; rw [hf, Fs.step_files]; exact Lib.hid rfl
          have HF2 := Lib.hid (H2.out.at_.file (Fs.idx st s.data.toList) f b d (by rw [Fs.step_files]; exact hf) hb hd)
          have y0 : w2.cell? ⟨b, 0, none⟩ = some (.slice da f.1.length dc) := by rw [← HDV.out]; exact root_cell HF2.out.blk 0 _ rfl
          have hrow2 : w2.ownsRow base 5 1 (.slice da f.1.length dc) f.1.length (u8Cells f.1) := by rw [← HDV.out]; exact HF2.out.row
          have HROW := Lib.hid hrow2
          have hbytes : ∀ j u, (u8Cells l)[j]? = some u → w2.cell? ((⟨bg, bo, none⟩ : Addr).add j) = some u := fun j u hj => by
            rw [addrAdd]
            obtain ⟨g, o, c, e1, _, e2, e3, e4⟩ := HB.out.kept hkr (by simp)
            simp only [Value.slice.injEq, Option.some.injEq, Addr.mk.injEq, and_true] at e1
            obtain ⟨⟨rfl, rfl⟩, -⟩ := e1
            unfold u8Cells at hj
            rw [List.getElem?_map] at hj
            cases hx : l[j]? with
            | none => rw [hx] at hj; cases hj
            | some x =>
              rw [hx] at hj
              simp at hj
              rw [← hj]
              exact e4 j x hx
          have HBY := Lib.hid hbytes
          have hsz2 := hkr.size
          have HB5 : ∀ w5, w2.grownBy w5 (Value.slice da f.1.length dc).ownBlock → w5.cell? ⟨b, 0, none⟩ = some (.slice da f.1.length dc) ∧ w5.frozen? ⟨b, 0, none⟩ = false := fun w5 hg5 => by
            have hb5 : w5.heap[b]? = some (.cells #[d, .int .i64 f.2] 73 (0, 0)) := by
              rw [hg5.block b (heap_lt HF2.out.blk) (fun e => by
                have h1 := HF2.out.tagD b (by rw [HDV.out]; exact e.symm)
                rw [HF2.out.tag] at h1
                cases h1)]
              exact HF2.out.blk
            exact ⟨by rw [← HDV.out]; exact root_cell hb5 0 _ rfl, root_frozen hb5 0⟩
          clear hc hrow2 hbytes hroom hlong
          go_wp2_with (first | (at_builtin; refine wpList_append_own_at _ rfl _ _ 42 rfl base 5 i0 (.int .u8 0) 1 1 Tryd.underlying42 hi hz0 hz1 hz2 rfl (by decide) (.slice da f.1.length dc) f.1.length (u8Cells f.1) rfl HROW.out ⟨bg, bo, none⟩ l.length bc (u8Cells l) rfl (by rw [u8Cells_len]; omega) HBY.out (u8Cells_one l) (by unfold maxLen; omega) (by omega) (by omega) ?_; intro d' w5 hown5 hgrow5 hnil5 hloc5; clear hnil5; obtain ⟨y0', f0'⟩ := HB5 _ hgrow5; obtain ⟨da', dc', hd'⟩ := row_any hown5; subst hd'; have HLOC := Lib.hid hloc5; clear hloc5) | fail)
          go_ret
          have hap := FsOK.appended (V := { V with pv := pv }) H2.out (by rw [Fs.step_files]; exact hf) hb hd hown5 (by rw [HDV.out]; exact hgrow5) (by rw [HDV.out]; exact HLOC.out) (by omega)
          obtain ⟨own', hok', ho', hk'⟩ := hap
          rw [HE.out, HGR.out]
          refine ⟨rfl, _, own', hok', fun k hk => ho' k (by omega), hk02.trans hk'⟩
      · have hc2 : ((Fs.step st).2.2 != 0) = true := by rw [bne_iff_ne]; exact hc
        by_cases hw : (Fs.step st).2.1 ≤ 2
        · have HE : Hid (Fs.append st s.data.toList l = ((Fs.step st).1, (Fs.step st).2.2)) := by
            unfold Fs.append; rw [if_neg (by simp [h0]), hfa, if_neg hlong, if_pos hc, if_neg (by omega)]; exact Lib.hid rfl
          go_wp2
          go_ret
          rw [HE.out]
          exact ⟨rfl, _, own, H2.out, fun _ _ => rfl, hk02⟩
        · have hw2 : 2 < (Fs.step st).2.1 := by omega
          have HE : Hid (Fs.append st s.data.toList l = ({ (Fs.step st).1 with files := Fs.grow st.files (Fs.idx st s.data.toList) (l.take (min (min ((Fs.step st).2.1 - 3) l.length) (max 0 (st.room - Fs.used st))).toNat) }, (Fs.step st).2.2)) := by
            unfold Fs.append; rw [if_neg (by simp [h0]), hfa, if_neg hlong, if_pos hc, if_pos hw2]; exact Lib.hid rfl
          obtain ⟨how, hhw⟩ : ∃ h, h = (Fs.step st).2.1 := ⟨_, rfl⟩
          obtain ⟨cd, hcd⟩ : ∃ h, h = (Fs.step st).2.2 := ⟨_, rfl⟩
          obtain ⟨left, hlf⟩ : ∃ x : Int, x = st.room - Fs.used st := ⟨_, rfl⟩
          rw [← hhw] at hw2 hhow HE ⊢
          rw [← hcd] at hc2 HE ⊢
          rw [← hlf] at HE ⊢
          have HCD := Lib.hid hcd
          clear hc hw hhw hlf hcd hlong
          have hwr : IntKind.i64.wrap (how - 3) = how - 3 := by rw [IntKind.wrap_i64]; omega
          have HF2 := Lib.hid (H2.out.at_.file (Fs.idx st s.data.toList) f b d (by rw [Fs.step_files]; exact hf) hb hd)
          have y0 : w2.cell? ⟨b, 0, none⟩ = some (.slice da f.1.length dc) := by rw [← HDV.out]; exact root_cell HF2.out.blk 0 _ rfl
          go_wp2_with fail
          refine wp_region_phase (fun w' => w'.cell? ⟨b, 0, none⟩ = some (.slice da f.1.length dc)) 15 (by kernel_rfl) ?_
          have hS : w2.drew.cell? ⟨b, 0, none⟩ = some (.slice da f.1.length dc) := y0
          refine wpAnyB_take (i := 0) (v := (.pointer (some ⟨b, 0, none⟩))) (by kernel_rfl) (by decide) rfl (by kernel_rfl) (by kernel_rfl) (by kernel_rfl) (fun _ _ _ h => h) (Or.inl ⟨by rfl, fun w hSw => by go_simp⟩) hS ?_; simp only [Act.put, Array.getInternal_eq_getElem, List.getElem_toArray, List.getElem_cons_zero, List.getElem_cons_succ, List.setIfInBounds_toArray, List.set_cons_zero, List.set_cons_succ]
          refine wpAnyB_take (i := 1) (v := (.pointer (some ⟨b, 0, none⟩))) (by kernel_rfl) (by decide) rfl (by kernel_rfl) (by kernel_rfl) (by kernel_rfl) (fun _ _ _ h => h) (Or.inl ⟨by rfl, fun w hSw => by go_simp⟩) hS ?_; simp only [Act.put, Array.getInternal_eq_getElem, List.getElem_toArray, List.getElem_cons_zero, List.getElem_cons_succ, List.setIfInBounds_toArray, List.set_cons_zero, List.set_cons_succ]
          refine wpAnyB_take (i := 2) (v := (.pointer (some ⟨b, 0, none⟩))) (by kernel_rfl) (by decide) rfl (by kernel_rfl) (by kernel_rfl) (by kernel_rfl) (fun _ _ _ h => h) (Or.inl ⟨by rfl, fun w hSw => by go_simp⟩) hS ?_; simp only [Act.put, Array.getInternal_eq_getElem, List.getElem_toArray, List.getElem_cons_zero, List.getElem_cons_succ, List.setIfInBounds_toArray, List.set_cons_zero, List.set_cons_succ]
          refine wpAnyB_take (i := 3) (v := (.pointer (some ⟨b, 0, none⟩))) (by kernel_rfl) (by decide) rfl (by kernel_rfl) (by kernel_rfl) (by kernel_rfl) (fun _ _ _ h => h) (Or.inl ⟨by rfl, fun w hSw => by go_simp⟩) hS ?_; simp only [Act.put, Array.getInternal_eq_getElem, List.getElem_toArray, List.getElem_cons_zero, List.getElem_cons_succ, List.setIfInBounds_toArray, List.set_cons_zero, List.set_cons_succ]
          refine wpAnyB_take (i := 4) (v := (.slice da f.1.length dc)) (by kernel_rfl) (by decide) rfl (by kernel_rfl) (by kernel_rfl) (by kernel_rfl) (fun _ _ _ h => h) (Or.inl ⟨by rfl, fun w hSw => by go_simp⟩) hS ?_; simp only [Act.put, Array.getInternal_eq_getElem, List.getElem_toArray, List.getElem_cons_zero, List.getElem_cons_succ, List.setIfInBounds_toArray, List.set_cons_zero, List.set_cons_succ]
          refine wpAnyB_take (i := 5) (v := (.slice (some ⟨bg, bo, none⟩) l.length bc)) (by kernel_rfl) (by decide) rfl (by kernel_rfl) (by kernel_rfl) (by kernel_rfl) (fun _ _ _ h => h) (Or.inl ⟨by rfl, fun w hSw => by go_simp⟩) hS ?_; simp only [Act.put, Array.getInternal_eq_getElem, List.getElem_toArray, List.getElem_cons_zero, List.getElem_cons_succ, List.setIfInBounds_toArray, List.set_cons_zero, List.set_cons_succ]
          refine wpAnyB_take (i := 6) (v := (.int .i64 how)) (by kernel_rfl) (by decide) rfl (by kernel_rfl) (by kernel_rfl) (by kernel_rfl) (fun _ _ _ h => h) (Or.inl ⟨by rfl, fun w hSw => by go_simp⟩) hS ?_; simp only [Act.put, Array.getInternal_eq_getElem, List.getElem_toArray, List.getElem_cons_zero, List.getElem_cons_succ, List.setIfInBounds_toArray, List.set_cons_zero, List.set_cons_succ]
          refine wpAnyB_take (i := 7) (v := (.int .i64 (how - 3))) (by kernel_rfl) (by decide) rfl (by kernel_rfl) (by kernel_rfl) (by kernel_rfl) (fun _ _ _ h => h) (Or.inl ⟨by rfl, fun w hSw => by go_simp⟩) hS ?_; simp only [Act.put, Array.getInternal_eq_getElem, List.getElem_toArray, List.getElem_cons_zero, List.getElem_cons_succ, List.setIfInBounds_toArray, List.set_cons_zero, List.set_cons_succ]
          refine wpAnyB_take (i := 8) (v := (.slice (some ⟨bg, bo, none⟩) l.length bc)) (by kernel_rfl) (by decide) rfl (by kernel_rfl) (by kernel_rfl) (by kernel_rfl) (fun _ _ _ h => h) (Or.inl ⟨by rfl, fun w hSw => by go_simp⟩) hS ?_; simp only [Act.put, Array.getInternal_eq_getElem, List.getElem_toArray, List.getElem_cons_zero, List.getElem_cons_succ, List.setIfInBounds_toArray, List.set_cons_zero, List.set_cons_succ]
          refine wpAnyB_take (i := 9) (v := (.int .i64 l.length)) (by kernel_rfl) (by decide) rfl (by kernel_rfl) (by kernel_rfl) (by kernel_rfl) (fun _ _ _ h => h) (Or.inl ⟨by rfl, fun w hSw => by go_simp⟩) hS ?_; simp only [Act.put, Array.getInternal_eq_getElem, List.getElem_toArray, List.getElem_cons_zero, List.getElem_cons_succ, List.setIfInBounds_toArray, List.set_cons_zero, List.set_cons_succ]
          refine wpAnyB_take (i := 10) (v := (.int .i64 left)) (by kernel_rfl) (by decide) rfl (by kernel_rfl) (by kernel_rfl) (by kernel_rfl) (fun _ _ _ h => h) (Or.inl ⟨by rfl, fun w hSw => by go_simp⟩) hS ?_; simp only [Act.put, Array.getInternal_eq_getElem, List.getElem_toArray, List.getElem_cons_zero, List.getElem_cons_succ, List.setIfInBounds_toArray, List.set_cons_zero, List.set_cons_succ]
          refine wpAnyB_take (i := 11) (v := (.int .i64 (max 0 left))) (by kernel_rfl) (by decide) rfl (by kernel_rfl) (by kernel_rfl) (by kernel_rfl) (fun _ _ _ h => h) (Or.inl ⟨by rfl, fun w hSw => by go_simp⟩) hS ?_; simp only [Act.put, Array.getInternal_eq_getElem, List.getElem_toArray, List.getElem_cons_zero, List.getElem_cons_succ, List.setIfInBounds_toArray, List.set_cons_zero, List.set_cons_succ]
          obtain ⟨m, hm⟩ : ∃ m : Nat, (m : Int) = min (min (how - 3) l.length) (max 0 left) := ⟨(min (min (how - 3) l.length) (max 0 left)).toNat, by omega⟩
          refine wpAnyB_take (i := 12) (v := (.int .i64 (min (min (how - 3) l.length) (max 0 left)))) (by kernel_rfl) (by decide) rfl (by kernel_rfl) (by kernel_rfl) (by kernel_rfl) (fun _ _ _ h => h) (Or.inl ⟨by rfl, fun w hSw => by go_simp; (repeat' split) <;> omega⟩) hS ?_; simp only [Act.put, Array.getInternal_eq_getElem, List.getElem_toArray, List.getElem_cons_zero, List.getElem_cons_succ, List.setIfInBounds_toArray, List.set_cons_zero, List.set_cons_succ]
          rw [← hm]
          have hml : m ≤ l.length := by omega
          have hmT : (min (min (how - 3) (l.length : Int)) (max 0 left)).toNat = m := by rw [← hm]; rfl
          have hm0 : (0 : Int) ≤ (m : Int) := Int.natCast_nonneg _
          have hmc : (m : Int) ≤ (bc : Int) := by omega
          rw [hmT] at HE
          have HM := Lib.hid hm
          clear hm hmT
          refine wpAnyB_take (i := 13) (v := (.slice (some ⟨bg, bo, none⟩) m bc)) (by kernel_rfl) (by decide) rfl (by kernel_rfl) (by kernel_rfl) (by kernel_rfl) (fun _ _ _ h => h) (Or.inl ⟨by rfl, fun w hSw => by go_simp⟩) hS ?_; simp only [Act.put, Array.getInternal_eq_getElem, List.getElem_toArray, List.getElem_cons_zero, List.getElem_cons_succ, List.setIfInBounds_toArray, List.set_cons_zero, List.set_cons_succ]
          have hrow2 : w2.drew.ownsRow base 5 1 (.slice da f.1.length dc) f.1.length (u8Cells f.1) := by rw [← HDV.out]; exact HF2.out.row
          have HROW := Lib.hid hrow2
          have hlt2 : (l.take m).length = m := by rw [List.length_take]; omega
          have hbytes : ∀ j u, (u8Cells (l.take m))[j]? = some u → w2.drew.cell? ((⟨bg, bo, none⟩ : Addr).add j) = some u := fun j u hj => by
            rw [addrAdd]
            obtain ⟨g, o, c, e1, _, e2, e3, e4⟩ := HB.out.kept hkr (by simp)
            simp only [Value.slice.injEq, Option.some.injEq, Addr.mk.injEq, and_true] at e1
            obtain ⟨⟨rfl, rfl⟩, -⟩ := e1
            unfold u8Cells at hj
            rw [List.getElem?_map] at hj
            cases hx : (l.take m)[j]? with
            | none => rw [hx] at hj; cases hj
            | some x =>
              rw [hx] at hj
              simp at hj
              rw [← hj]
              have hx2 : l[j]? = some x := by
                have hjm := (List.getElem?_eq_some_iff.1 hx).1
                rw [List.getElem?_take, if_pos (by omega)] at hx
                exact hx
              exact e4 j x hx2
          have HBY := Lib.hid hbytes
          have hsz2 := hkr.size
          have HGR : Hid (Fs.grow st.files (Fs.idx st s.data.toList) (l.take m) = (Fs.step st).1.files.set (Fs.idx st s.data.toList) (f.1 ++ l.take m, f.2)) := by
            unfold Fs.grow; rw [hf, Fs.step_files]; exact Lib.hid rfl
          have HB5 : ∀ w5, w2.drew.grownBy w5 (Value.slice da f.1.length dc).ownBlock → w5.cell? ⟨b, 0, none⟩ = some (.slice da f.1.length dc) ∧ w5.frozen? ⟨b, 0, none⟩ = false := fun w5 hg5 => by
            have hb5 : w5.heap[b]? = some (.cells #[d, .int .i64 f.2] 73 (0, 0)) := by
              rw [hg5.block b (heap_lt HF2.out.blk) (fun e => by
                have h1 := HF2.out.tagD b (by rw [HDV.out]; exact e.symm)
                rw [HF2.out.tag] at h1
                cases h1)]
              exact HF2.out.blk
            exact ⟨by rw [← HDV.out]; exact root_cell hb5 0 _ rfl, root_frozen hb5 0⟩
          clear hrow2 hbytes
          refine wpAnyB_one (i := 14) (by kernel_rfl) ?_
          refine wpOp_intro (by decide) (fun K5 HK5 => ?_); simp only [List.drop_succ_cons, List.drop_zero, List.take_succ_cons, List.take_zero]
          go_wp2_with (first | (at_builtin; refine wpList_append_own_at _ rfl _ _ 42 rfl base 5 i0 (.int .u8 0) 1 1 Tryd.underlying42 hi hz0 hz1 hz2 rfl (by decide) (.slice da f.1.length dc) f.1.length (u8Cells f.1) rfl HROW.out ⟨bg, bo, none⟩ m bc (u8Cells (l.take m)) rfl (by rw [u8Cells_len, hlt2]; omega) HBY.out (u8Cells_one _) (by unfold maxLen; omega) (by omega) (by show base ≤ w2.heap.size; omega) ?_; intro d' w5 hown5 hgrow5 hnil5 hloc5; clear hnil5; obtain ⟨y0', f0'⟩ := HB5 _ hgrow5; obtain ⟨da', dc', hd'⟩ := row_any hown5; subst hd'; have HLOC := Lib.hid hloc5; clear hloc5) | fail)
          refine HK5.out _ _ ⟨fun _ => y0', ?_⟩
          clear HK5
          refine wpAnyB_one (i := 15) (by kernel_rfl) ?_
          refine wpOp_intro (by decide) (fun K6 HK6 => ?_); simp only [List.drop_succ_cons, List.drop_zero, List.take_succ_cons, List.take_zero]
          go_wp2_with fail
          refine HK6.out _ _ ⟨fun h => absurd h (by decide), ?_⟩
          clear HK6
          refine wpAnyB_one (i := 16) (by kernel_rfl) ?_
          refine wpOp_intro (by decide) (fun K7 HK7 => ?_); simp only [List.drop_succ_cons, List.drop_zero, List.take_succ_cons, List.take_zero]
          go_wp2_with fail
          refine HK7.out _ _ ⟨fun h => absurd h (by decide), ?_⟩
          clear HK7
          refine wpAnyB_one (i := 17) (by kernel_rfl) ?_
          refine wpOp_intro (by decide) (fun K8 HK8 => ?_); simp only [List.drop_succ_cons, List.drop_zero, List.take_succ_cons, List.take_zero]
          go_wp2_with fail
          refine HK8.out _ _ ⟨fun h => absurd h (by decide), ?_⟩
          clear HK8
          refine wpAnyB_done (by kernel_rfl) ?_ _
          go_wp2
          go_ret
          have hap := FsOK.appended (V := { V with pv := pv }) (l := l.take m) (w := w2.drew) (H2.out.kept ((Kept.refl _ _ _).drewN 1)) (by rw [Fs.step_files]; exact hf) hb hd (by rw [hlt2]; exact hown5) (by rw [HDV.out]; exact hgrow5) (by rw [HDV.out]; exact HLOC.out) (by show base ≤ w2.heap.size; omega)
          obtain ⟨own', hok', ho', hk'⟩ := hap
          rw [HE.out, HGR.out]
          refine ⟨rfl, _, own', hok', fun k hk => ho' k (by show k < w2.heap.size; omega), (hk02.drewN 1).trans hk'⟩
  · have HE : Hid (Fs.append st s.data.toList l = (st, Fs.openE st s.data.toList)) := by unfold Fs.append; rw [if_pos h0]; exact Lib.hid rfl
    have hc2 : (Fs.openE st s.data.toList != 0) = true := by rw [bne_iff_ne]; exact h0
    go_wp2
    go_ret
    rw [HE.out]
    exact ⟨rfl, V, own, H1.out, fun _ _ => rfl, kept_below hb1⟩
end Go.Proofs.YtcinagglbkbmkaaDoor
namespace Go.Proofs.YtcinagglbkbmkaaDoor
set_option linter.unusedSimpArgs false
set_option linter.unusedVariables false
open Go Go.RowKit
open Go.Maps Go.WideMaps

namespace Fs
/-- What is planned are numbers of the machine's. -/
def PlanOK (st : St) : Prop := ∀ z ∈ st.plan, z ≤ 9223372036854775807
section
variable {st : St} (h : PlanOK st)
include h
theorem PlanOK.of {st' : St} (e : st'.plan = st.plan ∨ st'.plan = st.plan.tail) : PlanOK st' := fun z hz => by
  rcases e with e | e
  · rw [e] at hz; exact h z hz
  · rw [e] at hz; exact h z (List.mem_of_mem_tail hz)
theorem PlanOK.how : (step st).2.1 ≤ 9223372036854775807 := by
  unfold step
  split
  · show (0 : Int) ≤ _; omega
  · show st.plan.headD 0 ≤ _
    cases hp : st.plan with
    | nil => show (0 : Int) ≤ _; omega
    | cons z r => exact h z (by rw [hp]; exact List.mem_cons_self)
end
theorem plan_step (st : St) : (step st).1.plan = st.plan ∨ (step st).1.plan = st.plan.tail := by
  unfold step
  split
  · exact .inl rfl
  · exact .inr rfl
theorem plan_append (st : St) (n b : List UInt8) : (append st n b).1.plan = st.plan ∨ (append st n b).1.plan = st.plan.tail := by
  unfold append
  split
  · exact .inl rfl
  split
  · exact .inl rfl
  split
  · split
    · exact plan_step st
    · exact plan_step st
  split
  · exact plan_step st
  · exact plan_step st
theorem plan_sync (st : St) (n : List UInt8) : (sync st n).1.plan = st.plan ∨ (sync st n).1.plan = st.plan.tail := by
  unfold sync
  split
  · exact .inl rfl
  split
  · exact plan_step st
  · exact plan_step st
end Fs
end Go.Proofs.YtcinagglbkbmkaaDoor
namespace Go.Proofs.YtcinagglbkbmkaaDoor
set_option linter.unusedSimpArgs false
set_option linter.unusedVariables false
open Go Go.RowKit
open Go.Maps Go.WideMaps
namespace Fr
def stp (c : Int) : Int := bits .xor .u32 (c / 2) (bits .and .u32 c 1 * 2197175160 % 4294967296)
def iter : Nat → Int → Int
  | 0, c => c
  | n + 1, c => stp (iter n c)
def ent (i : Int) : Int := iter 8 i
def tabCells (j : Nat) : Array Value := ((List.range 256).map fun i => Value.int .u32 (if i < j then ent i else 0)).toArray
end Fr
theorem Fr.tab_at (j k : Nat) (hk : k < 256) (hjk : j ≤ k) : (Fr.tabCells j)[k]? = some (.int .u32 0) := by
  simp [Fr.tabCells, hk, show ¬ k < j by omega]
theorem Fr.tab_set (j : Nat) (hj : j < 256) : (Fr.tabCells j).setIfInBounds j (.int .u32 (Fr.iter 8 j)) = Fr.tabCells (j + 1) := by
  apply Array.ext
  · simp [Fr.tabCells]
  · intro i h1 h2
    simp only [Fr.tabCells, List.size_toArray, List.length_map, List.length_range] at h2
    rw [Array.getElem_setIfInBounds]
    simp only [Fr.tabCells, List.getElem_toArray, List.getElem_map, List.getElem_range]
    by_cases h : j = i
    · subst h; simp [Fr.ent]
    · by_cases h3 : i < j
      · simp [h, h3, show i < j + 1 by omega]
      · simp [h, h3, show ¬ i < j + 1 by omega]
    · simpa [Fr.tabCells] using h2
theorem tab_zero : Fr.tabCells 0 = Tryd.zeroCells107 := by kernel_rfl
set_option maxHeartbeats 1000000 in
set_option maxRecDepth 100000 in
theorem table_any (w : World) : Calls Tryd.prog 49 #[] w fun e w' => e = .returned (.agg (Fr.tabCells 256)) ∧ Below w.heap.size w w' := by
  have s0 : ((w.alloc (.cells (Fr.tabCells 0) 107)).alloc (.cells (Fr.tabCells 0) 107)).heap[w.heap.size]? = some (.cells (Fr.tabCells 0) 107 (0, 0)) := by
    rw [show ((w.alloc (.cells (Fr.tabCells 0) 107)).alloc (.cells (Fr.tabCells 0) 107)).heap[w.heap.size]? = (w.alloc (.cells (Fr.tabCells 0) 107)).heap[w.heap.size]? from Below.heap_alloc _ _ _ (by simp)]
    exact heap_new _ _
  have s1 : ((w.alloc (.cells (Fr.tabCells 0) 107)).alloc (.cells (Fr.tabCells 0) 107)).heap[w.heap.size + 1]? = some (.cells (Fr.tabCells 0) 107 (0, 0)) := by
    have := heap_new (w.alloc (.cells (Fr.tabCells 0) 107)) (.cells (Fr.tabCells 0) 107)
    rw [show (w.alloc (.cells (Fr.tabCells 0) 107)).heap.size = w.heap.size + 1 by simp] at this
    exact this
  rw [tab_zero] at s0 s1
  have hb : Below w.heap.size w ((w.alloc (.cells Tryd.zeroCells107 107)).alloc (.cells Tryd.zeroCells107 107)) := ((Below.refl _ _).alloc (Nat.le_refl _) _).alloc (by simp) _
  have S0 := Lib.hid s0
  have S1 := Lib.hid s1
  clear s0 s1
  go_enter Tryd.func49, Tryd.ntmps49
  go_wp2
  go_loopg [4] 256 (fun k s4 wr => ∃ j : Nat, j ≤ 256 ∧ k = 256 - j ∧ s4 = .int .i64 (j : Nat) ∧ wr.heap[w.heap.size]? = some (.cells (Fr.tabCells 0) 107 (0, 0)) ∧ wr.heap[w.heap.size + 1]? = some (.cells (Fr.tabCells j) 107 (0, 0)) ∧ Below w.heap.size w wr)
  case atStart => exact ⟨0, by omega, rfl, rfl, by rw [tab_zero]; exact S0.out, by rw [tab_zero]; exact S1.out, hb⟩
  case round =>
    obtain ⟨j, hj, hk, rfl, h0, h1, hB⟩ := hrel
    have HK := Lib.hid hk
    have H0 := Lib.hid h0
    have H1 := Lib.hid h1
    clear hk h0 h1 hb
    have hj0 : (0 : Int) ≤ (j : Int) := Int.natCast_nonneg _
    by_cases hjn : j < 256
    · have hjn1 : (j : Int) < 256 := by omega
      have c0 : wr.cell? ⟨w.heap.size + 1, j, none⟩ = some (.int .u32 0) := root_cell H1.out j _ (Fr.tab_at j j hjn (Nat.le_refl _))
      have c1 := root_frozen H1.out j
      go_wp2
      go_loopg [3, 9] 8 (fun k s3 s9 wq => ∃ (a : Nat) (c : Int), a ≤ 8 ∧ k = 8 - a ∧ s9 = .int .i64 (a : Nat) ∧ s3 = .int .u32 c ∧ c = Fr.iter a j ∧ wq = wr)
      case atStart => exact ⟨0, _, by omega, rfl, rfl, rfl, rfl, rfl⟩
      case round =>
        obtain ⟨a, c, ha, hk, rfl, rfl, hc, rfl⟩ := hrel
        have HC := Lib.hid hc
        clear hc
        have HK2 := Lib.hid hk
        clear hk
        have ha0 : (0 : Int) ≤ (a : Int) := Int.natCast_nonneg _
        by_cases han : a < 8
        · have han1 : (a : Int) < 8 := by omega
          go_wp2
          go_roundg (8 - (a + 1))
          case measure => rw [HK2.out]; omega
          case rel => 
            exact ⟨a + 1, _, by omega, rfl, by simp, rfl, by rw [HC.out]; rfl, rfl⟩
        · have han1 : (8 : Int) ≤ (a : Int) := by omega
          obtain rfl : a = 8 := by omega
          go_wp2
          go_roundg (256 - (j + 1))
          case measure => rw [HK.out]; omega
          case rel =>
            refine ⟨j + 1, by omega, rfl, by simp, ?_, ?_, hB.setCell (p := ⟨w.heap.size + 1, j, none⟩) (Nat.le_succ _) _⟩
            · rw [Below.heap_setCell _ _ _ _ (by show w.heap.size ≠ w.heap.size + 1; omega)]
              exact H0.out
            · rw [← Fr.tab_set j hjn, ← HC.out]
              exact heap_set H1.out _
    · have hjn1 : (256 : Int) ≤ (j : Int) := by omega
      obtain rfl : j = 256 := by omega
      have hsz : ∀ j, (Fr.tabCells j).size = 256 := fun j => by simp [Fr.tabCells]
      have hall : (Fr.tabCells 256).all (·.oneCell') = true := by kernel_rfl
      have hi : (Tryd.prog.info? 107).map (·.size) = some (Fr.tabCells 256).size := by rw [hsz]; kernel_rfl
      go_wp2_with (first
        | refine wpList_load_row rfl _ _ rfl (w.heap.size + 1) rfl 107 (Fr.tabCells 256) (0, 0) _ H1.out Tryd.underlying107 rfl hi ?_
        | refine wpList_store_row rfl _ _ _ rfl w.heap.size (Fr.tabCells 256) rfl rfl 107 (Fr.tabCells 0) H0.out hi (by rw [hsz, hsz]) hall ?_
        | fail)
      have hr : (wr.setRow w.heap.size (Fr.tabCells 256)).heap[w.heap.size]? = some (.cells (Fr.tabCells 256) 107 (0, 0)) := setRow_heap wr w.heap.size (Fr.tabCells 0) _ _ _ H0.out
      refine bodyPost_ret (v := .agg (Fr.tabCells 256)) (results_cell_row Tryd.results49 _ _ w.heap.size 107 (Fr.tabCells 256) (0, 0) _ rfl hr Tryd.underlying107 rfl hi) rfl ?_
      exact ⟨rfl, hB.trans ⟨rfl, rfl, rfl, by simp, fun k hk => setRow_other wr w.heap.size k _ (by omega)⟩⟩
end Go.Proofs.YtcinagglbkbmkaaDoor
namespace Go.Proofs.YtcinagglbkbmkaaDoor
set_option linter.unusedSimpArgs false
set_option linter.unusedVariables false
open Go Go.RowKit
open Go.Maps Go.WideMaps

/-- A slice of bytes, wherever it lies. -/
def Byts (w : World) (v : Value) (l : List UInt8) : Prop :=
  ∃ a cap, v = .slice a l.length cap ∧ l.length ≤ cap ∧ (a = none → cap = 0) ∧ ∀ (i : Nat) x, l[i]? = some x → ∃ b off, a = some ⟨b, off, none⟩ ∧ b < w.heap.size ∧ w.cell? ⟨b, off + i, none⟩ = some (.int .u8 x.toNat)
theorem Byts.form {w : World} {v : Value} {l : List UInt8} (h : Byts w v l) : ∃ a cap, v = .slice a l.length cap ∧ l.length ≤ cap := by
  obtain ⟨a, cap, h1, h2, _⟩ := h
  exact ⟨a, cap, h1, h2⟩
theorem Byts.form2 {w : World} {v : Value} {l : List UInt8} (h : Byts w v l) : ∃ a cap, v = .slice a l.length cap ∧ l.length ≤ cap ∧ (a = none → cap = 0) := by
  obtain ⟨a, cap, h1, h2, h3, _⟩ := h
  exact ⟨a, cap, h1, h2, h3⟩
theorem Byts.at {w : World} {a : Option Addr} {n cap : Nat} {l : List UInt8} (h : Byts w (.slice a n cap) l) {i : Nat} {x : UInt8} (hi : l[i]? = some x) :
    ∃ b off, a = some ⟨b, off, none⟩ ∧ b < w.heap.size ∧ w.cell? ⟨b, off + i, none⟩ = some (.int .u8 x.toNat) := by
  obtain ⟨a', cap', h1, _, _, h2⟩ := h
  obtain ⟨b, off, e, h3, h4⟩ := h2 i x hi
  simp only [Value.slice.injEq] at h1
  exact ⟨b, off, by rw [h1.1, e], h3, h4⟩
theorem Byts.keep {w w' : World} {v : Value} {l : List UInt8} (h : Byts w v l) (hs : w.heap.size ≤ w'.heap.size) (hk : ∀ k, k < w.heap.size → w'.heap[k]? = w.heap[k]?) : Byts w' v l := by
  obtain ⟨a, cap, h1, h2, hn, h3⟩ := h
  refine ⟨a, cap, h1, h2, hn, fun i x hi => ?_⟩
  obtain ⟨b, off, e, h4, h5⟩ := h3 i x hi
  exact ⟨b, off, e, Nat.lt_of_lt_of_le h4 hs, by rw [World.cell?_of_block (hk b h4)]; exact h5⟩
theorem Byts.below {w w' : World} {v : Value} {l : List UInt8} (h : Byts w v l) (hb : Below w.heap.size w w') : Byts w' v l := h.keep hb.size hb.block

/-- A slice of such. -/
def Prts (w : World) (v : Value) (ls : List (List UInt8)) : Prop :=
  ∃ a cap, v = .slice a ls.length cap ∧ ls.length ≤ cap ∧ ∀ (i : Nat) l, ls[i]? = some l → ∃ b off v', a = some ⟨b, off, none⟩ ∧ b < w.heap.size ∧ w.cell? ⟨b, off + i, none⟩ = some v' ∧ Byts w v' l
theorem Prts.form {w : World} {v : Value} {l : List (List UInt8)} (h : Prts w v l) : ∃ a cap, v = .slice a l.length cap := by
  obtain ⟨a, cap, h1, h2, _⟩ := h
  exact ⟨a, cap, h1⟩
theorem Prts.at {w : World} {a : Option Addr} {n cap : Nat} {ls : List (List UInt8)} (h : Prts w (.slice a n cap) ls) {i : Nat} {l : List UInt8} (hi : ls[i]? = some l) :
    ∃ b off v', a = some ⟨b, off, none⟩ ∧ b < w.heap.size ∧ w.cell? ⟨b, off + i, none⟩ = some v' ∧ Byts w v' l := by
  obtain ⟨a', cap', h1, _, h2⟩ := h
  obtain ⟨b, off, v', e, h3, h4, h5⟩ := h2 i l hi
  simp only [Value.slice.injEq] at h1
  exact ⟨b, off, v', by rw [h1.1, e], h3, h4, h5⟩
theorem Prts.keep {w w' : World} {v : Value} {l : List (List UInt8)} (h : Prts w v l) (hs : w.heap.size ≤ w'.heap.size) (hk : ∀ k, k < w.heap.size → w'.heap[k]? = w.heap[k]?) : Prts w' v l := by
  obtain ⟨a, cap, h1, h2, h3⟩ := h
  refine ⟨a, cap, h1, h2, fun i x hi => ?_⟩
  obtain ⟨b, off, v', e, h4, h5, h6⟩ := h3 i x hi
  exact ⟨b, off, v', e, Nat.lt_of_lt_of_le h4 hs, by rw [World.cell?_of_block (hk b h4)]; exact h5, h6.keep hs hk⟩
theorem Prts.below {w w' : World} {v : Value} {l : List (List UInt8)} (h : Prts w v l) (hb : Below w.heap.size w w') : Prts w' v l := h.keep hb.size hb.block

namespace Fr
def upd (c : Int) (x : UInt8) : Int := bits .xor .u32 (c / 256) (ent (bits .xor .u8 (c % 256) x.toNat))
def sum (l : List UInt8) : Int := bits .xor .u32 4294967295 (l.foldl upd 4294967295)
theorem tab_get (k : Nat) (hk : k < 256) : (Fr.tabCells 256)[k]? = some (.int .u32 (ent (k : Int))) := by
  simp [Fr.tabCells, hk]
end Fr
theorem bits_u8 (op : BinOp) (a b : Int) : ∃ k : Nat, k < 256 ∧ bits op .u8 a b = (k : Int) := by
  have h := wf_bits op .u8 a b
  have e1 : IntKind.u8.min = 0 := by decide
  have e2 : IntKind.u8.max = 255 := by decide
  simp [Lit.wf, e1, e2] at h
  exact ⟨(bits op .u8 a b).toNat, by omega, by omega⟩
theorem bits_u32 (op : BinOp) (a b : Int) : 0 ≤ bits op .u32 a b ∧ bits op .u32 a b < 4294967296 := by
  have h := wf_bits op .u32 a b
  have e1 : IntKind.u32.min = 0 := by decide
  have e2 : IntKind.u32.max = 4294967295 := by decide
  simp [Lit.wf, e1, e2] at h
  omega
theorem flat_take {α} (ls : List (List α)) (j : Nat) (l : List α) (h : ls[j]? = some l) : (ls.take (j + 1)).flatten = (ls.take j).flatten ++ l := by
  rw [List.take_add_one, h]
  simp

set_option maxHeartbeats 1000000 in
set_option maxRecDepth 100000 in
theorem sum_any (v : Value) (ls : List (List UInt8)) (w : World) (hV : Prts w v ls) (hl : ls.length ≤ 1000000000) (hs : ∀ l ∈ ls, l.length ≤ 1000000000) :
    Calls Tryd.prog 35 #[v] w fun e w' => e = .returned (.int .u32 (Fr.sum ls.flatten)) ∧ Below w.heap.size w w' := by
  obtain ⟨va, vc, rfl⟩ := hV.form
  have HV := Lib.hid hV
  clear hV
  go_enter Tryd.func35, Tryd.ntmps35
  go_wp2_with fail
  refine (table_any w).mono ?_
  rintro e w1 ⟨rfl, hb1⟩
  have hsz : ∀ j, (Fr.tabCells j).size = 256 := fun j => by simp [Fr.tabCells]
  have hz : (Tryd.zeroCells107).size = 256 := by rw [← tab_zero, hsz]
  have hall : (Fr.tabCells 256).all (·.oneCell') = true := by kernel_rfl
  have hi : (Tryd.prog.info? 107).map (·.size) = some (Fr.tabCells 256).size := by rw [hsz]; kernel_rfl
  go_wp2_with (first
        | refine wpList_store_row rfl _ _ _ rfl w1.heap.size (Fr.tabCells 256) rfl rfl 107 Tryd.zeroCells107 (heap_new w1 _) hi (by rw [hsz, hz]) hall ?_
        | fail)
  have hr : ((w1.alloc (.cells Tryd.zeroCells107 107)).setRow w1.heap.size (Fr.tabCells 256)).heap[w1.heap.size]? = some (.cells (Fr.tabCells 256) 107 (0, 0)) := setRow_heap _ w1.heap.size _ _ _ _ (heap_new w1 _)
  have hb2 : Below w.heap.size w ((w1.alloc (.cells Tryd.zeroCells107 107)).setRow w1.heap.size (Fr.tabCells 256)) :=
    (hb1.alloc hb1.size _).trans ⟨rfl, rfl, rfl, by simp, fun k hk => setRow_other _ w1.heap.size k _ (by have := hb1.size; omega)⟩
  generalize ((w1.alloc (.cells Tryd.zeroCells107 107)).setRow w1.heap.size (Fr.tabCells 256)) = w2 at hr hb2 ⊢
  have HR := Lib.hid hr
  have HV2 := Lib.hid (HV.out.below hb2)
  clear hsz hz hall hi hr
  go_loopg [4, 12] ls.length (fun k s4 s12 wr => ∃ j : Nat, ∃ c : Int, j ≤ ls.length ∧ k = ls.length - j ∧ s12 = .int .i64 (j : Nat) ∧ s4 = .int .u32 c ∧ c = (ls.take j).flatten.foldl Fr.upd 4294967295 ∧ wr = w2)
  case atStart => exact ⟨0, _, Nat.zero_le _, rfl, rfl, rfl, rfl, rfl⟩
  case round =>
    obtain ⟨j, c, hj, hk, rfl, rfl, hc, rfl⟩ := hrel
    have HK := Lib.hid hk
    have HC := Lib.hid hc
    clear hk hc
    have hj0 : (0 : Int) ≤ (j : Int) := Int.natCast_nonneg _
    by_cases hjn : j < ls.length
    · have hjn1 : (j : Int) < (ls.length : Int) := by omega
      obtain ⟨l, hlj⟩ : ∃ l, ls[j]? = some l := ⟨_, List.getElem?_eq_getElem hjn⟩
      have hll := hs l (List.mem_of_getElem? hlj)
      obtain ⟨g, o, lv, rfl, hg, hgc, hB⟩ := HV2.out.at hlj
      obtain ⟨la, lc, rfl, _⟩ := hB.form
      have HB := Lib.hid hB
      have HFT := Lib.hid (flat_take ls j l hlj)
      clear hB hlj
      go_wp2
      go_loopg [4, 18] l.length (fun k s4 s18 wq => ∃ a : Nat, ∃ c' : Int, a ≤ l.length ∧ k = l.length - a ∧ s18 = .int .i64 (a : Nat) ∧ s4 = .int .u32 c' ∧ c' = (l.take a).foldl Fr.upd c ∧ wq = wr)
      case atStart => exact ⟨0, _, Nat.zero_le _, rfl, rfl, rfl, rfl, rfl⟩
      case round =>
        obtain ⟨a, c', ha, hk, rfl, rfl, hc, rfl⟩ := hrel
        have HK2 := Lib.hid hk
        have HC2 := Lib.hid hc
        clear hk hc
        have ha0 : (0 : Int) ≤ (a : Int) := Int.natCast_nonneg _
        by_cases han : a < l.length
        · have han1 : (a : Int) < (l.length : Int) := by omega
          obtain ⟨x, hx⟩ : ∃ x, l[a]? = some x := ⟨_, List.getElem?_eq_getElem han⟩
          obtain ⟨g2, o2, rfl, hg2, hxc⟩ := HB.out.at hx
          obtain ⟨k, hk, hkx⟩ := bits_u8 .xor (c' % 256) x.toNat
          have ht : wr.cell? ⟨w1.heap.size, k, none⟩ = some (.int .u32 (Fr.ent (k : Int))) := root_cell HR.out k _ (Fr.tab_get k hk)
          have hk0 : (0 : Int) ≤ (k : Int) := Int.natCast_nonneg _
          have hk1 : (k : Int) < 256 := by omega
          have HT : Hid ((l.take (a + 1)).foldl Fr.upd c = Fr.upd c' x) := by
            refine Lib.hid ?_
            rw [List.take_add_one, hx, HC2.out]
            simp
          have HX : Hid (Fr.upd c' x = bits .xor .u32 (c' / 256) (Fr.ent (k : Int))) := by
            refine Lib.hid ?_
            unfold Fr.upd
            rw [hkx]
          clear hx
          go_wp2
          go_roundg (l.length - (a + 1))
          case measure => rw [HK2.out]; omega
          case rel => exact ⟨a + 1, _, by omega, rfl, by simp, rfl, by rw [HT.out, HX.out], rfl⟩
        · have han1 : (l.length : Int) ≤ (a : Int) := by omega
          have HE : Hid (l.take a = l) := Lib.hid (List.take_of_length_le (by omega))
          go_wp2
          go_roundg (ls.length - (j + 1))
          case measure => rw [HK.out]; omega
          case rel => exact ⟨j + 1, _, by omega, rfl, by simp, rfl, by rw [HFT.out, List.foldl_append, ← HC.out, HC2.out, HE.out], rfl⟩
    · have hjn1 : (ls.length : Int) ≤ (j : Int) := by omega
      have HE : Hid (ls.take j = ls) := Lib.hid (List.take_of_length_le (by omega))
      go_wp2
      go_ret
      exact ⟨by rw [HC.out, HE.out]; rfl, hb2⟩
end Go.Proofs.YtcinagglbkbmkaaDoor
namespace Go.Proofs.YtcinagglbkbmkaaDoor
set_option linter.unusedSimpArgs false
set_option linter.unusedVariables false
open Go Go.RowKit
open Go.Maps Go.WideMaps

namespace Fr
def byte (n : Int) : UInt8 := UInt8.ofNat (n % 256).toNat
theorem byte_val (n : Int) : ((byte n).toNat : Int) = n % 256 := by
  unfold byte
  rw [UInt8.toNat_ofNat_of_lt' (by show _ < 256; omega)]
  omega
def four (n : Int) : List UInt8 := [byte n, byte (n / 256), byte (n / 65536), byte (n / 16777216)]
def num (l : List UInt8) : Nat := (l.getD 0 0).toNat + 256 * (l.getD 1 0).toNat + 65536 * (l.getD 2 0).toNat + 16777216 * (l.getD 3 0).toNat
theorem num_four (n : Int) (h0 : 0 ≤ n) (h1 : n < 4294967296) (r : List UInt8) : (num (four n ++ r) : Int) = n := by
  have e0 := byte_val n
  have e1 := byte_val (n / 256)
  have e2 := byte_val (n / 65536)
  have e3 := byte_val (n / 16777216)
  unfold num four
  simp only [List.cons_append, List.getD_cons_zero, List.getD_cons_succ]
  omega
end Fr
theorem or32 (k a b : Nat) (hk : k ≤ 32) (ha : a < 2 ^ k) (hb : 2 ^ k * b < 4294967296) : bits .or .u32 (a : Int) ((2 ^ k * b : Nat) : Int) = ((a + 2 ^ k * b : Nat) : Int) := by
  have h1 : 2 ^ k ≤ 2 ^ 32 := Nat.pow_le_pow_right (by omega) hk
  rw [u32_or_nat a _ (by omega) hb, Nat.or_comm, ← Nat.two_pow_add_eq_or_of_lt ha, Nat.add_comm]
theorem OwnB.byts {w : World} {base : Nat} {v : Value} {l : List UInt8} (h : OwnB w base v l) : Byts w v l := by
  have hcs := fun g hg => World.ownsRow.cells (g := g) h hg
  rcases h.2 with ⟨h1, h2⟩ | ⟨g, cap, cur, h1, hg, hb, hc, hm, _, _⟩
  · exact ⟨none, 0, by rw [h1, h2], by omega, fun _ => rfl, fun i x hx => by
      have := (List.getElem?_eq_some_iff.1 hx).1
      omega⟩
  · refine ⟨some ⟨g, 0, none⟩, cap, h1, hc, (fun e => by cases e), fun i x hx => ⟨g, 0, rfl, heap_lt hb, ?_⟩⟩
    have := hcs g (by rw [h1]; rfl) i (.int .u8 x.toNat) (by simp [u8Cells, hx])
    rw [addr_add] at this
    rw [Nat.zero_add]
    exact this
/-- Appending bytes, wherever they lie, onto bytes of one's own. -/
theorem wpList_append_byts {ops : Array Oper} {rest : List Oper} {o : Oper} {a : Act} {w : World} {Q : Exit → Act → World → Prop} (hgd : o.guard = none) (s x : Operand)
    (ho : o.op = .call { callee := .builtin .append, args := #[s, x], argTypes := #[42, 42] })
    (base : Nat) (v : Value) (l : List UInt8) (hs : a.eval s = v) (hown : OwnB w base v l) (xv : Value) (news : List UInt8) (hx : a.eval x = xv) (hB : Byts w xv news)
    (h63 : l.length + news.length ≤ 1000000000) (hbase : base ≤ w.heap.size)
    (h : ∀ v' w', OwnB w' base v' (l ++ news) → w.grownBy w' v.ownBlock → (v'.ownBlock = v.ownBlock ∨ v'.ownBlock = some w.heap.size) → wpList Tryd.prog ops Q rest (a.put o.dst v') w') :
    wpList Tryd.prog ops Q (o :: rest) a w := by
  obtain ⟨i0, hi, hz0, hz1, hz2⟩ := info_parts infoB
  obtain ⟨xa, xc, rfl, hxc, hxn⟩ := hB.form2
  have hcells : u8Cells (l ++ news) = u8Cells l ++ u8Cells news := by simp [u8Cells]
  cases xa with
  | none =>
    have h0 : news.length = 0 := by have := hxn rfl; omega
    have hnil := List.length_eq_zero_iff.1 h0
    subst hnil
    rw [hxn rfl] at hx
    refine wpList_append_own_none hgd s x _ ho base 5 i0 1 Tryd.underlying42 hi v _ _ hs hown hx ?_
    exact h v w (by rw [List.append_nil]; exact hown) ⟨rfl, rfl, rfl, Nat.le_refl _, fun _ _ _ => rfl⟩ (.inl rfl)
  | some ad =>
    refine wpList_append_own_at w hgd s x _ ho base 5 i0 (.int .u8 0) 1 1 Tryd.underlying42 hi hz0 hz1 hz2 rfl (by decide) v l.length (u8Cells l) hs hown ad news.length xc (u8Cells news) hx (by rw [u8Cells_len]; omega) ?_ (u8Cells_one news) (by unfold maxLen; omega) (by omega) hbase ?_
    · intro j u hj
      unfold u8Cells at hj
      rw [List.getElem?_map] at hj
      cases hx2 : news[j]? with
      | none => rw [hx2] at hj; cases hj
      | some y =>
        rw [hx2] at hj
        simp at hj
        obtain ⟨b, off, e1, e2, e3⟩ := hB.at hx2
        cases e1
        rw [addrAdd, ← hj]
        exact e3
    · intro v' w' h1 h2 _ h4
      exact h v' w' (by unfold OwnB; rw [List.length_append, hcells]; exact h1) h2 h4
set_option maxHeartbeats 1000000 in
set_option maxRecDepth 100000 in
theorem four_any (n : Int) (w : World) :
    Calls Tryd.prog 34 #[.int .u32 n] w fun e w' => ∃ v, e = .returned v ∧ OwnB w' w.heap.size v (Fr.four n) ∧ Below w.heap.size w w' := by
  go_enter Tryd.func34, Tryd.ntmps34
  go_wp2
  go_ret
  refine ⟨_, rfl, ?_, (Below.refl _ _).alloc (Nat.le_refl _) _⟩
  have h := World.ownsRow_lit (base := w.heap.size) (e := 5) (size := 1) w #[.int .u8 (n % 256), .int .u8 (n / 256 % 256), .int .u8 (n / 65536 % 256), .int .u8 (n / 16777216 % 256)] 4 (Nat.le_refl _) (by unfold maxLen; omega) rfl
  have hc : u8Cells (Fr.four n) = [.int .u8 (n % 256), .int .u8 (n / 256 % 256), .int .u8 (n / 65536 % 256), .int .u8 (n / 16777216 % 256)] := by
    simp [u8Cells, Fr.four, Fr.byte_val]
  unfold OwnB
  rw [hc]
  exact h
set_option maxHeartbeats 1000000 in
set_option maxRecDepth 100000 in
theorem number_any (v : Value) (l : List UInt8) (w : World) (hV : Byts w v l) (hl : 4 ≤ l.length) (hl2 : l.length ≤ 1000000000) :
    Calls Tryd.prog 42 #[v] w fun e w' => e = .returned (.int .u32 (Fr.num l)) ∧ ∃ n, w' = w.drewN n := by
  obtain ⟨va, vc, rfl, hc⟩ := hV.form
  obtain ⟨x0, h0⟩ : ∃ x, l[0]? = some x := ⟨_, List.getElem?_eq_getElem (by omega)⟩
  obtain ⟨x1, h1⟩ : ∃ x, l[1]? = some x := ⟨_, List.getElem?_eq_getElem (by omega)⟩
  obtain ⟨x2, h2⟩ : ∃ x, l[2]? = some x := ⟨_, List.getElem?_eq_getElem (by omega)⟩
  obtain ⟨x3, h3⟩ : ∃ x, l[3]? = some x := ⟨_, List.getElem?_eq_getElem (by omega)⟩
  obtain ⟨g, o, rfl, hg, c0⟩ := hV.at h0
  obtain ⟨_, _, e1, _, c1⟩ := hV.at h1
  cases e1
  obtain ⟨_, _, e1, _, c2⟩ := hV.at h2
  cases e1
  obtain ⟨_, _, e1, _, c3⟩ := hV.at h3
  cases e1
  have HN : Hid (Fr.num l = x0.toNat + 256 * x1.toNat + 65536 * x2.toNat + 16777216 * x3.toNat) := by
    refine Lib.hid ?_
    unfold Fr.num
    simp only [List.getD_eq_getElem?_getD, h0, h1, h2, h3, Option.getD_some]
  have b0 : x0.toNat < 256 := UInt8.toNat_lt _
  have b1 : x1.toNat < 256 := UInt8.toNat_lt _
  have b2 : x2.toNat < 256 := UInt8.toNat_lt _
  have b3 : x3.toNat < 256 := UInt8.toNat_lt _
  clear h0 h1 h2 h3 hV
  rw [Nat.add_zero] at c0
  have hl4 : (4 : Int) ≤ (l.length : Int) := by omega
  go_enter Tryd.func42, Tryd.ntmps42
  go_wp2_with fail
  refine wp_region_cuts [] (by kernel_rfl) (by kernel_rfl) ?_; simp only [wpMix, List.take_succ_cons, List.take_zero, List.drop_succ_cons, List.drop_zero, Nat.sub_zero, Nat.reduceSub, Nat.reduceAdd]
  repeat (go_big_quiet_step (fail))
  refine wpQuiet_nil ?_; rintro _ ⟨nq, rfl⟩
  go_wp2_with fail
  go_ret
  refine ⟨congrArg (fun x => Ending.returned (.int .u32 x)) ?_, nq, rfl⟩
  rw [HN.out, show (x1.toNat : Int) * 256 = ((2 ^ 8 * x1.toNat : Nat) : Int) by omega, or32 8 _ _ (by omega) (by omega) (by omega), show (x2.toNat : Int) * 65536 = ((2 ^ 16 * x2.toNat : Nat) : Int) by omega, or32 16 _ _ (by omega) (by omega) (by omega), show (x3.toNat : Int) * 16777216 = ((2 ^ 24 * x3.toNat : Nat) : Int) by omega, or32 24 _ _ (by omega) (by omega) (by omega)]
end Go.Proofs.YtcinagglbkbmkaaDoor
namespace Go.Proofs.YtcinagglbkbmkaaDoor
set_option linter.unusedSimpArgs false
set_option linter.unusedVariables false
open Go Go.RowKit
open Go.Maps Go.WideMaps

def growB_ren : Go.Shelf.Ren := ⟨fun | 4 => 48 | n => n, fun | 0 => 0 | 3 => 3 | 4 => 4 | 9 => 9 | 20 => 20 | 22 => 42 | 25 => 5 | n => n, fun | n => n⟩
theorem growB_lays : Go.Proofs.Lays8.n4 Tryd.prog growB_ren := {
  mixed := by kernel_rfl
  f4 := ⟨Tryd.f48.name, by decide, Tryd.func48.trans (congrArg some (by kernel_rfl))⟩
  t0 := Tryd.underlying0
  a0 := Tryd.isAgg0
  z0 := Tryd.sizeOf0
  v0 := Tryd.zeroValue0
  t3 := Tryd.underlying3
  a3 := Tryd.isAgg3
  z3 := Tryd.sizeOf3
  v3 := Tryd.zeroValue3
  t4 := Tryd.underlying4
  a4 := Tryd.isAgg4
  z4 := Tryd.sizeOf4
  v4 := Tryd.zeroValue4
  t9 := Tryd.underlying9
  a9 := Tryd.isAgg9
  z9 := Tryd.sizeOf9
  v9 := Tryd.zeroValue9
  t20 := Tryd.underlying20
  a20 := Tryd.isAgg20
  z20 := Tryd.sizeOf20
  v20 := Tryd.zeroValue20
  t22 := Tryd.underlying42
  a22 := Tryd.isAgg42
  z22 := Tryd.sizeOf42
  v22 := Tryd.zeroValue42 }

theorem grow_any (n : Nat) (w : World) (hn : n ≤ 1000000000) :
    Calls Tryd.prog 48 #[.slice none 0 0, .int .i64 n] w fun e w' => ∃ v, e = .returned v ∧ OwnB w' w.heap.size v [] ∧ Below w.heap.size w w' := by
  obtain ⟨i0, hi, hz0, hz1, hz2⟩ := info_parts infoB
  by_cases h0 : n = 0
  · subst h0
    refine (Any8.slices_Grow_room growB_lays none 0 0 0 w (by omega) (by omega) (by omega) (by omega)).mono ?_
    rintro e w' ⟨rfl, rfl⟩
    exact ⟨_, rfl, World.ownsRow_nil _ _ _ _, Below.refl _ _⟩
  · refine (Any8.slices_Grow_grow growB_lays i0 (.int .u8 0) hi hz0 (by rw [hz1]; omega) none 0 0 n [] w (by omega) (by omega) (by rw [hz2]; omega) (by omega) (by simp) (fun _ => rfl) (fun a h => by cases h)).mono ?_
    rintro e w' ⟨rfl, rfl⟩
    refine ⟨_, rfl, ?_, ⟨rfl, rfl, rfl, by simp, fun k hk => Below.heap_alloc w.drew _ _ hk⟩⟩
    have hcap := grownCap_le_maxLen w (0 + n) 0 (growB_ren.t 25) (by unfold maxLen; omega)
    have hge := grownCap_ge w (0 + n) 0 (growB_ren.t 25)
    refine ⟨rfl, .inr ⟨w.heap.size, _, _, rfl, Nat.le_refl _, heap_new w.drew _, Nat.zero_le _, hcap, ?_, ?_⟩⟩
    · rw [Nat.zero_add] at hge
      simp [Builtin.zeroCells, Value.cells]
      omega
    · rfl

theorem below_grown {w wr w5 : World} {base k n : Nat} {t : TypeId} {v : Value} {cs : List Value} (hb : Below base w wr) (hbase : base ≤ wr.heap.size) (ho : wr.ownsRow base t k v n cs) (hg : wr.grownBy w5 v.ownBlock) : Below base w w5 := by
  refine ⟨hg.os.trans hb.os, hg.tape.trans hb.tape, hg.output.trans hb.output, Nat.le_trans hb.size hg.size, fun j hj => ?_⟩
  rw [← hb.block j hj]
  exact hg.block j (by omega) (fun e => by
    have := (ho.lt j e.symm).1
    omega)
set_option maxHeartbeats 1000000 in
set_option maxRecDepth 100000 in
theorem concat_any (v : Value) (ls : List (List UInt8)) (w : World) (hV : Prts w v ls) (hl : ls.length ≤ 1000000000) (hs : ls.flatten.length ≤ 1000000000) :
    Calls Tryd.prog 33 #[v] w fun e w' => ∃ v', e = .returned v' ∧ OwnB w' w.heap.size v' ls.flatten ∧ Below w.heap.size w w' := by
  obtain ⟨i0, hi, hz0, hz1, hz2⟩ := info_parts infoB
  obtain ⟨va, vc, rfl⟩ := hV.form
  have HV := Lib.hid hV
  clear hV
  go_enter Tryd.func33, Tryd.ntmps33
  go_wp2_with fail
  go_loopg [3, 11] ls.length (fun k s3 s11 wr => ∃ j : Nat, j ≤ ls.length ∧ k = ls.length - j ∧ s11 = .int .i64 (j : Nat) ∧ (∃ M : Nat, s3 = .int .i64 (M : Nat) ∧ M = (ls.take j).flatten.length) ∧ wr = w)
  case atStart => exact ⟨0, Nat.zero_le _, rfl, rfl, ⟨0, rfl, rfl⟩, rfl⟩
  case round =>
    obtain ⟨j, hj, hk, rfl, ⟨M, rfl, hM⟩, hwr⟩ := hrel
    subst wr
    have HK := Lib.hid hk
    have HM := Lib.hid hM
    clear hk hM
    have hj0 : (0 : Int) ≤ (j : Int) := Int.natCast_nonneg _
    by_cases hjn : j < ls.length
    · have hjn1 : (j : Int) < (ls.length : Int) := by omega
      obtain ⟨l, hlj⟩ : ∃ l, ls[j]? = some l := ⟨_, List.getElem?_eq_getElem hjn⟩
      obtain ⟨g, o, lv, rfl, hg, hgc, hB⟩ := HV.out.at hlj
      obtain ⟨la, lc, rfl, _⟩ := hB.form
      have hft : (ls.take (j + 1)).flatten.length = (ls.take j).flatten.length + l.length := by rw [flat_take ls j l hlj, List.length_append]
      have hle : (ls.take (j + 1)).flatten.length ≤ ls.flatten.length := by
        have := congrArg (fun x : List (List UInt8) => x.flatten.length) (List.take_append_drop (j + 1) ls)
        simp only [List.flatten_append, List.length_append] at this
        omega
      have hsum0 : (0 : Int) ≤ (M : Int) := Int.natCast_nonneg _
      have hsum : (M : Int) + (l.length : Int) ≤ 1000000000 := by rw [HM.out]; omega
      have hsum2 : (0 : Int) ≤ (M : Int) + (l.length : Int) := by omega
      have HFT := Lib.hid hft
      clear hft hle hlj
      go_wp2_with fail
      go_roundg (ls.length - (j + 1))
      case measure => rw [HK.out]; omega
      case rel => exact ⟨j + 1, by omega, rfl, by simp, ⟨M + l.length, by simp, by rw [HFT.out, HM.out]⟩, rfl⟩
    · have hjn1 : (ls.length : Int) ≤ (j : Int) := by omega
      have HE : Hid (ls.take j = ls) := Lib.hid (List.take_of_length_le (by omega))
      have hM2 : M ≤ 1000000000 := by rw [HM.out, HE.out]; exact hs
      go_wp2_with fail
      refine (grow_any M w hM2).mono ?_
      rintro e w1 ⟨v1, rfl, ho1, hb1⟩
      have HO1 := Lib.hid ho1
      clear ho1
      go_wp2_with fail
      go_loopg [6, 27] ls.length (fun k s6 s27 wq => ∃ i : Nat, i ≤ ls.length ∧ k = ls.length - i ∧ s27 = .int .i64 (i : Nat) ∧ OwnB wq w.heap.size s6 (ls.take i).flatten ∧ Below w.heap.size w wq)
      case atStart => exact ⟨0, Nat.zero_le _, rfl, rfl, HO1.out, hb1⟩
      case round =>
        obtain ⟨i, hi2, hk, rfl, ho, hbq⟩ := hrel
        have HK2 := Lib.hid hk
        clear hk
        have hi0 : (0 : Int) ≤ (i : Int) := Int.natCast_nonneg _
        by_cases hin : i < ls.length
        · have hin1 : (i : Int) < (ls.length : Int) := by omega
          obtain ⟨l, hli⟩ : ∃ l, ls[i]? = some l := ⟨_, List.getElem?_eq_getElem hin⟩
          obtain ⟨g, o, lv, rfl, hg, hgc, hB⟩ := HV.out.at hli
          have hgc2 : wr.cell? ⟨g, o + i, none⟩ = some lv := by rw [World.cell?_of_block (hbq.block g hg)]; exact hgc
          have HB := Lib.hid (hB.keep hbq.size hbq.block)
          have HFT := Lib.hid (flat_take ls i l hli)
          have hle : (ls.take i).flatten.length + l.length ≤ 1000000000 := by
            have h1 := congrArg (fun x : List (List UInt8) => x.flatten.length) (List.take_append_drop (i + 1) ls)
            simp only [List.flatten_append, List.length_append, HFT.out] at h1
            omega
          have HLE := Lib.hid hle
          have HO := Lib.hid ho
          have hbs := hbq.size
          clear hB hle ho hgc hli
          go_wp2_with (first | (at_builtin; refine wpList_append_byts rfl _ _ rfl w.heap.size u6 _ rfl HO.out lv l rfl HB.out HLE.out hbs ?_; intro d' w5 hown5 hgrow5 hloc5; have HOWN := Lib.hid hown5; have HGR := Lib.hid hgrow5; clear hown5 hgrow5 hloc5) | fail)
          go_roundg (ls.length - (i + 1))
          case measure => rw [HK2.out]; omega
          case rel => exact ⟨i + 1, by omega, rfl, by simp, by rw [HFT.out]; exact HOWN.out, below_grown hbq hbq.size HO.out HGR.out⟩
        · have hin1 : (ls.length : Int) ≤ (i : Int) := by omega
          have HE2 : Hid (ls.take i = ls) := Lib.hid (List.take_of_length_le (by omega))
          rw [HE2.out] at ho
          have HO := Lib.hid ho
          clear ho
          go_wp2_with fail
          go_ret
          exact ⟨_, rfl, HO.out, hbq⟩
end Go.Proofs.YtcinagglbkbmkaaDoor
