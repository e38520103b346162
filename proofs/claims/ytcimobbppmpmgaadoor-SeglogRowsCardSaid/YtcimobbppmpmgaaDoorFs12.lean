/-
  The file system: Append, walked (where no step is planned to write a part).
-/
import Derived.Test.YtcimobbppmpmgaaDoorFs11
import Derived.Test.YtcimobbppmpmgaaDoorLater
namespace Go.Proofs.YtcimobbppmpmgaaDoor
set_option linter.unusedSimpArgs false
set_option linter.unusedVariables false
open Go Go.RowKit
open Go.Maps Go.WideMaps

namespace Fs
def grow (l : List (List UInt8 × Nat)) (i : Nat) (b : List UInt8) : List (List UInt8 × Nat) := match l[i]? with | some f => l.set i (f.1 ++ b, f.2) | none => l
def fileAt (st : St) (n : List UInt8) : List UInt8 := match st.files[idx st n]? with | some f => f.1 | none => []
def append (st : St) (n b : List UInt8) : St × Int :=
  if openE st n ≠ 0 then (st, openE st n)
  else if 65536 < (fileAt st n).length + b.length then (st, 5)
  else if (step st).2.2 ≠ 0 then
    (if 2 < (step st).2.1 then ({ (step st).1 with files := grow st.files (idx st n) (b.take (min (min ((step st).2.1 - 3) b.length) (max 0 (st.room - used st))).toNat) }, (step st).2.2) else ((step st).1, (step st).2.2))
  else if st.room - used st < b.length then ((step st).1, 21)
  else ({ (step st).1 with files := grow st.files (idx st n) b }, 0)
end Fs

/-- Bytes that are handed in: a slice that is not nil, in memory that is no one's. -/
def BytesIn (w : World) (own : Nat → Tag) (v : Value) (l : List UInt8) : Prop :=
  ∃ g o c, v = .slice (some ⟨g, o, none⟩) l.length c ∧ g < w.heap.size ∧ own g = .other ∧ ∀ (i : Nat) (x : UInt8), l[i]? = some x → w.cell? ⟨g, o + i, none⟩ = some (.int .u8 x.toNat)
theorem BytesIn.kept {w w' : World} {own : Nat → Tag} {v : Value} {l : List UInt8} {T : Tag → Prop} (h : BytesIn w own v l) (hk : Kept own T w w') (hT : ¬ T .other) : BytesIn w' own v l := by
  obtain ⟨g, o, c, h1, h2, h3, h4⟩ := h
  exact ⟨g, o, c, h1, Nat.lt_of_lt_of_le h2 hk.size, h3, fun i x hi => by rw [World.cell?_of_block (hk.block g h2 (by rw [h3]; exact hT))]; exact h4 i x hi⟩
theorem addrAdd (g o k : Nat) : (⟨g, o, none⟩ : Addr).add k = ⟨g, o + k, none⟩ := by
  by_cases h : k = 0
  · subst h; simp [Addr.add]
  · simp [Addr.add, h]

theorem row_any {w : World} {base : Nat} {t : TypeId} {k n : Nat} {v : Value} {cs : List Value} (h : w.ownsRow base t k v n cs) : ∃ a c, v = .slice a n c := by
  rcases h.2 with ⟨h1, h2⟩ | ⟨g, cap, cur, hv, _⟩
  · exact ⟨none, 0, by rw [h1, h2]⟩
  · exact ⟨_, _, hv⟩
/-- A file's bytes have grown. -/
theorem FsOK.appended {base B : Nat} {st : Fs.St} {V : FsV} {own : Nat → Tag} {w w5 : World} (h : FsOK base B st V own w) {i b : Nat} {f : List UInt8 × Nat} {d d' : Value} {l : List UInt8} (hf : st.files[i]? = some f) (hb : V.fb[i]? = some b)
    (hd : V.dv[i]? = some d) (hrow : w5.ownsRow base 5 1 d' (f.1.length + l.length) (u8Cells f.1 ++ u8Cells l)) (hg : w.grownBy w5 d.ownBlock) (hloc : d'.ownBlock = d.ownBlock ∨ d'.ownBlock = some w.heap.size) (hbase : base ≤ w.heap.size) :
    ∃ own', FsOK base B { st with files := st.files.set i (f.1 ++ l, f.2) } { V with dv := V.dv.set i d' } own' (w5.setCell ⟨b, 0, none⟩ d') ∧ (∀ k, k < w.heap.size → own' k = own k) ∧ Kept own (· ≠ .other) w (w5.setCell ⟨b, 0, none⟩ d') := by
  have hF := h.at_.file i f b d hf hb hd
  obtain ⟨own', o1, o2, o3, o4, hk⟩ := retag hF.row hrow hg hloc hF.tagD h.fresh h.old hbase
  have hA := h.at_.tags (own' := own') (fun k hk _ => o1 k hk)
  have hblt := heap_lt hF.blk
  have htb : own' b = .file i := (o1 b hblt).trans hF.tag
  have hkW : Kept own (fun t => t = .file i ∨ t = .data i) w (w5.setCell ⟨b, 0, none⟩ d') := (hk.mono (fun t ht => .inr ht)).setCell ⟨b, 0, none⟩ (.inl hF.tag) _
  have hkW' := hkW.tags o1
  have hb5 : w5.heap[b]? = some (.cells #[d, .int .i64 f.2] 82 (0, 0)) := by rw [hk.block b hblt (by rw [hF.tag]; simp)]; exact hF.blk
  refine ⟨own', ⟨hA.file1 (f' := (f.1 ++ l, f.2)) (d' := d') hf hb hd hkW' ⟨heap_set hb5 _, htb, ?_, o2⟩, fun k hk2 => o3 k (by simpa [World.setCell] using hk2), o4⟩, o1, hkW.mono (fun t ht => by rcases ht with rfl | rfl <;> simp)⟩
  show World.ownsRow _ _ _ _ _ (f.1 ++ l).length (u8Cells (f.1 ++ l))
  have e1 : u8Cells (f.1 ++ l) = u8Cells f.1 ++ u8Cells l := by simp [u8Cells]
  rw [List.length_append, e1]
  refine row_kept hrow (fun g hg2 => Below.heap_setCell _ _ _ _ (fun e => ?_))
  have h1 := o2 g hg2
  rw [e, htb] at h1
  cases h1

set_option maxHeartbeats 1000000 in
set_option maxRecDepth 100000 in
theorem append_any (base B : Nat) (st : Fs.St) (V : FsV) (own : Nat → Tag) (s : ByteArray) (bv : Value) (l : List UInt8) (w : World) (h : FsOK base B st V own w) (hbv : BytesIn w own bv l) (hs : s.size ≤ 1000000)
    (hlen : ∀ f ∈ st.files, f.1.length ≤ 65536) (hll : l.length ≤ 1000000) (hdl : st.dir.length ≤ 900000) (hfl : st.files.length ≤ 900000) (hrm : 0 ≤ st.room ∧ st.room ≤ 1048576) (hhow : (Fs.step st).2.1 ≤ 2) (hbase : base ≤ w.heap.size) :
    Calls Tryd.prog 15 #[.pointer (some ⟨B, 0, none⟩), .string s, bv] w fun e w' => e = .returned (.int .i64 (Fs.append st s.data.toList l).2) ∧ OpPost base B (Fs.append st s.data.toList l).1 own w w' := by
  obtain ⟨i0, hi, hz0, hz1, hz2⟩ := info_parts infoB
  obtain ⟨bg, bo, bc, rfl, hbl, hbt, hbcl⟩ := hbv
  have HB := Lib.hid (show BytesIn w own (.slice (some ⟨bg, bo, none⟩) l.length bc) l from ⟨bg, bo, bc, rfl, hbl, hbt, hbcl⟩)
  have H := Lib.hid h
  have hused : Fs.used st ≤ 1000000000000 := by
    have h1 := Fs.sum_le st 65536 hlen st.dir
    have h2 := Nat.mul_le_mul_right 65536 hdl
    exact Nat.le_trans (Nat.le_trans h1 h2) (by decide)
  clear h hbcl
  go_enter Tryd.func15, Tryd.ntmps15
  go_wp2_with fail
  refine (open_any base B st V own s w H.out.at_ hs).mono ?_
  rintro e w1 ⟨hb1, hres⟩
  have hk01 : Kept own (· = .root) w w1 := kept_below hb1
  have H1 := Lib.hid (H.out.kept (kept_below hb1))
  rcases hres with ⟨h0, f, b, d, hf, hb, hd, rfl⟩ | ⟨h0, rfl⟩
  · have HF := Lib.hid (H1.out.at_.file (Fs.idx st s.data.toList) f b d hf hb hd)
    have hfa : Fs.fileAt st s.data.toList = f.1 := by unfold Fs.fileAt; rw [hf]
    have hfl2 := hlen f (List.mem_of_getElem? hf)
    obtain ⟨da, dc, hdv⟩ : ∃ a c, d = .slice a f.1.length c := by
      rcases HF.out.row.2 with ⟨e1, e2⟩ | ⟨g, cap, cur, e1, _⟩
      · exact ⟨none, 0, by rw [e1, e2]⟩
      · exact ⟨_, _, e1⟩
    have x0 : w1.cell? ⟨b, 0, none⟩ = some (.slice da f.1.length dc) := by rw [← hdv]; exact root_cell HF.out.blk 0 _ rfl
    have HDV := Lib.hid hdv
    clear hdv
    by_cases hlong : 65536 < f.1.length + l.length
    · have HE : Hid (Fs.append st s.data.toList l = (st, 5)) := by unfold Fs.append; rw [if_neg (by simp [h0]), hfa, if_pos hlong]; exact Lib.hid rfl
      have hl2 : (65536 : Int) < (f.1.length : Int) + (l.length : Int) := by omega
      go_wp2
      go_ret
      rw [HE.out]
      exact ⟨rfl, V, own, H1.out, fun _ _ => rfl, kept_below hb1⟩
    · have hl2 : (f.1.length : Int) + (l.length : Int) ≤ 65536 := by omega
      have x3 : w1.cell? ⟨B, 3, none⟩ = some (.int .i64 st.room) := root_cell H1.out.at_.root 3 _ rfl
      have HL3 : ∀ x : Later w1, x.1.cell? ⟨B, 3, none⟩ = some (.int .i64 st.room) := fun x => Later.cell x3 x
      have HU : ∀ x : Later w1, Calls Tryd.prog 30 #[.pointer (some ⟨B, 0, none⟩)] x.1 fun e w' => e = .returned (.int .i64 (Fs.used st)) ∧ Below x.1.heap.size x.1 w' := fun x =>
        used_any base B st V own x.1 (H1.out.kept (kept_below x.2)) (fun f hf => by have := hlen f hf; omega) hdl hfl
      have HUU := Lib.hid HU
      clear HU
      go_wp2_with fail
      refine wp_region_later (by kernel_rfl) (by kernel_rfl) ?_
      repeat (go_big_quiet_step ((exact Later.call (v := .int .i64 (Fs.used st)) (HUU.out _))))
      refine wpQuiet_nil ?_; rintro w1b ⟨⟨_, hb1b⟩, rfl⟩
      have H1B := Lib.hid (H1.out.kept (kept_below hb1b))
      have hb02 : Below w.heap.size w w1b := hb1.trans (hb1b.mono hb1.size)
      clear HUU HL3 x3 x0
      go_wp2_with fail
      refine (step_any base B st V own w1b H1B.out.at_).mono ?_
      rintro e w2 ⟨pv, rfl, h2, hk2⟩
      have hk02 : Kept own (· ≠ .other) w w2 := (kept_below hb02).trans (hk2.mono (fun t ht => by rw [ht]; simp))
      have hkr : Kept own (· = .root) w w2 := (kept_below hb02).trans hk2
      have hfr2 : ∀ k, w2.heap.size ≤ k → own k = .other := fun k hk => H1B.out.fresh k (Nat.le_trans hk2.size hk)
      have H2 := Lib.hid (show FsOK base B (Fs.step st).1 { V with pv := pv } own w2 from ⟨h2, hfr2, H.out.old⟩)
      clear h2
      by_cases hc : (Fs.step st).2.2 = 0
      · have hc2 : ((Fs.step st).2.2 != 0) = false := by rw [hc]; rfl
        by_cases hroom : st.room - Fs.used st < l.length
        · have HE : Hid (Fs.append st s.data.toList l = ((Fs.step st).1, 21)) := by
            unfold Fs.append; rw [if_neg (by simp [h0]), hfa, if_neg hlong, if_neg (by simp [hc]), if_pos hroom]; exact Lib.hid rfl
          clear hc
          go_wp2
          go_ret
          rw [HE.out]
          exact ⟨rfl, _, own, H2.out, fun _ _ => rfl, hk02⟩
        · have HE : Hid (Fs.append st s.data.toList l = ({ (Fs.step st).1 with files := Fs.grow st.files (Fs.idx st s.data.toList) l }, 0)) := by
            unfold Fs.append; rw [if_neg (by simp [h0]), hfa, if_neg hlong, if_neg (by simp [hc]), if_neg hroom]; exact Lib.hid rfl
          have hroom2 : (l.length : Int) ≤ st.room - Fs.used st := by omega
          have HGR : Hid (Fs.grow st.files (Fs.idx st s.data.toList) l = (Fs.step st).1.files.set (Fs.idx st s.data.toList) (f.1 ++ l, f.2)) := by
            unfold Fs.grow; rw [hf, Fs.step_files]; exact Lib.hid rfl
          have HF2 := Lib.hid (H2.out.at_.file (Fs.idx st s.data.toList) f b d (by rw [Fs.step_files]; exact hf) hb hd)
          have y0 : w2.cell? ⟨b, 0, none⟩ = some (.slice da f.1.length dc) := by rw [← HDV.out]; exact root_cell HF2.out.blk 0 _ rfl
          have hrow2 : w2.ownsRow base 5 1 (.slice da f.1.length dc) f.1.length (u8Cells f.1) := by rw [← HDV.out]; exact HF2.out.row
          have HROW := Lib.hid hrow2
          have hbytes : ∀ j u, (u8Cells l)[j]? = some u → w2.cell? ((⟨bg, bo, none⟩ : Addr).add j) = some u := fun j u hj => by
            rw [addrAdd]
            obtain ⟨g, o, c, e1, e2, e3, e4⟩ := HB.out.kept hkr (by simp)
            simp only [Value.slice.injEq, Option.some.injEq, Addr.mk.injEq, and_true] at e1
            obtain ⟨⟨rfl, rfl⟩, -⟩ := e1
            unfold u8Cells at hj
            rw [List.getElem?_map] at hj
            cases hx : l[j]? with
            | none => rw [hx] at hj; cases hj
            | some x =>
              rw [hx] at hj
              simp at hj
              rw [← hj]
              exact e4 j x hx
          have HBY := Lib.hid hbytes
          have hsz2 := hkr.size
          have HB5 : ∀ w5, w2.grownBy w5 (Value.slice da f.1.length dc).ownBlock → w5.cell? ⟨b, 0, none⟩ = some (.slice da f.1.length dc) ∧ w5.frozen? ⟨b, 0, none⟩ = false := fun w5 hg5 => by
            have hb5 : w5.heap[b]? = some (.cells #[d, .int .i64 f.2] 82 (0, 0)) := by
              rw [hg5.block b (heap_lt HF2.out.blk) (fun e => by
                have h1 := HF2.out.tagD b (by rw [HDV.out]; exact e.symm)
                rw [HF2.out.tag] at h1
                cases h1)]
              exact HF2.out.blk
            exact ⟨by rw [← HDV.out]; exact root_cell hb5 0 _ rfl, root_frozen hb5 0⟩
          clear hc hrow2 hbytes hroom hlong
          go_wp2_with (first | (at_builtin; refine wpList_append_own_at _ rfl _ _ 32 rfl base 5 i0 (.int .u8 0) 1 1 Tryd.underlying32 hi hz0 hz1 hz2 rfl (by decide) (.slice da f.1.length dc) f.1.length (u8Cells f.1) rfl HROW.out ⟨bg, bo, none⟩ l.length bc (u8Cells l) rfl (by rw [u8Cells_len]; omega) HBY.out (u8Cells_one l) (by unfold maxLen; omega) (by omega) (by omega) ?_; intro d' w5 hown5 hgrow5 hnil5 hloc5; clear hnil5; obtain ⟨y0', f0'⟩ := HB5 _ hgrow5; obtain ⟨da', dc', hd'⟩ := row_any hown5; subst hd'; have HLOC := Lib.hid hloc5; clear hloc5) | fail)
          go_ret
          have hap := FsOK.appended (V := { V with pv := pv }) H2.out (by rw [Fs.step_files]; exact hf) hb hd hown5 (by rw [HDV.out]; exact hgrow5) (by rw [HDV.out]; exact HLOC.out) (by omega)
          obtain ⟨own', hok', ho', hk'⟩ := hap
          rw [HE.out, HGR.out]
          refine ⟨rfl, _, own', hok', fun k hk => ho' k (by omega), hk02.trans hk'⟩
      · have hc2 : ((Fs.step st).2.2 != 0) = true := by rw [bne_iff_ne]; exact hc
        have HE : Hid (Fs.append st s.data.toList l = ((Fs.step st).1, (Fs.step st).2.2)) := by
          unfold Fs.append; rw [if_neg (by simp [h0]), hfa, if_neg hlong, if_pos hc, if_neg (by omega)]; exact Lib.hid rfl
        go_wp2
        go_ret
        rw [HE.out]
        exact ⟨rfl, _, own, H2.out, fun _ _ => rfl, hk02⟩
  · have HE : Hid (Fs.append st s.data.toList l = (st, Fs.openE st s.data.toList)) := by unfold Fs.append; rw [if_pos h0]; exact Lib.hid rfl
    have hc2 : (Fs.openE st s.data.toList != 0) = true := by rw [bne_iff_ne]; exact h0
    go_wp2
    go_ret
    rw [HE.out]
    exact ⟨rfl, V, own, H1.out, fun _ _ => rfl, kept_below hb1⟩
end Go.Proofs.YtcimobbppmpmgaaDoor
