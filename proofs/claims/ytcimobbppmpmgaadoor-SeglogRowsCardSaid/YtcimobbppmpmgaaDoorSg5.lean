/-
  Segments: Create and Append, walked.
-/
import Derived.Test.YtcimobbppmpmgaaDoorSg4
namespace Go.Proofs.YtcimobbppmpmgaaDoor
set_option linter.unusedSimpArgs false
set_option linter.unusedVariables false
open Go Go.RowKit
open Go.Maps Go.WideMaps

theorem OpPost.refl {base B : Nat} {st : Fs.St} {V : FsV} {own : Nat → Tag} {w : World} (h : FsOK base B st V own w) : OpPost base B st own w w := ⟨V, own, h, fun _ _ => rfl, Kept.refl _ _ _⟩
theorem OpPost.of {base B : Nat} {st : Fs.St} {V : FsV} {own : Nat → Tag} {w w' : World} (h : FsOK base B st V own w) (hb : Below w.heap.size w w') : OpPost base B st own w w' := ⟨V, own, h.kept (kept_below hb), fun _ _ => rfl, kept_below hb⟩
theorem OpPost.step {base B : Nat} {st' : Fs.St} {own own' : Nat → Tag} {w w1 w2 : World} (hk1 : Kept own (· ≠ .other) w w1) (ho1 : ∀ k, k < w.heap.size → own' k = own k) (h2 : OpPost base B st' own' w1 w2) : OpPost base B st' own w w2 := by
  obtain ⟨V2, own2, h, ho2, hk2⟩ := h2
  refine ⟨V2, own2, h, fun k hk => (ho2 k (Nat.lt_of_lt_of_le hk hk1.size)).trans (ho1 k hk), hk2.os.trans hk1.os, hk2.tape.trans hk1.tape, hk2.output.trans hk1.output, Nat.le_trans hk1.size hk2.size, fun k hk ht => ?_⟩
  rw [hk2.block k (Nat.lt_of_lt_of_le hk hk1.size) (by rw [ho1 k hk]; exact ht)]
  exact hk1.block k hk ht
theorem OpPost.below0 {base B : Nat} {st st' : Fs.St} {V : FsV} {own : Nat → Tag} {w w' : World} (h : FsOK base B st V own w) (hp : OpPost base B st' own w w') (hbase : base ≤ w.heap.size) : Below base w w' := by
  obtain ⟨_, _, _, _, hk⟩ := hp
  exact ⟨hk.os, hk.tape, hk.output, hk.size, fun k hk2 => hk.block k (Nat.lt_of_lt_of_le hk2 hbase) (by rw [h.old k hk2]; simp)⟩

namespace Sg
def create (st : Fs.St) (id : Int) : Fs.St × Int :=
  if nameE id ≠ 0 then (st, nameE id) else if (Fs.create st (nameB id)).2 ≠ 0 then Fs.create st (nameB id) else Fs.syncDir (Fs.create st (nameB id)).1
def append (st : Fs.St) (id k : Int) (p : List UInt8) : Fs.St × Int :=
  if nameE id ≠ 0 then (st, nameE id) else if Fr.encE k p ≠ 0 then (st, Fr.encE k p)
  else if (Fs.append st (nameB id) (Fr.bytes k p)).2 ≠ 0 then Fs.append st (nameB id) (Fr.bytes k p) else Fs.sync (Fs.append st (nameB id) (Fr.bytes k p)).1 (nameB id)
end Sg
/-- Sizes within reach. -/
structure Fs.Small (st : Fs.St) : Prop where
  files : st.files.length ≤ 800000
  dir : st.dir.length ≤ 800000
  changes : st.changes.length ≤ 800000
  file : ∀ f ∈ st.files, f.1.length ≤ 65536
  room : 0 ≤ st.room ∧ st.room ≤ 1048576

theorem nameStr (id : Int) : (⟨(Sg.nameB id).toArray⟩ : ByteArray).data.toList = Sg.nameB id := rfl
theorem nameSz (id : Int) : (⟨(Sg.nameB id).toArray⟩ : ByteArray).size ≤ 25 := by
  have := Sg.nameB_len id
  show (Sg.nameB id).toArray.size ≤ 25
  simpa using this

set_option maxHeartbeats 1000000 in
set_option maxRecDepth 100000 in
theorem segCreate_any (base B : Nat) (st : Fs.St) (V : FsV) (own : Nat → Tag) (id : Int) (w : World) (h : FsOK base B st V own w) (hE : SgEnv base w) (hbase : base ≤ w.heap.size) (hS : Fs.Small st) :
    Calls Tryd.prog 12 #[.pointer (some ⟨B, 0, none⟩), .int .i64 id] w fun e w' => e = .returned (.int .i64 (Sg.create st id).2) ∧ OpPost base B (Sg.create st id).1 own w w' := by
  have H := Lib.hid h
  have hEE := Lib.hid hE
  have HS := Lib.hid hS
  clear h hE hS
  go_enter Tryd.func12, Tryd.ntmps12
  go_wp2_with fail
  refine (name_any id w base hEE.out).mono ?_
  rintro e w1 ⟨rfl, hb1⟩
  have H1 := Lib.hid (H.out.kept (kept_below hb1))
  have HB1 := Lib.hid hb1
  obtain ⟨E, hE⟩ : ∃ E, E = Sg.nameE id := ⟨_, rfl⟩
  obtain ⟨sn, hsn⟩ : ∃ t : ByteArray, t = ⟨(Sg.nameB id).toArray⟩ := ⟨_, rfl⟩
  rw [← hsn, ← hE]
  have HN : Hid (sn.data.toList = Sg.nameB id) := by rw [hsn]; exact Lib.hid rfl
  have hsz : sn.size ≤ 25 := by rw [hsn]; exact nameSz id
  have HE := Lib.hid hE
  clear hE hsn hb1
  by_cases hE0 : E = 0
  · subst hE0
    go_wp2_with fail
    refine (create_any base B st V own sn w1 H1.out (by omega) (by have := HS.out.files; omega) (by have := HS.out.changes; omega) (by have := HS.out.dir; omega)).mono ?_
    rintro e w2 ⟨rfl, hp2⟩
    rw [HN.out] at hp2 ⊢
    obtain ⟨V2, own2, h2, ho2, hk2⟩ := hp2
    have HK02 := Lib.hid ((kept_below (own := own) (T := (· ≠ .other)) HB1.out).trans hk2)
    have HO02 : Hid (∀ k, k < w.heap.size → own2 k = own k) := Lib.hid (fun k hk => ho2 k (Nat.lt_of_lt_of_le hk HB1.out.size))
    have H2 := Lib.hid h2
    clear h2 ho2 hk2
    obtain ⟨C, hC⟩ : ∃ C, C = (Fs.create st (Sg.nameB id)).2 := ⟨_, rfl⟩
    rw [← hC]
    have HC := Lib.hid hC
    clear hC
    by_cases hC0 : C = 0
    · subst hC0
      have HR : Hid (Sg.create st id = Fs.syncDir (Fs.create st (Sg.nameB id)).1) := by
        unfold Sg.create
        rw [if_neg (by rw [← HE.out]; simp), if_neg (by rw [← HC.out]; simp)]
        exact Lib.hid rfl
      go_wp2_with fail
      refine (syncDir_any base B _ V2 own2 w2 H2.out).mono ?_
      rintro e w3 ⟨rfl, hp3⟩
      rw [← HR.out] at hp3 ⊢
      have HP3 := Lib.hid hp3
      clear hp3
      go_wp2_with fail
      go_ret
      exact ⟨rfl, OpPost.step HK02.out HO02.out HP3.out⟩
    · have HR : Hid (Sg.create st id = Fs.create st (Sg.nameB id)) := by
        unfold Sg.create
        rw [if_neg (by rw [← HE.out]; simp), if_pos (by rw [← HC.out]; exact hC0)]
        exact Lib.hid rfl
      have hte : (C != 0) = true := by rw [bne_iff_ne]; exact hC0
      have hte2 : (C == 0) = false := by rw [beq_eq_false_iff_ne]; exact hC0
      clear hC0
      go_wp2_with fail
      go_ret
      rw [HR.out]
      exact ⟨by rw [← HC.out]; rfl, V2, own2, H2.out, HO02.out, HK02.out⟩
  · have HR : Hid (Sg.create st id = (st, Sg.nameE id)) := by
      unfold Sg.create
      rw [if_pos (by rw [← HE.out]; exact hE0)]
      exact Lib.hid rfl
    have hte : (E != 0) = true := by rw [bne_iff_ne]; exact hE0
    have hte2 : (E == 0) = false := by rw [beq_eq_false_iff_ne]; exact hE0
    clear hE0
    go_wp2_with fail
    go_ret
    rw [HR.out]
    exact ⟨by rw [← HE.out]; rfl, OpPost.of H.out HB1.out⟩

set_option maxHeartbeats 1000000 in
set_option maxRecDepth 100000 in
theorem segAppend_any (base B : Nat) (st : Fs.St) (V : FsV) (own : Nat → Tag) (id k : Int) (pv : Value) (ls : List (List UInt8)) (w : World) (h : FsOK base B st V own w) (hE : SgEnv base w) (hbase : base ≤ w.heap.size) (hS : Fs.Small st)
    (hP : Prts w pv ls) (hl : ls.length ≤ 1000000000) (hs : ∀ l ∈ ls, l.length ≤ 1000000000) (hhow : (Fs.step st).2.1 ≤ 2) :
    Calls Tryd.prog 13 #[.pointer (some ⟨B, 0, none⟩), .int .i64 id, .int .i64 k, pv] w fun e w' => e = .returned (.int .i64 (Sg.append st id k ls.flatten).2) ∧ OpPost base B (Sg.append st id k ls.flatten).1 own w w' := by
  have H := Lib.hid h
  have hEE := Lib.hid hE
  have HS := Lib.hid hS
  have HP := Lib.hid hP
  obtain ⟨pa, pc, hpv⟩ := hP.form
  subst hpv
  clear h hE hS hP
  go_enter Tryd.func13, Tryd.ntmps13
  go_wp2_with fail
  refine (name_any id w base hEE.out).mono ?_
  rintro e w1 ⟨rfl, hb1⟩
  have H1 := Lib.hid (H.out.kept (kept_below hb1))
  have HB1 := Lib.hid hb1
  have HP1 := Lib.hid (HP.out.below hb1)
  obtain ⟨E, hE⟩ : ∃ E, E = Sg.nameE id := ⟨_, rfl⟩
  obtain ⟨sn, hsn⟩ : ∃ t : ByteArray, t = ⟨(Sg.nameB id).toArray⟩ := ⟨_, rfl⟩
  rw [← hsn, ← hE]
  have HN : Hid (sn.data.toList = Sg.nameB id) := by rw [hsn]; exact Lib.hid rfl
  have hsz : sn.size ≤ 25 := by rw [hsn]; exact nameSz id
  have HE := Lib.hid hE
  clear hE hsn hb1
  by_cases hE0 : E = 0
  · subst hE0
    go_wp2_with fail
    refine (encode_any k _ ls w1 HP1.out hl hs).mono ?_
    rintro e w2 ⟨hb2, hres⟩
    have HB2 := Lib.hid (HB1.out.trans (hb2.mono HB1.out.size))
    have H2 := Lib.hid (H.out.kept (kept_below HB2.out))
    have HB12 := Lib.hid hb2
    clear hb2
    rcases hres with ⟨hc0, v2, rfl, ho⟩ | ⟨hc0, rfl⟩
    · obtain ⟨g, c, hv2⟩ := row_form ho (by rw [Fr.bytes_len]; omega)
      subst hv2
      have HBY : Hid (BytesIn w2 own (.slice (some ⟨g, 0, none⟩) (Fr.bytes k ls.flatten).length c) (Fr.bytes k ls.flatten)) := by
        have hlt := ho.lt g rfl
        refine Lib.hid ⟨g, 0, c, rfl, hlt.2, H1.out.fresh g hlt.1, fun i x hx => ?_⟩
        obtain ⟨b, off, e1, e2, e3⟩ := ho.byts.at hx
        cases e1
        exact e3
      have HLL : Hid ((Fr.bytes k ls.flatten).length ≤ 1000000) := by
        have h1 := hc0
        unfold Fr.encE at h1
        rw [Fr.bytes_len]
        split at h1
        · cases h1
        · split at h1
          · cases h1
          · exact Lib.hid (by omega)
      have HC := Lib.hid hc0
      obtain ⟨N, hN⟩ : ∃ N, N = (Fr.bytes k ls.flatten).length := ⟨_, rfl⟩
      rw [← hN] at HBY ⊢
      have HNN := Lib.hid hN
      clear hc0 ho hN
      go_wp2_with fail
      refine (append_any base B st V own sn _ (Fr.bytes k ls.flatten) w2 H2.out HBY.out (by omega) HS.out.file HLL.out (by have := HS.out.dir; omega) (by have := HS.out.files; omega) HS.out.room hhow (by have := HB2.out.size; omega)).mono ?_
      rintro e w3 ⟨rfl, hp3⟩
      rw [HN.out] at hp3 ⊢
      obtain ⟨V3, own3, h3, ho3, hk3⟩ := hp3
      have HK03 := Lib.hid ((kept_below (own := own) (T := (· ≠ .other)) HB2.out).trans hk3)
      have HO03 : Hid (∀ k, k < w.heap.size → own3 k = own k) := Lib.hid (fun k hk => ho3 k (Nat.lt_of_lt_of_le hk HB2.out.size))
      have H3 := Lib.hid h3
      clear h3 ho3 hk3
      obtain ⟨C, hC⟩ : ∃ C, C = (Fs.append st (Sg.nameB id) (Fr.bytes k ls.flatten)).2 := ⟨_, rfl⟩
      rw [← hC]
      have HCC := Lib.hid hC
      clear hC
      by_cases hC0 : C = 0
      · subst hC0
        have HR : Hid (Sg.append st id k ls.flatten = Fs.sync (Fs.append st (Sg.nameB id) (Fr.bytes k ls.flatten)).1 (Sg.nameB id)) := by
          unfold Sg.append
          rw [if_neg (by rw [← HE.out]; simp), if_neg (by rw [HC.out]; simp), if_neg (by rw [← HCC.out]; simp)]
          exact Lib.hid rfl
        go_wp2_with fail
        refine (sync_any base B _ V3 own3 sn w3 H3.out (by omega)).mono ?_
        rintro e w4 ⟨rfl, hp4⟩
        rw [HN.out, ← HR.out] at hp4
        rw [HN.out, ← HR.out]
        have HP4 := Lib.hid hp4
        clear hp4
        go_wp2_with fail
        go_ret
        exact ⟨rfl, OpPost.step HK03.out HO03.out HP4.out⟩
      · have HR : Hid (Sg.append st id k ls.flatten = Fs.append st (Sg.nameB id) (Fr.bytes k ls.flatten)) := by
          unfold Sg.append
          rw [if_neg (by rw [← HE.out]; simp), if_neg (by rw [HC.out]; simp), if_pos (by rw [← HCC.out]; exact hC0)]
          exact Lib.hid rfl
        have hte : (C != 0) = true := by rw [bne_iff_ne]; exact hC0
        have hte2 : (C == 0) = false := by rw [beq_eq_false_iff_ne]; exact hC0
        clear hC0
        go_wp2_with fail
        go_ret
        rw [HR.out]
        exact ⟨by rw [← HCC.out]; rfl, V3, own3, H3.out, HO03.out, HK03.out⟩
    · have HR : Hid (Sg.append st id k ls.flatten = (st, Fr.encE k ls.flatten)) := by
        unfold Sg.append
        rw [if_neg (by rw [← HE.out]; simp), if_pos hc0]
        exact Lib.hid rfl
      obtain ⟨C, hC⟩ : ∃ C, C = Fr.encE k ls.flatten := ⟨_, rfl⟩
      rw [← hC] at hc0 ⊢
      have HC := Lib.hid hC
      have hte : (C != 0) = true := by rw [bne_iff_ne]; exact hc0
      have hte2 : (C == 0) = false := by rw [beq_eq_false_iff_ne]; exact hc0
      clear hc0 hC
      go_wp2_with fail
      go_ret
      rw [HR.out]
      exact ⟨by rw [← HC.out]; rfl, OpPost.of H.out HB2.out⟩
  · have HR : Hid (Sg.append st id k ls.flatten = (st, Sg.nameE id)) := by
      unfold Sg.append
      rw [if_pos (by rw [← HE.out]; exact hE0)]
      exact Lib.hid rfl
    have hte : (E != 0) = true := by rw [bne_iff_ne]; exact hE0
    have hte2 : (E == 0) = false := by rw [beq_eq_false_iff_ne]; exact hE0
    clear hE0
    go_wp2_with fail
    go_ret
    rw [HR.out]
    exact ⟨by rw [← HE.out]; rfl, OpPost.of H.out HB1.out⟩
end Go.Proofs.YtcimobbppmpmgaaDoor
