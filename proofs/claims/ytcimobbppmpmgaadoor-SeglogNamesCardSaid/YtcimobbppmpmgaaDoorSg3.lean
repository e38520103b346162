/-
  Segments: the program's ID, walked; it is the document's.
-/
import Derived.Test.YtcimobbppmpmgaaDoorSg2
namespace Go.Proofs.YtcimobbppmpmgaaDoor
set_option linter.unusedSimpArgs false
set_option linter.unusedVariables false
open Go Go.RowKit
open Go.Maps Go.WideMaps

theorem segStr : (⟨#[115, 101, 103, 45]⟩ : ByteArray).data.toList = Sg.seg := rfl
set_option maxHeartbeats 1000000 in
set_option maxRecDepth 100000 in
theorem id_any (s : ByteArray) (w : World) (B : Nat) (hE : SgEnv B w) (hB : B ≤ w.heap.size) (hs : s.size ≤ 1000000) :
    Calls Tryd.prog 9 #[.string s] w fun e w' => e = .returned (.tuple #[.int .i64 (Sg.idOf s.data.toList), .bool (decide (0 < Sg.idOf s.data.toList))]) ∧ Below w.heap.size w w' := by
  have HIO : Hid (Sg.idOf s.data.toList = match Lib.atoiAll (Lib.trimPrefix s.data.toList Sg.seg) with
    | .ok v => if Lib.hasPrefix s.data.toList Sg.seg = true ∧ Sg.nameE v = 0 ∧ Sg.nameB v = s.data.toList then v else 0
    | _ => 0) := Lib.hid rfl
  go_enter Tryd.func9, Tryd.ntmps9
  go_wp2_with fail
  refine (Tryd.strings_CutPrefix s ⟨#[115, 101, 103, 45]⟩ w).mono ?_
  rintro e w1 ⟨rfl, hw1⟩
  subst hw1
  rw [segStr]
  obtain ⟨d, hd⟩ : ∃ d : ByteArray, d = ⟨(Lib.trimPrefix s.data.toList Sg.seg).toArray⟩ := ⟨_, rfl⟩
  obtain ⟨ok, hok⟩ : ∃ ok, ok = Lib.hasPrefix s.data.toList Sg.seg := ⟨_, rfl⟩
  have hdl : d.data.toList = Lib.trimPrefix s.data.toList Sg.seg := by rw [hd]
  have hds : d.size ≤ 1000000 := by
    have h1 : (Lib.trimPrefix s.data.toList Sg.seg).length ≤ s.size := by
      unfold Lib.trimPrefix
      split <;> simp
    rw [← hdl] at h1
    have h2 : d.data.toList.length = d.size := by simp
    omega
  rw [← hd, ← hok]
  have HD := Lib.hid hdl
  have HOK := Lib.hid hok
  clear hd hok hdl
  go_wp2_with fail
  cases hat : Lib.atoiAll d.data.toList with
  | ok v =>
    have HAT := Lib.hid hat
    refine (Tryd.strconv_Atoi_ok d (by omega) v hat w1).mono ?_
    rintro e w2 ⟨rfl, hw2⟩
    have hb2 : Below w1.heap.size w1 w2 := by
      rcases hw2 with rfl | ⟨t, rfl⟩
      · exact Below.refl _ _
      · exact Joins.below_bytesWorld w1.heap.size w1 5 t (Nat.le_refl _)
    have HB2 := Lib.hid hb2
    have hE2 := hE.below (hb2.mono hB)
    clear hw2 hb2 hat
    cases ok with
    | false =>
      have HZ : Hid (Sg.idOf s.data.toList = 0) := by
        rw [HIO.out, ← HD.out, HAT.out]
        show Hid ((if _ then _ else _) = _)
        rw [← HOK.out, if_neg (by simp)]
        exact Lib.hid rfl
      go_wp2_with fail
      refine bodyPost_ret (v := .tuple #[.int .i64 0, .bool false]) (by simp [results, Tryd.results9, go_sem]) rfl ?_
      exact ⟨by rw [HZ.out]; rfl, HB2.out⟩
    | true =>
      go_wp2_with fail
      refine (name_any v w2 B hE2).mono ?_
      rintro e w3 ⟨rfl, hb3⟩
      have HB3 := Lib.hid (HB2.out.trans (hb3.mono HB2.out.size))
      obtain ⟨E, hEE⟩ : ∃ E, E = Sg.nameE v := ⟨_, rfl⟩
      obtain ⟨sn, hsn⟩ : ∃ t : ByteArray, t = ⟨(Sg.nameB v).toArray⟩ := ⟨_, rfl⟩
      rw [← hsn, ← hEE]
      have HSN := Lib.hid hsn
      have HEE := Lib.hid hEE
      clear hsn hEE hb3
      by_cases hE0 : E = 0
      · subst hE0
        by_cases heq : sn = s
        · have hv1 : 0 < v := by
            have := HEE.out
            unfold Sg.nameE at this
            split at this <;> omega
          have HZ : Hid (Sg.idOf s.data.toList = v) := by
            rw [HIO.out, ← HD.out, HAT.out]
            show Hid ((if _ then _ else _) = _)
            rw [← HOK.out, if_pos ⟨rfl, HEE.out.symm, by rw [← heq, HSN.out]⟩]
            exact Lib.hid rfl
          have hte : (sn.toList == s.toList) = true := by rw [heq]; simp
          clear heq
          go_wp2_with fail
          refine bodyPost_ret (v := .tuple #[.int .i64 v, .bool true]) (by simp [results, Tryd.results9, go_sem]) rfl ?_
          exact ⟨by rw [HZ.out]; simp [hv1], HB3.out⟩
        · have HZ : Hid (Sg.idOf s.data.toList = 0) := by
            rw [HIO.out, ← HD.out, HAT.out]
            show Hid ((if _ then _ else _) = _)
            rw [if_neg (fun h => heq (by rw [HSN.out, h.2.2]))]
            exact Lib.hid rfl
          have hte : (sn.toList == s.toList) = false := by
            rw [beq_eq_false_iff_ne, ByteArray.toList_eq, ByteArray.toList_eq]
            exact fun h => heq (ByteArray.ext (Array.toList_inj.1 h))
          clear heq
          go_wp2_with fail
          refine bodyPost_ret (v := .tuple #[.int .i64 0, .bool false]) (by simp [results, Tryd.results9, go_sem]) rfl ?_
          exact ⟨by rw [HZ.out]; rfl, HB3.out⟩
      · have HZ : Hid (Sg.idOf s.data.toList = 0) := by
          rw [HIO.out, ← HD.out, HAT.out]
          show Hid ((if _ then _ else _) = _)
          rw [if_neg (fun h => hE0 (by rw [HEE.out, h.2.1]))]
          exact Lib.hid rfl
        have hte : (E != 0) = true := by rw [bne_iff_ne]; exact hE0
        have hte2 : (E == 0) = false := by rw [beq_eq_false_iff_ne]; exact hE0
        clear hE0
        go_wp2_with fail
        refine bodyPost_ret (v := .tuple #[.int .i64 0, .bool false]) (by simp [results, Tryd.results9, go_sem]) rfl ?_
        exact ⟨by rw [HZ.out]; rfl, HB3.out⟩
  | range =>
    obtain ⟨tp, p, hv⟩ := hE.rng
    have HZ : Hid (Sg.idOf s.data.toList = 0) := by rw [HIO.out, ← HD.out, hat]; exact Lib.hid rfl
    refine (Tryd.strconv_Atoi_range_var d (by omega) hat tp p w1 hv).mono ?_
    rintro e w2 ⟨N, rfl, hN, _, hb2⟩
    have HB2 := Lib.hid hb2
    clear hb2 hat hv
    cases ok
    · go_wp2_with fail
      refine bodyPost_ret (v := .tuple #[.int .i64 0, .bool false]) (by simp [results, Tryd.results9, go_sem]) rfl ?_
      exact ⟨by rw [HZ.out]; rfl, HB2.out⟩
    · go_wp2_with fail
      refine bodyPost_ret (v := .tuple #[.int .i64 0, .bool false]) (by simp [results, Tryd.results9, go_sem]) rfl ?_
      exact ⟨by rw [HZ.out]; rfl, HB2.out⟩
  | _ =>
    obtain ⟨tp, p, hv⟩ := hE.syn
    have HZ : Hid (Sg.idOf s.data.toList = 0) := by rw [HIO.out, ← HD.out, hat]; exact Lib.hid rfl
    refine (Tryd.strconv_Atoi_syntax_var d (by omega) hat tp p w1 hv).mono ?_
    rintro e w2 ⟨N, rfl, hN, _, hb2⟩
    have HB2 := Lib.hid hb2
    clear hb2 hat hv
    cases ok
    · go_wp2_with fail
      refine bodyPost_ret (v := .tuple #[.int .i64 0, .bool false]) (by simp [results, Tryd.results9, go_sem]) rfl ?_
      exact ⟨by rw [HZ.out]; rfl, HB2.out⟩
    · go_wp2_with fail
      refine bodyPost_ret (v := .tuple #[.int .i64 0, .bool false]) (by simp [results, Tryd.results9, go_sem]) rfl ?_
      exact ⟨by rw [HZ.out]; rfl, HB2.out⟩
end Go.Proofs.YtcimobbppmpmgaaDoor
