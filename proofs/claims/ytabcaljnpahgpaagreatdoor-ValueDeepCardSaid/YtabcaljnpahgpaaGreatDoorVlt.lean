/-
  'ParseType', walked.
-/
import Derived.Test.YtabcaljnpahgpaaGreatDoorVlp
namespace Go.Proofs.YtabcaljnpahgpaaGreatDoor
set_option linter.unusedSimpArgs false
set_option linter.unusedVariables false
open Go Go.RowKit

set_option maxHeartbeats 2000000 in
set_option maxRecDepth 100000 in
theorem vtype_any (s : ByteArray) (w : World) (hs : s.size ≤ 9223372036854775807) (hE : Env w) (h3 : 3 ≤ w.heap.size) :
    Calls Tryz.prog 32 #[.string s] w (VtPost s.data.toList w) := by
  have HE := Lib.hid hE
  clear hE
  go_enter Tryz.func32, Tryz.ntmps32
  go_wp2_with fail
  refine (rnew_any s w hs HE.out h3).mono ?_
  rintro r w1 ⟨hb1, hstd, g, cap, ts, a, e, rfl, hg, hrow, hok, hpos, hbg⟩
  obtain ⟨w2, hw2⟩ : ∃ z, z = w1.alloc (.cells #[.slice (some ⟨g, 0, none⟩) ts.length cap, .int .i64 0, .int .i64 0, .int .i64 a, .int .i64 e] 76) := ⟨_, rfl⟩
  obtain ⟨s0, hs0⟩ : ∃ z, z = Rd.begin_ s.data.toList := ⟨_, rfl⟩
  have hb2 : Below w1.heap.size w1 w2 := by rw [hw2]; exact (Below.refl _ _).alloc (Nat.le_refl _) _
  have hR : RdAt w2 w1.heap.size g s0 := by
    rw [hs0]
    have hgl := hrow.lt
    exact NewPost.rdAt (T := 76) (by rw [hw2]; exact heap_at_new _ _) (hrow.heap hb2.size (hb2.block g hgl)) (by omega) hok hpos hbg
  have HBW := Lib.hid (hb1.trans (hb2.mono hb1.size))
  have hm := hR.rest_len
  obtain ⟨n, hn⟩ : ∃ z, z = s0.rest.length := ⟨_, rfl⟩
  have HPG : Hid (Vl.parseType s.data.toList = (Rd.fin (Rd.type (n + 1) s0).1, (Rd.type (n + 1) s0).2)) := by rw [hn, hs0]; exact Lib.hid rfl
  have hd0 : s0.deep = 0 := by rw [hs0, hbg]
  have hnb : n ≤ 1501 := by omega
  have hsz1 := hb1.size
  have HCV := Lib.hid (rtype_any w1.heap.size g n s0 w2 hR (.inr (by omega)) (by omega) ⟨by omega, by omega⟩)
  have HX := Lib.hid hw2
  rw [hw2] at HCV
  clear hstd hs0 hn hbg hb2 hR hrow hok hb1 hm hg hw2
  go_wp2_with fail
  refine HCV.out.mono ?_
  rw [← HX.out]
  rintro r w3 ⟨rfl, hr3, hf3⟩
  obtain ⟨tx, htx⟩ : ∃ z, z = (Rd.type (n + 1) s0).2 := ⟨_, rfl⟩
  obtain ⟨s3, hs3⟩ : ∃ z, z = (Rd.type (n + 1) s0).1 := ⟨_, rfl⟩
  rw [← htx] at HPG
  rw [← hs3] at hr3 HPG
  try rw [← htx]
  have HF3 := Lib.hid hf3
  have HR3 := Lib.hid hr3
  clear hf3 hr3 htx hs3 HCV
  go_wp2_with fail
  refine (rend_any w1.heap.size g s3 w3 HR3.out).mono ?_
  rintro r w5 ⟨rfl, hr5, hf5⟩
  obtain ⟨s5, hs5⟩ : ∃ z, z = Rd.fin s3 := ⟨_, rfl⟩
  rw [← hs5] at hr5 HPG
  have c4' := hr5.c4
  have c3' := hr5.c3
  have HB5 : Hid (Below w.heap.size w w5) := Lib.hid (below_frv (b := w1.heap.size) HBW.out (Nat.le_refl _) (HF3.out.trans hf5) hsz1)
  clear hr5 hf5 hs5
  by_cases he : s5.err = 0
  · have e5 := neF (n := s5.err) (k := 0) (by omega)
    have HERR := Lib.hid he
    clear he
    go_wp2_with fail
    refine bodyPost_ret (v := .tuple #[.string ⟨tx.toArray⟩, .int .i64 0, .int .i64 0]) (by simp [results, Tryz.results32, go_sem]) rfl ?_
    refine ⟨HB5.out, .inl ?_⟩
    rw [HPG.out]
    exact ⟨HERR.out, rfl⟩
  · have e5 := neT (n := s5.err) (k := 0) (by omega)
    have HERR := Lib.hid he
    clear he
    go_wp2_with fail
    refine wp_region_cuts [] (by kernel_rfl) (by kernel_rfl) ?_; simp only [wpMix, List.take_succ_cons, List.take_zero, List.drop_succ_cons, List.drop_zero, Nat.sub_zero, Nat.reduceSub, Nat.reduceAdd]
    repeat (go_big_quiet_step (fail))
    refine wpQuiet_nil ?_
    rintro _ ⟨nq, rfl⟩
    go_wp2_with fail
    refine bodyPost_ret (v := .tuple #[.string ⟨#[]⟩, .int .i64 s5.at_, .int .i64 s5.err]) (by simp [results, Tryz.results32, go_sem]) rfl ?_
    refine ⟨Below.drewN HB5.out _, .inr ?_⟩
    rw [HPG.out]
    exact ⟨HERR.out, rfl⟩
end Go.Proofs.YtabcaljnpahgpaaGreatDoor
