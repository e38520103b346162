/-
  'LexNames', walked.
-/
import Derived.Test.YtonblegbnkfhbaaDoorL7name
namespace Go.Proofs.YtonblegbnkfhbaaDoor
set_option linter.unusedSimpArgs false
set_option linter.unusedVariables false
open Go Go.RowKit


set_option maxHeartbeats 1000000 in
set_option maxRecDepth 100000 in
theorem names_any (s : ByteArray) (w : World) (hs : s.size ≤ 9223372036854775807) (hE : Env w) (h3 : 3 ≤ w.heap.size) :
    Calls Tryd.prog 6 #[.string s] w (fun e w' => e = .returned (.bool true) ∧ Below w.heap.size w w') := by
  go_enter Tryd.func6, Tryd.ntmps6
  have hi0 : (0 : Int) ≤ (s.size : Int) := Int.natCast_nonneg _
  by_cases hbig : 1000 < s.size
  · go_wp2_with fail
    refine (awake_any w hE h3).mono ?_
    rintro e w1 ⟨rfl, hb1, hE1⟩
    go_wp2_with fail
    refine (awake_any w1 hE1 (by have := hb1.size; omega)).mono ?_
    rintro e w2 ⟨rfl, hb2, hE2⟩
    go_wp2_with fail
    refine bodyPost_ret (v := .bool true) (by simp [results, Tryd.results6, go_sem]) rfl ?_
    exact ⟨rfl, hb1.trans (hb2.mono hb1.size)⟩
  · go_wp2_with fail
    refine (awake_any w hE h3).mono ?_
    rintro e w1 ⟨rfl, hb1, hE1⟩
    go_wp2_with fail
    refine (lex_any s w1 hs hE1 (by have := hb1.size; omega)).mono ?_
    rintro e w2 ⟨hb2, hres⟩
    have hbel := hb1.trans (hb2.mono hb1.size)
    cases hB : Lx.isName s.data.toList
    · have HB := Lib.hid hB
      clear hB
      rcases hres with ⟨ts, v, hl, rfl, ht, -⟩ | ⟨a, c, hl, rfl, -⟩
      · clear hl ht
        go_wp2_with (first | (go_at_call 12; refine (lexName_any _ _ hs).mono ?_; rintro e w' ⟨rfl, hw'⟩; obtain rfl := hw'.symm; rw [HB.out]) | (go_at_call 13; refine (refName_any _ _ hs).mono ?_; rintro e w' ⟨rfl, hw'⟩; obtain rfl := hw'.symm; rw [HB.out]) | fail)
        refine bodyPost_ret (v := .bool true) (by simp [results, Tryd.results6, go_sem]) rfl ?_
        exact ⟨rfl, hbel⟩
      · clear hl
        go_wp2_with (first | (go_at_call 12; refine (lexName_any _ _ hs).mono ?_; rintro e w' ⟨rfl, hw'⟩; obtain rfl := hw'.symm; rw [HB.out]) | (go_at_call 13; refine (refName_any _ _ hs).mono ?_; rintro e w' ⟨rfl, hw'⟩; obtain rfl := hw'.symm; rw [HB.out]) | fail)
        refine bodyPost_ret (v := .bool true) (by simp [results, Tryd.results6, go_sem]) rfl ?_
        exact ⟨rfl, hbel⟩
    · have HB := Lib.hid hB
      have hln := lex_name s.data.toList hB (by show s.size ≤ 4096; omega)
      rcases hres with ⟨ts, v, hl, rfl, ht, -⟩ | ⟨a, c, hl, rfl, -⟩
      · rw [hln] at hl
        obtain rfl := (Lx.Res.ok.inj hl).symm
        obtain ⟨g, cap, rfl, hg, hrow⟩ := ht.openRow (by simp)
        have k0 := hrow.kind 0 _ rfl
        have k1 : w2.cell? ⟨g, 3 * 0 + 1, none⟩ = some (.string s) := hrow.text 0 _ rfl
        simp only [List.length_cons, List.length_nil] at k0 k1 ⊢
        clear hB hl hln ht
        go_wp2_with (first | (go_at_call 12; refine (lexName_any _ _ hs).mono ?_; rintro e w' ⟨rfl, hw'⟩; obtain rfl := hw'.symm; rw [HB.out]) | (go_at_call 13; refine (refName_any _ _ hs).mono ?_; rintro e w' ⟨rfl, hw'⟩; obtain rfl := hw'.symm; rw [HB.out]) | fail)
        refine bodyPost_ret (v := .bool true) (by simp [results, Tryd.results6, go_sem]) rfl ?_
        exact ⟨rfl, hbel⟩
      · rw [hln] at hl
        cases hl
end Go.Proofs.YtonblegbnkfhbaaDoor
