/-
  'LexQuotes', walked.
-/
import Derived.Test.YtonblegbnkfhbaaDoorL7lq
import Derived.Test.YtonblegbnkfhbaaDoorL7name
namespace Go.Proofs.YtonblegbnkfhbaaDoor
set_option linter.unusedSimpArgs false
set_option linter.unusedVariables false
open Go Go.RowKit


set_option maxHeartbeats 1000000 in
set_option maxRecDepth 100000 in
theorem quotes_any (s : ByteArray) (w : World) (hs : s.size ≤ 9223372036854775807) (hE : Env w) (h3 : 3 ≤ w.heap.size) :
    Calls Tryd.prog 7 #[.string s] w (fun e w' => e = .returned (.bool true) ∧ Below w.heap.size w w') := by
  go_enter Tryd.func7, Tryd.ntmps7
  have hi0 : (0 : Int) ≤ (s.size : Int) := Int.natCast_nonneg _
  by_cases hbig : 600 < s.size
  · go_wp2_with fail
    refine (awake_any w hE h3).mono ?_
    rintro e w1 ⟨rfl, hb1, hE1⟩
    go_wp2_with fail
    refine (awake_any w1 hE1 (by have := hb1.size; omega)).mono ?_
    rintro e w2 ⟨rfl, hb2, hE2⟩
    go_wp2_with fail
    refine bodyPost_ret (v := .bool true) (by simp [results, Tryd.results7, go_sem]) rfl ?_
    exact ⟨rfl, hb1.trans (hb2.mono hb1.size)⟩
  · go_wp2_with fail
    refine (awake_any w hE h3).mono ?_
    rintro e w1 ⟨rfl, hb1, hE1⟩
    go_wp2_with fail
    refine (lexQuote_any s w1 (by omega) hE1).mono ?_
    rintro e w2 ⟨hb2, hres⟩
    have hbel := hb1.trans (hb2.mono hb1.size)
    have hE2 := hE1.below hb2
    rcases hres with ⟨hv, rfl⟩ | ⟨hv, rfl⟩
    · have HQL := Lib.hid (quote_lex s.data.toList hv (by show s.size ≤ 600; omega))
      have HV := Lib.hid hv
      clear hv
      go_wp2_with fail
      refine (refQuote_any s w2 (by omega)).mono ?_
      rintro e w3 ⟨⟨nd, hw3⟩, hres⟩
      obtain rfl := hw3.symm
      rcases hres with ⟨-, rfl⟩ | ⟨hv, rfl⟩
      · have hT : ((⟨#[32]⟩ ++ ⟨(Lx.quote s.data.toList).toArray⟩ : ByteArray) ++ ⟨#[35]⟩).data.toList = 32 :: (Lx.quote s.data.toList ++ [35]) := by rw [app_list, app_list]; rfl
        have hqs := quote_len s.data.toList
        have hsl : s.data.toList.length = s.size := rfl
        have hsz : ((⟨#[32]⟩ ++ ⟨(Lx.quote s.data.toList).toArray⟩ : ByteArray) ++ ⟨#[35]⟩).size ≤ 5000 := by
          rw [size_list, hT, List.length_cons, List.length_append, List.length_singleton]
          omega
        have HT := Lib.hid hT
        have HSZ := Lib.hid hsz
        have hq0 : (Lx.quote s.data.toList).length ≤ 4000 := by omega
        clear hT hqs hsl hsz
        go_wp2_with fail
        refine (lex_any _ _ (by have := HSZ.out; omega) (hE2.drewN _) (by have := hbel.size; show 3 ≤ w2.heap.size; omega)).mono ?_
        rintro e w3 ⟨hb3, hres⟩
        rw [HT.out] at hres
        have hbel3 := hbel.trans ((Below.undrew hb3).mono hbel.size)
        rcases hres with ⟨ts, v, hl, rfl, ht, -⟩ | ⟨a, c, hl, rfl, -⟩
        · rw [HQL.out] at hl
          obtain rfl := (Lx.Res.ok.inj hl).symm
          obtain ⟨g, cap, rfl, hg, hrow⟩ := ht.openRow (by simp)
          have k0 := hrow.kind 0 _ rfl
          have k1 : w3.cell? ⟨g, 3 * 0 + 1, none⟩ = some (.string s) := hrow.text 0 _ rfl
          have k2 := hrow.at_ 0 _ rfl
          simp only [List.length_cons, List.length_nil] at k0 k1 k2 ⊢
          clear hl ht
          go_wp2_with fail
          refine bodyPost_ret (v := .bool true) (by simp [results, Tryd.results7, go_sem]) rfl ?_
          exact ⟨rfl, hbel3⟩
        · rw [HQL.out] at hl
          cases hl
      · rw [HV.out] at hv; cases hv
    · have HV := Lib.hid hv
      clear hv
      go_wp2_with fail
      refine (refQuote_any s w2 (by omega)).mono ?_
      rintro e w3 ⟨⟨nd, hw3⟩, hres⟩
      obtain rfl := hw3.symm
      rcases hres with ⟨hv, rfl⟩ | ⟨-, rfl⟩
      · rw [HV.out] at hv; cases hv
      · go_wp2_with fail
        refine bodyPost_ret (v := .bool true) (by simp [results, Tryd.results7, go_sem]) rfl ?_
        exact ⟨rfl, Below.drewN hbel _⟩
end Go.Proofs.YtonblegbnkfhbaaDoor
