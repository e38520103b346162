/-
  'LexStands', walked.
-/
import Derived.Test.YtonblegbnkfhbaaDoorL7name
import Derived.Test.YtonblegbnkfhbaaDoorLxts
import Derived.Test.YtonblegbnkfhbaaDoorLxw10
import Derived.Test.YtonblegbnkfhbaaDoorCuts
namespace Go.Proofs.YtonblegbnkfhbaaDoor
set_option linter.unusedSimpArgs false
set_option linter.unusedVariables false
open Go Go.RowKit


theorem TokRow.k0 {w : World} {g : Nat} {ts : List Lx.Tok} (h : TokRow w g ts) {i : Nat} {t : Lx.Tok} (hi : ts[i]? = some t) : w.cell? ⟨g, i * 3, none⟩ = some (.int .i64 t.kind) := by rw [Nat.mul_comm]; exact h.kind i t hi
theorem TokRow.k1 {w : World} {g : Nat} {ts : List Lx.Tok} (h : TokRow w g ts) {i : Nat} {t : Lx.Tok} (hi : ts[i]? = some t) : w.cell? ⟨g, i * 3 + 1, none⟩ = some (.string ⟨t.text.toArray⟩) := by rw [Nat.mul_comm]; exact h.text i t hi
theorem TokRow.k2 {w : World} {g : Nat} {ts : List Lx.Tok} (h : TokRow w g ts) {i : Nat} {t : Lx.Tok} (hi : ts[i]? = some t) : w.cell? ⟨g, i * 3 + 2, none⟩ = some (.int .i64 t.at_) := by rw [Nat.mul_comm]; exact h.at_ i t hi

theorem Toks.cap {w : World} {base : Nat} {a : Option Addr} {n c : Nat} {ts : List Lx.Tok} (h : Toks w base (.slice a n c) ts) (hne : 0 < ts.length) : ts.length ≤ c := by
  rcases h.2 with ⟨h2, h3⟩ | ⟨g, cap, cur, hv, _, _, hn, _⟩
  · omega
  · simp only [Value.slice.injEq] at hv
    rw [hv.2.2]
    exact hn

/-- The loop's world. -/
structure SW (w0 : World) (g : Nat) (all : List Lx.Tok) (w : World) : Prop where
  row : TokRow w g all
  bel : Below w0.heap.size w0 w
theorem SW.alloc {w0 w : World} {g : Nat} {all : List Lx.Tok} (h : SW w0 g all w) (o : Obj) : SW w0 g all (w.alloc o) :=
  ⟨h.row.below ((Below.refl _ _).alloc (Nat.le_refl _) _), h.bel.alloc h.bel.size _⟩
theorem SW.drewN {w0 w : World} {g : Nat} {all : List Lx.Tok} (h : SW w0 g all w) (n : Nat) : SW w0 g all (w.drewN n) := ⟨h.row.drewN n, Below.drewN h.bel n⟩
theorem tk_new (w : World) (K : Int) (T : ByteArray) (A : Int) : Tk (w.alloc (.cells #[.int .i64 K, .string T, .int .i64 A] 28)) w.heap.size K T A := by
  show (w.heap.push _)[w.heap.size]? = _
  simp

theorem stands_rel {s : ByteArray} {ts pre suf : List Lx.Tok} {t : Lx.Tok} {last : Nat} (h : ts = pre ++ t :: suf) (ht : TokOk s last t) :
    ts = (pre ++ [t]) ++ suf ∧ (∀ t', ((pre ++ [t]) ++ suf)[(pre ++ [t]).length - 1]? = some t' → 0 < (pre ++ [t]).length → t'.at_ < endOf t) := by
  refine ⟨by rw [h]; simp, fun t' h' _ => ?_⟩
  have : ((pre ++ [t]) ++ suf)[(pre ++ [t]).length - 1]? = some t := by simp
  rw [this] at h'
  obtain rfl := Option.some.inj h'
  unfold endOf
  split
  · omega
  · rename_i hk
    have := ht.pos hk
    omega

set_option maxHeartbeats 1000000 in
set_option maxRecDepth 100000 in
theorem stands_any (s : ByteArray) (w : World) (hs : s.size ≤ 9223372036854775807) (hE : Env w) (h3 : 3 ≤ w.heap.size) :
    Calls Tryd.prog 3 #[.string s] w (fun e w' => e = .returned (.bool true) ∧ Below w.heap.size w w') := by
  go_enter Tryd.func3, Tryd.ntmps3
  have hi0 : (0 : Int) ≤ (s.size : Int) := Int.natCast_nonneg _
  by_cases hbig : 4096 < s.size
  · go_wp2_with fail
    refine (awake_any w hE h3).mono ?_
    rintro e w1 ⟨rfl, hb1, hE1⟩
    go_wp2_with fail
    refine (awake_any w1 hE1 (by have := hb1.size; omega)).mono ?_
    rintro e w2 ⟨rfl, hb2, hE2⟩
    go_wp2_with fail
    refine bodyPost_ret (v := .bool true) (by simp [results, Tryd.results3, go_sem]) rfl ?_
    exact ⟨rfl, hb1.trans (hb2.mono hb1.size)⟩
  · go_wp2_with fail
    refine (awake_any w hE h3).mono ?_
    rintro e w1 ⟨rfl, hb1, hE1⟩
    go_wp2_with fail
    refine (lex_any s w1 hs hE1 (by have := hb1.size; omega)).mono ?_
    rintro e w2 ⟨hb2, hres⟩
    have hbel := hb1.trans (hb2.mono hb1.size)
    rcases hres with ⟨all, v, hl, rfl, ht, hstd⟩ | ⟨a, c, hl, rfl, hc⟩
    · clear hl
      obtain ⟨hn, ts, rfl, hch⟩ := hstd
      obtain ⟨g, cap, rfl, hg, hrow⟩ := ht.openRow (by simp)
      rw [List.length_append, List.length_singleton] at hn ⊢
      have hlast : (ts ++ [(⟨0, [], s.size⟩ : Lx.Tok)])[ts.length]? = some ⟨0, [], s.size⟩ := by simp
      have k0 : w2.cell? ⟨g, ts.length * 3, none⟩ = some (.int .i64 0) := hrow.k0 hlast
      have k1 : w2.cell? ⟨g, ts.length * 3 + 1, none⟩ = some (.string ⟨#[]⟩) := hrow.k1 hlast
      have k2 : w2.cell? ⟨g, ts.length * 3 + 2, none⟩ = some (.int .i64 s.size) := hrow.k2 hlast
      have HCH := Lib.hid hch
      have hcap : ts.length + 1 ≤ cap := by
        have := ht.cap (by simp)
        simpa using this
      have hcap2 : ts.length ≤ cap := by omega
      have hST : SW w g (ts ++ [⟨0, [], s.size⟩]) w2 := ⟨hrow, hbel⟩
      have HST := Lib.hid hST
      clear hlast hch ht hST hrow hbel
      go_wp2_with fail
      clear k0 k1 k2
      go_loopg [6, 49] ts.length (fun k s6 i wr => ∃ (pre suf : List Lx.Tok) (last : Nat), ts = pre ++ suf ∧ k = suf.length ∧ s6 = .int .i64 last ∧ i = .int .i64 pre.length ∧ Chain s last suf s.size ∧
        (∀ t, (pre ++ suf)[pre.length - 1]? = some t → 0 < pre.length → t.at_ < last) ∧ SW w g (ts ++ [⟨0, [], s.size⟩]) wr)
      case atStart => exact ⟨[], ts, 0, rfl, rfl, rfl, rfl, HCH.out, fun t _ h => absurd h (by simp), HST.out⟩
      case round =>
        obtain ⟨pre, suf, last, hts, hk, rfl, rfl, hch, hprev, hS⟩ := hrel
        have HTS := Lib.hid hts
        have HK := Lib.hid hk
        have HCH2 := Lib.hid hch
        have HPR := Lib.hid hprev
        clear hts hk hch hprev HCH
        cases suf with
        | nil =>
          have hpl : pre.length = ts.length := by rw [HTS.out]; simp
          rw [hpl] at *
          go_wp2_with fail
          refine bodyPost_ret (v := .bool true) (by simp [results, Tryd.results3, go_sem]) rfl ?_
          exact ⟨rfl, hS.bel⟩
        | cons t suf =>
          have hpl : ts.length = pre.length + suf.length + 1 := by rw [HTS.out]; simp; omega
          have hget : (ts ++ [(⟨0, [], s.size⟩ : Lx.Tok)])[pre.length]? = some t := by rw [HTS.out]; simp
          have k0 := hS.row.k0 hget
          have k1 := hS.row.k1 hget
          have k2 := hS.row.k2 hget
          have hlt : pre.length < ts.length := by omega
          have hTO := Lib.hid HCH2.out.1
          have hgp : 0 < pre.length → ∃ t', (ts ++ [(⟨0, [], s.size⟩ : Lx.Tok)])[pre.length - 1]? = some t' ∧ t'.at_ < last := fun hp => by
            obtain ⟨t', ht'⟩ : ∃ t', (pre ++ t :: suf)[pre.length - 1]? = some t' := ⟨(pre ++ t :: suf)[pre.length - 1]'(by simp; omega), List.getElem?_eq_getElem _⟩
            refine ⟨t', ?_, HPR.out t' ht' hp⟩
            rw [HTS.out, List.getElem?_append_left (by simp; omega)]
            exact ht'
          have HGP := Lib.hid hgp
          clear hget hpl hgp
          go_wp2_with fail
          have hTk := tk_new wr t.kind ⟨t.text.toArray⟩ t.at_
          have hS2 := hS.alloc (.cells #[.int .i64 t.kind, .string ⟨t.text.toArray⟩, .int .i64 t.at_] 28)
          obtain ⟨wn, hwn⟩ : ∃ wn, wn = wr.alloc (.cells #[.int .i64 t.kind, .string ⟨t.text.toArray⟩, .int .i64 t.at_] 28) := ⟨_, rfl⟩
          rw [← hwn] at hTk hS2 ⊢
          obtain ⟨Tb, hTb⟩ : ∃ Tb : ByteArray, Tb = ⟨t.text.toArray⟩ := ⟨_, rfl⟩
          rw [← hTb] at hTk
          have HTB := Lib.hid hTb
          have HTL := Lib.hid (show Tb.size = t.text.length by rw [hTb]; rfl)
          have e1 : decide ((t.kind : Int) < 1) = false := ltF (by have := hTO.out.k1; omega)
          have e2 : decide ((5 : Int) < t.kind) = false := ltF (by have := hTO.out.k5; omega)
          have e3 : decide (t.at_ < last) = false := by have := hTO.out.lo; simp; omega
          have c0 := hTk.c0; have c1 := hTk.c1; have c2 := hTk.c2
          have hat := hTO.out.hi
          have hi1 : (0 : Int) ≤ (t.at_ : Int) := Int.natCast_nonneg _
          have hi2 : (t.at_ : Int) < s.size := by omega
          have HX : Hid (t.kind ≠ 4 → s.extract t.at_ (t.at_ + Tb.size) = Tb) := fun hk => by
            rw [extract_between, show t.at_ + Tb.size - t.at_ = t.text.length by rw [HTL.out]; omega, ← hTO.out.same hk, HTB.out]
          clear hwn hTb k0 k1 k2 hS
          by_cases hp : 0 < pre.length
          · obtain ⟨t', hg', hat'⟩ := HGP.out hp
            have j2 := hS2.row.k2 hg'
            have e4 : decide (t.at_ ≤ t'.at_) = false := by have := hTO.out.lo; simp; omega
            have e5 : decide (0 < pre.length) = true := by simp; omega
            have q0 : (0 : Int) ≤ (pre.length : Int) - 1 := by omega
            have q1 : (pre.length : Int) - 1 < (ts.length : Int) + 1 := by omega
            clear hg' HGP
            refine wp_region_cuts [] (by kernel_rfl) (by kernel_rfl) ?_; simp only [wpMix, List.take_succ_cons, List.take_zero, List.drop_succ_cons, List.drop_zero, Nat.sub_zero, Nat.reduceSub, Nat.reduceAdd]
            repeat (go_big_quiet_step (fail))
            refine wpQuiet_nil ?_; rintro _ ⟨nq, rfl⟩
            by_cases hk4 : t.kind = 4
            · have e6 := eqT (n := t.kind) (k := 4) (by omega)
              have e7 := neF (n := (bt s t.at_).toNat) (k := 34) (by rw [hTO.out.quote hk4]; rfl)
              have HK4 := Lib.hid hk4
              clear hk4
              go_wp2_with fail
              have hR := stands_rel HTS.out hTO.out
              go_roundg suf.length
              case measure => have := HK.out; rw [List.length_cons] at this; omega
              case rel => exact ⟨pre ++ [t], suf, endOf t, hR.1, rfl, by simp [endOf, HK4.out], by simp, HCH2.out.2, hR.2, by (repeat' (first | exact hS2 | refine SW.drewN ?_ _))⟩
            · have e6 := eqF (n := t.kind) (k := 4) (by omega)
              have hx := HX.out hk4
              have hpos : 0 < Tb.size := by rw [HTL.out]; exact hTO.out.pos hk4
              have hfit : t.at_ + Tb.size ≤ s.size := by rw [HTL.out]; exact hTO.out.fits hk4
              have hne := ne_empty (s := Tb) (by omega)
              have e7 : decide ((s.size : Int) - (t.at_ : Int) < (Tb.size : Int)) = false := ltF (by omega)
              have hi3 : (t.at_ : Int) ≤ (t.at_ : Int) + Tb.size := by omega
              have hi4 : (t.at_ : Int) + Tb.size ≤ s.size := by omega
              have HK4 := Lib.hid hk4
              clear hk4
              go_wp2_with fail
              refine wp_region_cuts [] (by kernel_rfl) (by kernel_rfl) ?_; simp only [wpMix, List.take_succ_cons, List.take_zero, List.drop_succ_cons, List.drop_zero, Nat.sub_zero, Nat.reduceSub, Nat.reduceAdd]
              repeat (go_big_quiet_step (fail))
              refine wpQuiet_nil ?_; rintro _ ⟨nq, rfl⟩
              go_wp2_with fail
              have hR := stands_rel HTS.out hTO.out
              go_roundg suf.length
              case measure => have := HK.out; rw [List.length_cons] at this; omega
              case rel => exact ⟨pre ++ [t], suf, endOf t, hR.1, rfl, by simp [endOf, HK4.out, HTL.out], by simp, HCH2.out.2, hR.2, by (repeat' (first | exact hS2 | refine SW.drewN ?_ _))⟩
          · have e5 : decide (0 < pre.length) = false := decide_eq_false hp
            clear HGP
            refine wp_region_cuts [] (by kernel_rfl) (by kernel_rfl) ?_; simp only [wpMix, List.take_succ_cons, List.take_zero, List.drop_succ_cons, List.drop_zero, Nat.sub_zero, Nat.reduceSub, Nat.reduceAdd]
            repeat (go_big_quiet_step (fail))
            refine wpQuiet_nil ?_; rintro _ ⟨nq, rfl⟩
            by_cases hk4 : t.kind = 4
            · have e6 := eqT (n := t.kind) (k := 4) (by omega)
              have e7 := neF (n := (bt s t.at_).toNat) (k := 34) (by rw [hTO.out.quote hk4]; rfl)
              have HK4 := Lib.hid hk4
              clear hk4
              go_wp2_with fail
              have hR := stands_rel HTS.out hTO.out
              go_roundg suf.length
              case measure => have := HK.out; rw [List.length_cons] at this; omega
              case rel => exact ⟨pre ++ [t], suf, endOf t, hR.1, rfl, by simp [endOf, HK4.out], by simp, HCH2.out.2, hR.2, by (repeat' (first | exact hS2 | refine SW.drewN ?_ _))⟩
            · have e6 := eqF (n := t.kind) (k := 4) (by omega)
              have hx := HX.out hk4
              have hpos : 0 < Tb.size := by rw [HTL.out]; exact hTO.out.pos hk4
              have hfit : t.at_ + Tb.size ≤ s.size := by rw [HTL.out]; exact hTO.out.fits hk4
              have hne := ne_empty (s := Tb) (by omega)
              have e7 : decide ((s.size : Int) - (t.at_ : Int) < (Tb.size : Int)) = false := ltF (by omega)
              have hi3 : (t.at_ : Int) ≤ (t.at_ : Int) + Tb.size := by omega
              have hi4 : (t.at_ : Int) + Tb.size ≤ s.size := by omega
              have HK4 := Lib.hid hk4
              clear hk4
              go_wp2_with fail
              refine wp_region_cuts [] (by kernel_rfl) (by kernel_rfl) ?_; simp only [wpMix, List.take_succ_cons, List.take_zero, List.drop_succ_cons, List.drop_zero, Nat.sub_zero, Nat.reduceSub, Nat.reduceAdd]
              repeat (go_big_quiet_step (fail))
              refine wpQuiet_nil ?_; rintro _ ⟨nq, rfl⟩
              go_wp2_with fail
              have hR := stands_rel HTS.out hTO.out
              go_roundg suf.length
              case measure => have := HK.out; rw [List.length_cons] at this; omega
              case rel => exact ⟨pre ++ [t], suf, endOf t, hR.1, rfl, by simp [endOf, HK4.out, HTL.out], by simp, HCH2.out.2, hR.2, by (repeat' (first | exact hS2 | refine SW.drewN ?_ _))⟩
    · have hc2 : (c : Int) ≠ 0 := by omega
      clear hl
      go_wp2_with fail
      refine bodyPost_ret (v := .bool true) (by simp [results, Tryd.results3, go_sem]) rfl ?_
      exact ⟨rfl, hbel⟩
end Go.Proofs.YtonblegbnkfhbaaDoor
