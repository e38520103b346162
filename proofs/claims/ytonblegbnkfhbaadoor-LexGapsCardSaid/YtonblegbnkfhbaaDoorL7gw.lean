/-
  'LexGaps', walked.
-/
import Derived.Test.YtonblegbnkfhbaaDoorL7gp
import Derived.Test.YtonblegbnkfhbaaDoorL7lq
import Derived.Test.YtonblegbnkfhbaaDoorL7name
import Derived.Test.YtonblegbnkfhbaaDoorL7stands
namespace Go.Proofs.YtonblegbnkfhbaaDoor
set_option linter.unusedSimpArgs false
set_option linter.unusedVariables false
open Go Go.RowKit

/-- A slice of bytes that came in. -/
def Bytes (w : World) (v : Value) (zs : List Int) : Prop :=
  ∃ a cap, v = .slice a zs.length cap ∧ ∀ (i : Nat) z, zs[i]? = some z → ∃ b off, a = some ⟨b, off, none⟩ ∧ b < w.heap.size ∧ w.cell? ⟨b, off + i, none⟩ = some (.int .u8 z)
theorem Bytes.below {w w' : World} {v : Value} {zs : List Int} (h : Bytes w v zs) (hb : Below w.heap.size w w') : Bytes w' v zs := by
  obtain ⟨a, cap, h1, h2⟩ := h
  refine ⟨a, cap, h1, fun i s hi => ?_⟩
  obtain ⟨b, off, e, h3, h4⟩ := h2 i s hi
  exact ⟨b, off, e, Nat.lt_of_lt_of_le h3 hb.size, by rw [hb.cell h3]; exact h4⟩
theorem Bytes.form {w : World} {v : Value} {zs : List Int} (h : Bytes w v zs) : ∃ a cap, v = .slice a zs.length cap := by
  obtain ⟨a, cap, h1, h2⟩ := h
  exact ⟨a, cap, h1⟩
theorem Bytes.at {w : World} {a : Option Addr} {n cap : Nat} {zs : List Int} (h : Bytes w (.slice a n cap) zs) {i : Nat} {z : Int} (hi : zs[i]? = some z) :
    ∃ b off, a = some ⟨b, off, none⟩ ∧ w.cell? ⟨b, off + i, none⟩ = some (.int .u8 z) := by
  obtain ⟨a', cap', h1, h2⟩ := h
  obtain ⟨b, off, e, h3, h4⟩ := h2 i z hi
  simp only [Value.slice.injEq] at h1
  exact ⟨b, off, by rw [h1.1, e], h4⟩
/-- The gap ahead of a token. -/
def gapF (zs : List Int) (i : Nat) : Nat := if 0 < zs.length then (zs.getD (i % zs.length) 0).toNat % 5 else 0

theorem gapF_lt (zs : List Int) (i : Nat) : gapF zs i < 5 := by unfold gapF; split <;> omega
/-- A round's world. -/
structure GW (w : World) (g : Nat) (ts : List Lx.Tok) (bb : Nat) (va : Option Addr) (vc : Nat) (zs : List Int) (wr : World) : Prop where
  row : TokRow wr g ts
  btw : ∀ k, k < 5 → wr.cell? ⟨bb, k, none⟩ = some (.string ⟨(Lx.btw k).toArray⟩)
  bytes : Bytes wr (.slice va zs.length vc) zs
  bel : Below w.heap.size w wr
  env : Env wr
  three : 3 ≤ w.heap.size
theorem GW.below {w : World} {g : Nat} {ts : List Lx.Tok} {bb : Nat} {va : Option Addr} {vc : Nat} {zs : List Int} {wr w' : World} (h : GW w g ts bb va vc zs wr) (hb : Below wr.heap.size wr w') : GW w g ts bb va vc zs w' := by
  have hl : bb < wr.heap.size := cell_lt (h.btw 0 (by omega))
  exact ⟨h.row.below hb, fun k hk => by rw [hb.cell (by exact hl)]; exact h.btw k hk, h.bytes.below hb, h.bel.trans (hb.mono h.bel.size), h.env.below hb, h.three⟩
theorem GW.alloc {w : World} {g : Nat} {ts : List Lx.Tok} {bb : Nat} {va : Option Addr} {vc : Nat} {zs : List Int} {wr : World} (h : GW w g ts bb va vc zs wr) (o : Obj) : GW w g ts bb va vc zs (wr.alloc o) :=
  h.below ((Below.refl _ _).alloc (Nat.le_refl _) _)
theorem GW.drewN {w : World} {g : Nat} {ts : List Lx.Tok} {bb : Nat} {va : Option Addr} {vc : Nat} {zs : List Int} {wr : World} (h : GW w g ts bb va vc zs wr) (n : Nat) : GW w g ts bb va vc zs (wr.drewN n) :=
  ⟨h.row.drewN n, h.btw, h.bytes, Below.drewN h.bel n, h.env.drewN n, h.three⟩
theorem GW.start {w w2 : World} {g : Nat} {ts : List Lx.Tok} {va : Option Addr} {vc : Nat} {zs : List Int} {T : TypeId} (h1 : TokRow w2 g ts) (h2 : Bytes w2 (.slice va zs.length vc) zs) (h3 : Below w.heap.size w w2) (h4 : Env w2) (h5 : 3 ≤ w.heap.size) :
    GW w g ts w2.heap.size va vc zs (w2.alloc (.cells #[.string ⟨#[32]⟩, .string ⟨#[44]⟩, .string ⟨#[10]⟩, .string ⟨#[35, 44, 34, 123, 10]⟩, .string ⟨#[9, 13]⟩] T)) := by
  have hb : Below w2.heap.size w2 (w2.alloc (.cells #[.string ⟨#[32]⟩, .string ⟨#[44]⟩, .string ⟨#[10]⟩, .string ⟨#[35, 44, 34, 123, 10]⟩, .string ⟨#[9, 13]⟩] T)) := (Below.refl _ _).alloc (Nat.le_refl _) _
  refine ⟨h1.below hb, fun k hk => ?_, h2.below hb, h3.trans (hb.mono h3.size), h4.below hb, h5⟩
  have hk : k = 0 ∨ k = 1 ∨ k = 2 ∨ k = 3 ∨ k = 4 := by omega
  have hh : (w2.alloc (.cells #[.string ⟨#[32]⟩, .string ⟨#[44]⟩, .string ⟨#[10]⟩, .string ⟨#[35, 44, 34, 123, 10]⟩, .string ⟨#[9, 13]⟩] T)).heap[w2.heap.size]? = some (.cells #[.string ⟨#[32]⟩, .string ⟨#[44]⟩, .string ⟨#[10]⟩, .string ⟨#[35, 44, 34, 123, 10]⟩, .string ⟨#[9, 13]⟩] T (0, 0)) := by
    show (w2.heap.push _)[w2.heap.size]? = _
    simp
  rcases hk with rfl | rfl | rfl | rfl | rfl <;> (rw [Lib.cell_of_heap hh]; rfl)
theorem getElem_mid (pre : List Lx.Tok) (x : Lx.Tok) (i : Nat) (h : i < pre.length) : (pre ++ [x])[i]? = some pre[i] := by
  rw [List.getElem?_append_left h, List.getElem?_eq_getElem h]
theorem take_get (pre : List Lx.Tok) (i : Nat) (h : i < pre.length) : pre.take (i + 1) = pre.take i ++ [pre[i]] := by
  rw [List.take_add_one, List.getElem?_eq_getElem h]; rfl

set_option maxHeartbeats 2000000 in
set_option maxRecDepth 100000 in
theorem gaps_any (s : ByteArray) (v : Value) (zs : List Int) (w : World) (hs : s.size ≤ 9223372036854775807) (hV : Bytes w v zs) (hz : ∀ z ∈ zs, 0 ≤ z ∧ z ≤ 255) (hzl : zs.length ≤ 9223372036854775807)
    (hE : Env w) (h3 : 3 ≤ w.heap.size) :
    Calls Tryd.prog 8 #[.string s, v] w (fun e w' => e = .returned (.bool true) ∧ Below w.heap.size w w') := by
  obtain ⟨va, vc, rfl⟩ := hV.form
  go_enter Tryd.func8, Tryd.ntmps8
  have hi0 : (0 : Int) ≤ (s.size : Int) := Int.natCast_nonneg _
  by_cases hbig : 500 < s.size
  · go_wp2_with fail
    refine (awake_any w hE h3).mono ?_
    rintro e w1 ⟨rfl, hb1, hE1⟩
    go_wp2_with fail
    refine (awake_any w1 hE1 (by have := hb1.size; omega)).mono ?_
    rintro e w2 ⟨rfl, hb2, hE2⟩
    go_wp2_with fail
    refine bodyPost_ret (v := .bool true) (by simp [results, Tryd.results8, go_sem]) rfl ?_
    exact ⟨rfl, hb1.trans (hb2.mono hb1.size)⟩
  · go_wp2_with fail
    refine (awake_any w hE h3).mono ?_
    rintro e w1 ⟨rfl, hb1, hE1⟩
    go_wp2_with fail
    refine (lex_any s w1 hs hE1 (by have := hb1.size; omega)).mono ?_
    rintro e w2 ⟨hb2, hres⟩
    have hbel := hb1.trans (hb2.mono hb1.size)
    have hE2 := hE1.below hb2
    have hV2 := (hV.below hb1).below hb2
    clear hV
    rcases hres with ⟨ts, v, hl, rfl, ht, -⟩ | ⟨a, c, hl, rfl, hc⟩
    · by_cases h400 : 400 < ts.length
      · obtain ⟨oa, oc, rfl⟩ := ht.form
        have h401 : (400 : Int) < (ts.length : Int) := by omega
        clear hl ht
        go_wp2_with fail
        refine bodyPost_ret (v := .bool true) (by simp [results, Tryd.results8, go_sem]) rfl ?_
        exact ⟨rfl, hbel⟩
      · obtain ⟨pre, hts, hG, hlex⟩ := Lx.gaps_lex s.data.toList ts hl (by omega)
        have h401 : (ts.length : Int) ≤ 400 := by omega
        have htl : ts.length = pre.length + 1 := by rw [hts]; simp
        obtain ⟨g, cap, rfl, hg, hrow⟩ := ht.openRow (by omega)
        have hcap := ht.cap (by omega)
        rw [htl] at hcap h401 ⊢
        have hq1 : (1 : Int) ≤ (pre.length : Int) + 1 := by omega
        have hq2 : (pre.length : Int) ≤ (cap : Int) := by omega
        have hS0 := Lib.hid (fun T => GW.start (T := T) hrow hV2 hbel hE2 h3)
        have HTS := Lib.hid hts
        have HG := Lib.hid hG
        have HLX := Lib.hid hlex
        have HTL := Lib.hid htl
        have hpl : pre.length ≤ 399 := by omega
        clear hl ht hts hG hlex htl hrow hV2
        go_wp2_with fail
        go_loopg [9, 46] pre.length (fun k s9 s46 wr => ∃ (i : Nat) (b : ByteArray), i ≤ pre.length ∧ k = pre.length - i ∧ s46 = .int .i64 (i : Nat) ∧ s9 = .string b ∧ b.data.toList = Lx.gapText (gapF zs) 0 (pre.take i) ∧ GW w g ts w2.heap.size va vc zs wr)
        case atStart => exact ⟨0, ⟨#[]⟩, Nat.zero_le _, rfl, rfl, rfl, rfl, hS0.out _⟩
        case round =>
          obtain ⟨i, b, hi, hk, rfl, rfl, hb, hS⟩ := hrel
          have HB := Lib.hid hb
          have HK := Lib.hid hk
          have hbs : b.size ≤ 2400000000000 := by
            rw [size_list, hb]
            have := Lx.gapText_le (gapF zs) (pre.take i) 0 (fun t ht => (HG.out t (List.mem_of_mem_take ht)).2)
            have h2 : (pre.take i).length ≤ 399 := by rw [List.length_take]; omega
            have h4 := Nat.mul_le_mul_right 6000000012 h2
            exact Nat.le_trans this (Nat.le_trans h4 (by decide))
          clear hb hk hS0
          have hin0 : (0 : Int) ≤ (i : Int) := Int.natCast_nonneg _
          by_cases hin : i < pre.length
          · have hin1 : (i : Int) < (pre.length : Int) := by omega
            have hget : ts[i]? = some pre[i] := by rw [HTS.out]; exact getElem_mid pre _ i hin
            have HTK := Lib.hid (take_get pre i hin)
            obtain ⟨hGd, hTl⟩ := HG.out pre[i] (List.getElem_mem hin)
            have k0 := hS.row.k0 hget
            have k1 := hS.row.k1 hget
            have k2 := hS.row.k2 hget
            generalize pre[i] = t at *
            have hS1 := hS.alloc (.cells #[.int .i64 t.kind, .string ⟨t.text.toArray⟩, .int .i64 t.at_] 28)
            have hcnt : ∀ K K1, (K1 = (K + 1) % 5) → K = gapF zs i → Lx.gapText (gapF zs) 0 (pre.take (i + 1)) = Lx.gapText (gapF zs) 0 (pre.take i) ++ (Lx.btw K ++ Lx.word t.kind t.text ++ Lx.btw K1) := fun K K1 h1 h2 => by
              rw [HTK.out, Lx.gapText_snoc, h1, h2, List.length_take, Nat.min_eq_left hi, Nat.zero_add]
              rfl
            have HCNT := Lib.hid hcnt
            clear hcnt
            by_cases hz0 : 0 < zs.length
            · have hz1 : (0 : Int) < (zs.length : Int) := by omega
              have hz2 : i % zs.length < zs.length := Nat.mod_lt _ hz0
              obtain ⟨z, hzz⟩ : ∃ z, zs[i % zs.length]? = some z := ⟨_, List.getElem?_eq_getElem hz2⟩
              obtain ⟨gb, go, rfl, hcell⟩ := hS1.bytes.at hzz
              obtain ⟨z0, z255⟩ := hz z (List.mem_of_getElem? hzz)
              have HF : Hid (gapF zs i = z.toNat % 5) := by
                unfold gapF
                rw [if_pos hz0, List.getD_eq_getElem?_getD, hzz]
                exact Lib.hid rfl
              obtain ⟨K, hK, hK2⟩ : ∃ K : Nat, z % 5 = (K : Int) ∧ K = gapF zs i := ⟨z.toNat % 5, by omega, HF.out.symm⟩
              clear hzz HF
              have hK5 : K < 5 := by rw [hK2]; exact gapF_lt zs i
              obtain ⟨K1, hK1, hK15, hK11⟩ : ∃ K1 : Nat, ((K : Int) + 1) % 5 = (K1 : Int) ∧ K1 < 5 ∧ K1 = (K + 1) % 5 := ⟨(K + 1) % 5, by omega, by omega, rfl⟩
              have hl5 := Lx.btw_len K
              have hl6 := Lx.btw_len K1
              have HKF := Lib.hid hK2
              have HK1 := Lib.hid hK11
              clear hK2 hK11
              by_cases hk4 : t.kind = 4
              · have e4 := eqT (n := t.kind) (k := 4) (by omega)
                have HV := Lib.hid (hGd.val hk4)
                have HWD : Hid (Lx.word t.kind t.text = Lx.quote t.text) := by unfold Lx.word; rw [if_pos hk4]; exact Lib.hid rfl
                have HQL := Lx.word_len t.kind t.text
                rw [HWD.out] at HQL
                clear hk4 hGd
                go_wp2_with fail
                refine (lexQuote_any ⟨t.text.toArray⟩ _ hTl hS1.env).mono ?_
                rintro e w4 ⟨hb4, hres⟩
                rcases hres with ⟨-, rfl⟩ | ⟨hv, rfl⟩
                · have hS2 := hS1.below hb4
                  have b1 := hS2.btw K hK5
                  have b2 := hS2.btw K1 hK15
                  clear k0 k1 k2
                  go_wp2_with fail
                  refine wp_region_cuts [] (by kernel_rfl) (by kernel_rfl) ?_; simp only [wpMix, List.take_succ_cons, List.take_zero, List.drop_succ_cons, List.drop_zero, Nat.sub_zero, Nat.reduceSub, Nat.reduceAdd]
                  repeat (go_big_quiet_step (fail))
                  refine wpQuiet_nil ?_; rintro _ ⟨nq, rfl⟩
                  go_wp2_with fail
                  go_roundg (pre.length - (i + 1))
                  case measure => rw [HK.out]; omega
                  case rel => exact ⟨i + 1, _, hin, rfl, by simp, rfl, by rw [app_list, app_list, app_list, HB.out, HCNT.out K K1 HK1.out HKF.out, HWD.out], hS2.drewN _⟩
                · rw [show (⟨t.text.toArray⟩ : ByteArray).data.toList = t.text from rfl, HV.out] at hv
                  cases hv
              · have e4 := eqF (n := t.kind) (k := 4) (by omega)
                have HWD : Hid (Lx.word t.kind t.text = t.text) := by unfold Lx.word; rw [if_neg hk4]; exact Lib.hid rfl
                have hS2 := hS1
                have b1 := hS2.btw K hK5
                have b2 := hS2.btw K1 hK15
                clear hk4 hGd
                go_wp2_with fail
                refine wp_region_cuts [] (by kernel_rfl) (by kernel_rfl) ?_; simp only [wpMix, List.take_succ_cons, List.take_zero, List.drop_succ_cons, List.drop_zero, Nat.sub_zero, Nat.reduceSub, Nat.reduceAdd]
                repeat (go_big_quiet_step (fail))
                refine wpQuiet_nil ?_; rintro _ ⟨nq, rfl⟩
                go_wp2_with fail
                go_roundg (pre.length - (i + 1))
                case measure => rw [HK.out]; omega
                case rel => exact ⟨i + 1, _, hin, rfl, by simp, rfl, by rw [app_list, app_list, app_list, HB.out, HCNT.out K K1 HK1.out HKF.out, HWD.out], hS2.drewN _⟩
            · have hz1 : (zs.length : Int) ≤ 0 := by omega
              have hK5 : 0 < 5 := by decide
              have hK15 : 1 < 5 := by decide
              have hl5 := Lx.btw_len 0
              have hl6 := Lx.btw_len 1
              have HKF : Hid (0 = gapF zs i) := by unfold gapF; rw [if_neg hz0]; exact Lib.hid rfl
              by_cases hk4 : t.kind = 4
              · have e4 := eqT (n := t.kind) (k := 4) (by omega)
                have HV := Lib.hid (hGd.val hk4)
                have HWD : Hid (Lx.word t.kind t.text = Lx.quote t.text) := by unfold Lx.word; rw [if_pos hk4]; exact Lib.hid rfl
                have HQL := Lx.word_len t.kind t.text
                rw [HWD.out] at HQL
                clear hk4 hGd
                go_wp2_with fail
                refine (lexQuote_any ⟨t.text.toArray⟩ _ hTl hS1.env).mono ?_
                rintro e w4 ⟨hb4, hres⟩
                rcases hres with ⟨-, rfl⟩ | ⟨hv, rfl⟩
                · have hS2 := hS1.below hb4
                  have b1 := hS2.btw 0 hK5
                  have b2 := hS2.btw 1 hK15
                  clear k0 k1 k2
                  go_wp2_with fail
                  refine wp_region_cuts [] (by kernel_rfl) (by kernel_rfl) ?_; simp only [wpMix, List.take_succ_cons, List.take_zero, List.drop_succ_cons, List.drop_zero, Nat.sub_zero, Nat.reduceSub, Nat.reduceAdd]
                  repeat (go_big_quiet_step (fail))
                  refine wpQuiet_nil ?_; rintro _ ⟨nq, rfl⟩
                  go_wp2_with fail
                  go_roundg (pre.length - (i + 1))
                  case measure => rw [HK.out]; omega
                  case rel => exact ⟨i + 1, _, hin, rfl, by simp, rfl, by rw [app_list, app_list, app_list, HB.out, HCNT.out 0 1 rfl HKF.out, HWD.out], hS2.drewN _⟩
                · rw [show (⟨t.text.toArray⟩ : ByteArray).data.toList = t.text from rfl, HV.out] at hv
                  cases hv
              · have e4 := eqF (n := t.kind) (k := 4) (by omega)
                have HWD : Hid (Lx.word t.kind t.text = t.text) := by unfold Lx.word; rw [if_neg hk4]; exact Lib.hid rfl
                have hS2 := hS1
                have b1 := hS2.btw 0 hK5
                have b2 := hS2.btw 1 hK15
                clear hk4 hGd
                go_wp2_with fail
                refine wp_region_cuts [] (by kernel_rfl) (by kernel_rfl) ?_; simp only [wpMix, List.take_succ_cons, List.take_zero, List.drop_succ_cons, List.drop_zero, Nat.sub_zero, Nat.reduceSub, Nat.reduceAdd]
                repeat (go_big_quiet_step (fail))
                refine wpQuiet_nil ?_; rintro _ ⟨nq, rfl⟩
                go_wp2_with fail
                go_roundg (pre.length - (i + 1))
                case measure => rw [HK.out]; omega
                case rel => exact ⟨i + 1, _, hin, rfl, by simp, rfl, by rw [app_list, app_list, app_list, HB.out, HCNT.out 0 1 rfl HKF.out, HWD.out], hS2.drewN _⟩
          · have hin1 : (pre.length : Int) ≤ (i : Int) := by omega
            have hb2 : b.data.toList = Lx.gapText (gapF zs) 0 pre := by rw [HB.out, List.take_of_length_le (by omega)]
            have hlx := HLX.out (gapF zs)
            rw [← hb2] at hlx
            have HLX2 := Lib.hid hlx
            clear hlx hb2 HB
            go_wp2_with fail
            refine (lex_any b wr (by omega) hS.env (by have := hS.bel.size; omega)).mono ?_
            rintro e w5 ⟨hb5, hres5⟩
            have hS5 := hS.below hb5
            have hbs2 : b.data.toList.length = b.size := rfl
            by_cases h4096 : 4096 < b.size
            · have h4097 : (4096 : Int) < (b.size : Int) := by omega
              have hlong : Lx.lex b.data.toList = .err 0 5 := by unfold Lx.lex; rw [if_pos (by omega)]
              rcases hres5 with ⟨ms, v5, hl5, rfl, ht5, -⟩ | ⟨a5, c5, hl5, rfl, hc5⟩
              · rw [hlong] at hl5; cases hl5
              · rw [hlong] at hl5
                simp only [Lx.Res.err.injEq] at hl5
                obtain ⟨rfl, rfl⟩ := hl5
                clear hlong
                go_wp2_with fail
                refine bodyPost_ret (v := .bool true) (by simp [results, Tryd.results8, go_sem]) rfl ?_
                exact ⟨rfl, hS5.bel⟩
            · have h4097 : (b.size : Int) ≤ 4096 := by omega
              obtain ⟨ms, hms, hkt⟩ := HLX2.out (by omega)
              rcases hres5 with ⟨ms5, v5, hl5, rfl, ht5, -⟩ | ⟨a5, c5, hl5, rfl, hc5⟩
              · rw [hms] at hl5
                obtain rfl : ms = ms5 := Lx.Res.ok.inj hl5
                have hml : ms.length = pre.length + 1 := by
                  have := congrArg List.length hkt
                  rw [List.length_map, List.length_map, HTL.out] at this
                  exact this
                obtain ⟨g5, cap5, rfl, hg5, hrow5⟩ := ht5.openRow (by omega)
                have hcap5 := ht5.cap (by omega)
                rw [hml] at hcap5 ⊢
                have HKT := Lib.hid hkt
                have HML := Lib.hid hml
                have hSm : GW w g5 ms w2.heap.size va vc zs w5 := ⟨hrow5, hS5.btw, hS5.bytes, hS5.bel, hS5.env, hS5.three⟩
                have HS5 := Lib.hid (show GW w g ts w2.heap.size va vc zs w5 ∧ GW w g5 ms w2.heap.size va vc zs w5 from ⟨hS5, hSm⟩)
                clear hms hl5 ht5 hkt hml hrow5 hS5 hSm hS
                go_wp2_with fail
                go_loopg [110] (pre.length + 1) (fun k s110 wq => ∃ j : Nat, j ≤ pre.length + 1 ∧ k = pre.length + 1 - j ∧ s110 = .int .i64 (j : Nat) ∧ GW w g ts w2.heap.size va vc zs wq ∧ GW w g5 ms w2.heap.size va vc zs wq)
                case atStart => exact ⟨0, Nat.zero_le _, rfl, rfl, HS5.out.1, HS5.out.2⟩
                case round =>
                  obtain ⟨j, hj, hk, rfl, hSt, hSm⟩ := hrel
                  have HK2 := Lib.hid hk
                  clear hk HS5
                  have hj0 : (0 : Int) ≤ (j : Int) := Int.natCast_nonneg _
                  by_cases hjn : j < pre.length + 1
                  · have hjn1 : (j : Int) < (pre.length : Int) + 1 := by omega
                    have hjt : j < ts.length := by rw [HTL.out]; exact hjn
                    have hjm : j < ms.length := by rw [HML.out]; exact hjn
                    have hgt : ts[j]? = some ts[j] := List.getElem?_eq_getElem hjt
                    have hgm : ms[j]? = some ms[j] := List.getElem?_eq_getElem hjm
                    have heq : Lx.kt ms[j] = Lx.kt ts[j] := by
                      have := congrArg (fun l => l[j]?) HKT.out
                      simp only [List.getElem?_map, hgt, hgm, Option.map_some, Option.some.injEq] at this
                      exact this
                    simp only [Lx.kt, Prod.mk.injEq] at heq
                    have k0 := hSt.row.k0 hgt
                    have k1 := hSt.row.k1 hgt
                    have m0 := hSm.row.k0 hgm
                    have m1 := hSm.row.k1 hgm
                    rw [heq.1] at m0
                    rw [heq.2] at m1
                    generalize ts[j] = t at *
                    clear hgt hgm heq
                    go_wp2_with fail
                    refine wp_region_cuts [] (by kernel_rfl) (by kernel_rfl) ?_; simp only [wpMix, List.take_succ_cons, List.take_zero, List.drop_succ_cons, List.drop_zero, Nat.sub_zero, Nat.reduceSub, Nat.reduceAdd]
                    repeat (go_big_quiet_step (fail))
                    refine wpQuiet_nil ?_; rintro _ ⟨nq, rfl⟩
                    go_wp2_with fail
                    go_roundg (pre.length + 1 - (j + 1))
                    case measure => rw [HK2.out]; omega
                    case rel => exact ⟨j + 1, hjn, rfl, by simp, hSt.drewN _, hSm.drewN _⟩
                  · have hjn1 : (pre.length : Int) + 1 ≤ (j : Int) := by omega
                    go_wp2_with fail
                    refine bodyPost_ret (v := .bool true) (by simp [results, Tryd.results8, go_sem]) rfl ?_
                    exact ⟨rfl, hSt.bel⟩
              · rw [hms] at hl5
                cases hl5
    · clear hl
      rcases hc with rfl | rfl | rfl
      all_goals
        go_wp2_with fail
        refine bodyPost_ret (v := .bool true) (by simp [results, Tryd.results8, go_sem]) rfl ?_
        exact ⟨rfl, hbel⟩
end Go.Proofs.YtonblegbnkfhbaaDoor
