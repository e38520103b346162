/-
  The document's 'Same' of values (places aside), walked.
-/
import Derived.Test.YtabcaljnpahgpaaGreatDoorVsm
namespace Go.Proofs.YtabcaljnpahgpaaGreatDoor
set_option linter.unusedSimpArgs false
set_option linter.unusedVariables false
open Go Go.RowKit

/-- The document's 'Same', of values no greater than N. -/
def RefC (N : Nat) : Prop := ∀ (x y : Vl.Z), x.n ≤ N → ∀ (a1 a2 b1 b2 : Option Addr) (c1 c2 d1 d2 : Nat) (w : World) (P : Nat → Prop),
  Reads w P x.d [.int .i64 x.kind, .string ⟨x.text.toArray⟩, .slice a1 x.items.length c1, .slice a2 x.fields.length c2, .int .i64 x.at_] →
  Reads w P y.d [.int .i64 y.kind, .string ⟨y.text.toArray⟩, .slice b1 y.items.length d1, .slice b2 y.fields.length d2, .int .i64 y.at_] →
  Calls Tryz.prog 31 #[.agg #[.int .i64 x.kind, .string ⟨x.text.toArray⟩, .slice a1 x.items.length c1, .slice a2 x.fields.length c2, .int .i64 x.at_], .agg #[.int .i64 y.kind, .string ⟨y.text.toArray⟩, .slice b1 y.items.length d1, .slice b2 y.fields.length d2, .int .i64 y.at_], .bool false] w
    (fun r w' => r = .returned (.bool (x.same y)) ∧ Below w.heap.size w w')
set_option maxHeartbeats 2000000 in
set_option maxRecDepth 100000 in
theorem refArgs_any (N : Nat) (IH : RefC N) (xs ys : List Vl.ZA) (hx : ∀ x ∈ xs, x.n ≤ N) (a b : Option Addr) (c d : Nat) (w : World) (P : Nat → Prop) (hlx : xs.length ≤ 9223372036854775807)
    (hrx : Reads w P (.seq 7 (xs.map Vl.ZA.d)) [.slice a xs.length c]) (hry : Reads w P (.seq 7 (ys.map Vl.ZA.d)) [.slice b ys.length d]) :
    Calls Tryz.prog 62 #[.slice a xs.length c, .slice b ys.length d, .bool false] w (fun r w' => r = .returned (.bool (Vl.ZA.sames xs ys)) ∧ Below w.heap.size w w') := by
  have HX := Lib.hid hx
  have HRX := Lib.hid hrx
  have HRY := Lib.hid hry
  have HIH := Lib.hid IH
  clear hx hrx hry IH
  by_cases hlen : xs.length = ys.length
  rotate_left
  · have e0 : ((xs.length : Int) != (ys.length : Int)) = true := neT (by omega)
    have HS : Hid (Vl.ZA.sames xs ys = false) := Lib.hid (Vl.ZA.sames_len hlen)
    go_enter Tryz.func62, Tryz.ntmps62
    go_wp2_with fail
    go_ret
    exact ⟨by rw [HS.out]; rfl, Below.refl _ _⟩
  have e0 : ((xs.length : Int) != (ys.length : Int)) = false := neF (by omega)
  obtain ⟨S, hS⟩ : ∃ S, S = Vl.ZA.sames xs ys := ⟨_, rfl⟩
  have HS := Lib.hid hS
  rw [← hS]
  clear hS
  have HLEN := Lib.hid hlen
  clear hlen
  go_enter Tryz.func62, Tryz.ntmps62
  go_wp2_with fail
  go_loopg [15] (xs.length + 1) (fun k i wr => ∃ (j : Nat), k = xs.length + 1 - j ∧ j ≤ xs.length ∧ i = .int .i64 j ∧ S = Vl.ZA.sames (xs.drop j) (ys.drop j) ∧ Below w.heap.size w wr)
  case atStart => exact ⟨0, rfl, Nat.zero_le _, rfl, HS.out, Below.refl _ _⟩
  case round =>
    obtain ⟨j, hk, hj, rfl, hs, hbe⟩ := hrel
    have HK := Lib.hid hk
    have HS2 := Lib.hid hs
    have HBE := Lib.hid hbe
    clear hk hs hbe
    by_cases hjl : j < xs.length
    · have e1 : decide (j < xs.length) = true := decide_eq_true hjl
      have hjy : j < ys.length := by have := HLEN.out; omega
      have e2 : decide (j < ys.length) = true := decide_eq_true hjy
      obtain ⟨x, hx⟩ : ∃ z, xs[j]? = some z := ⟨xs[j], List.getElem?_eq_getElem hjl⟩
      obtain ⟨y, hy⟩ : ∃ z, ys[j]? = some z := ⟨ys[j], List.getElem?_eq_getElem hjy⟩
      have hdx : xs.drop j = x :: xs.drop (j + 1) := by rw [List.drop_eq_getElem_cons hjl]; rw [List.getElem?_eq_getElem hjl] at hx; rw [Option.some.inj hx]
      have hdy : ys.drop j = y :: ys.drop (j + 1) := by rw [List.drop_eq_getElem_cons hjy]; rw [List.getElem?_eq_getElem hjy] at hy; rw [Option.some.inj hy]
      have HS3 : Hid (S = (x.same y && Vl.ZA.sames (xs.drop (j + 1)) (ys.drop (j + 1)))) := by have := HS2.out; rw [hdx, hdy, Vl.ZA.sames_cons] at this; exact Lib.hid this
      have HEQ := Lib.hid (Vl.ZA.same_eq x y)
      have HNX := Lib.hid (HX.out x (List.mem_of_getElem? hx))
      obtain ⟨g, o, cs, ha, -, hgl, hlen, hcell, hd⟩ := HRX.out.el j x.d (by rw [List.getElem?_map, hx]; rfl)
      obtain ⟨g', o', cs', hb, -, hgl', hlen', hcell', hd'⟩ := HRY.out.el j y.d (by rw [List.getElem?_map, hy]; rfl)
      obtain ⟨a1, a2, u1, u2, rfl, hdv⟩ := ZA_open hd
      obtain ⟨b1, b2, v1, v2, rfl, hdv'⟩ := ZA_open hd'
      have k0 : ∀ q : Later wr, q.1.cell? ⟨g, o + j * 7, none⟩ = _ := Later.cell ((HBE.out.cell (p := ⟨g, o + j * 7, none⟩) hgl).trans (hcell 0 _ rfl))
      have k1 : ∀ q : Later wr, q.1.cell? ⟨g, o + j * 7 + 1, none⟩ = _ := Later.cell ((HBE.out.cell (p := ⟨g, o + j * 7 + 1, none⟩) hgl).trans (hcell 1 _ rfl))
      have k2 : ∀ q : Later wr, q.1.cell? ⟨g, o + j * 7 + 2, none⟩ = _ := Later.cell ((HBE.out.cell (p := ⟨g, o + j * 7 + 2, none⟩) hgl).trans (hcell 2 _ rfl))
      have k3 : ∀ q : Later wr, q.1.cell? ⟨g, o + j * 7 + 3, none⟩ = _ := Later.cell ((HBE.out.cell (p := ⟨g, o + j * 7 + 3, none⟩) hgl).trans (hcell 3 _ rfl))
      have k4 : ∀ q : Later wr, q.1.cell? ⟨g, o + j * 7 + 4, none⟩ = _ := Later.cell ((HBE.out.cell (p := ⟨g, o + j * 7 + 4, none⟩) hgl).trans (hcell 4 _ rfl))
      have k5 : ∀ q : Later wr, q.1.cell? ⟨g, o + j * 7 + 5, none⟩ = _ := Later.cell ((HBE.out.cell (p := ⟨g, o + j * 7 + 5, none⟩) hgl).trans (hcell 5 _ rfl))
      have k6 : ∀ q : Later wr, q.1.cell? ⟨g, o + j * 7 + 6, none⟩ = _ := Later.cell ((HBE.out.cell (p := ⟨g, o + j * 7 + 6, none⟩) hgl).trans (hcell 6 _ rfl))
      have m0 : ∀ q : Later wr, q.1.cell? ⟨g', o' + j * 7, none⟩ = _ := Later.cell ((HBE.out.cell (p := ⟨g', o' + j * 7, none⟩) hgl').trans (hcell' 0 _ rfl))
      have m1 : ∀ q : Later wr, q.1.cell? ⟨g', o' + j * 7 + 1, none⟩ = _ := Later.cell ((HBE.out.cell (p := ⟨g', o' + j * 7 + 1, none⟩) hgl').trans (hcell' 1 _ rfl))
      have m2 : ∀ q : Later wr, q.1.cell? ⟨g', o' + j * 7 + 2, none⟩ = _ := Later.cell ((HBE.out.cell (p := ⟨g', o' + j * 7 + 2, none⟩) hgl').trans (hcell' 2 _ rfl))
      have m3 : ∀ q : Later wr, q.1.cell? ⟨g', o' + j * 7 + 3, none⟩ = _ := Later.cell ((HBE.out.cell (p := ⟨g', o' + j * 7 + 3, none⟩) hgl').trans (hcell' 3 _ rfl))
      have m4 : ∀ q : Later wr, q.1.cell? ⟨g', o' + j * 7 + 4, none⟩ = _ := Later.cell ((HBE.out.cell (p := ⟨g', o' + j * 7 + 4, none⟩) hgl').trans (hcell' 4 _ rfl))
      have m5 : ∀ q : Later wr, q.1.cell? ⟨g', o' + j * 7 + 5, none⟩ = _ := Later.cell ((HBE.out.cell (p := ⟨g', o' + j * 7 + 5, none⟩) hgl').trans (hcell' 5 _ rfl))
      have m6 : ∀ q : Later wr, q.1.cell? ⟨g', o' + j * 7 + 6, none⟩ = _ := Later.cell ((HBE.out.cell (p := ⟨g', o' + j * 7 + 6, none⟩) hgl').trans (hcell' 6 _ rfl))
      subst ha
      subst hb
      have HCALL : ∀ q : Later wr, Calls Tryz.prog 31 #[.agg #[.int .i64 x.v.kind, .string ⟨x.v.text.toArray⟩, .slice a1 x.v.items.length u1, .slice a2 x.v.fields.length u2, .int .i64 x.v.at_], .agg #[.int .i64 y.v.kind, .string ⟨y.v.text.toArray⟩, .slice b1 y.v.items.length v1, .slice b2 y.v.fields.length v2, .int .i64 y.v.at_], .bool false] q.1 (fun r w' => r = .returned (.bool (x.v.same y.v)) ∧ Below q.1.heap.size q.1 w') := fun q => HIH.out x.v y.v (by have := HNX.out; have := Vl.ZA.n_eq x; omega) a1 a2 b1 b2 u1 u2 v1 v2 q.1 P (hdv.to (Stands.below (HBE.out.trans (q.2.mono HBE.out.size)))) (hdv'.to (Stands.below (HBE.out.trans (q.2.mono HBE.out.size))))
      obtain ⟨qv, hqv⟩ : ∃ q, q = x.v.same y.v := ⟨_, rfl⟩
      rw [← hqv] at HCALL HEQ
      have HQV := Lib.hid hqv
      have HCALLH := Lib.hid HCALL
      clear hx hy hdx hdy hlen hlen' hcell hcell' hd hd' hdv hdv' HS2 hqv HCALL
      by_cases hn : x.name = y.name
      rotate_left
      · have en : (x.name == y.name) = false := by rw [beq_eq_false_iff_ne]; exact hn
        have HF : Hid (S = false) := by rw [HS3.out, HEQ.out, decide_eq_false hn]; exact Lib.hid rfl
        clear hn
        go_wp2_with fail
        refine wp_region_later (by kernel_rfl) (by kernel_rfl) ?_
        repeat (go_big_quiet_step (exact Later.call (HCALLH.out _)))
        refine wpQuiet_nil ?_
        rintro w6 ⟨q6, rfl⟩
        go_wp2_with fail
        go_ret
        exact ⟨by rw [HF.out]; rfl, HBE.out.trans (q6.2.mono HBE.out.size)⟩
      have en : (x.name == y.name) = true := by rw [beq_iff_eq]; exact hn
      have HF : Hid (S = (qv && Vl.ZA.sames (xs.drop (j + 1)) (ys.drop (j + 1)))) := by rw [HS3.out, HEQ.out, decide_eq_true hn, Bool.true_and]; exact Lib.hid rfl
      clear hn
      go_wp2_with fail
      refine wp_region_later (by kernel_rfl) (by kernel_rfl) ?_
      repeat (go_big_quiet_step (exact Later.call (HCALLH.out _)))
      refine wpQuiet_nil ?_
      rintro w6 ⟨q6, rfl⟩
      cases qv
      · go_wp2_with fail
        go_ret
        exact ⟨by rw [HF.out]; rfl, HBE.out.trans (q6.2.mono HBE.out.size)⟩
      · go_wp2_with fail
        go_roundg (xs.length + 1 - (j + 1))
        case measure => rw [HK.out]; omega
        case rel => exact ⟨j + 1, rfl, hjl, by go_num, by rw [HF.out]; rfl, HBE.out.trans (q6.2.mono HBE.out.size)⟩
    · have e1 : decide (j < xs.length) = false := decide_eq_false hjl
      have HS3 : Hid (S = true) := by
        have := HS2.out
        rw [List.drop_eq_nil_of_le (by omega), List.drop_eq_nil_of_le (by have := HLEN.out; omega), Vl.ZA.sames_nil] at this
        exact Lib.hid this
      go_wp2_with fail
      go_ret
      exact ⟨by rw [HS3.out]; rfl, HBE.out⟩
set_option maxHeartbeats 2000000 in
set_option maxRecDepth 100000 in
theorem ref_step (N : Nat) (hNb : N ≤ 9000000000000000000) (IH : RefC N) : RefC (N + 1) := by
  intro x y hN a1 a2 b1 b2 c1 c2 d1 d2 w P hx hy
  by_cases hk : x.kind = y.kind
  rotate_left
  · have e1 : (x.kind != y.kind) = true := by simp [hk]
    have HS : Hid (x.same y = false) := by rw [Vl.Z.same_eq, decide_eq_false hk]; exact Lib.hid rfl
    have HB : Hid (Below w.heap.size w ((w.alloc (.cells #[.int .i64 x.kind, .string ⟨x.text.toArray⟩, .slice a1 x.items.length c1, .slice a2 x.fields.length c2, .int .i64 x.at_] 55)).alloc (.cells #[.int .i64 y.kind, .string ⟨y.text.toArray⟩, .slice b1 y.items.length d1, .slice b2 y.fields.length d2, .int .i64 y.at_] 55))) := Lib.hid (((Below.refl _ _).alloc (Nat.le_refl _) _).alloc (by simp) _)
    clear hk hx hy
    go_enter Tryz.func31, Tryz.ntmps31
    go_wp2_with fail
    go_ret
    exact ⟨by rw [HS.out]; rfl, HB.out⟩
  rw [← hk] at hy ⊢
  have HKK := Lib.hid hk
  obtain ⟨x1, x2, x3, x4, ex, hxi, hxf⟩ := Z_open hx
  obtain ⟨y1, y2, y3, y4, ey, hyi, hyf⟩ := Z_open hy
  obtain ⟨rfl, rfl, rfl, rfl⟩ : a1 = x1 ∧ c1 = x3 ∧ a2 = x2 ∧ c2 = x4 := by simpa [and_assoc] using ex
  obtain ⟨rfl, rfl, rfl, rfl⟩ : b1 = y1 ∧ d1 = y3 ∧ b2 = y2 ∧ d2 = y4 := by simpa [and_assoc, hk] using ey
  have hn := Vl.Z.n_eq x
  have hl1 := Vl.Z.ns_len x.items
  have hl2 := Vl.ZA.ns_len x.fields
  obtain ⟨wc, hwc⟩ : ∃ z, z = ((w.alloc (.cells #[.int .i64 x.kind, .string ⟨x.text.toArray⟩, .slice a1 x.items.length c1, .slice a2 x.fields.length c2, .int .i64 x.at_] 55)).alloc (.cells #[.int .i64 x.kind, .string ⟨y.text.toArray⟩, .slice b1 y.items.length d1, .slice b2 y.fields.length d2, .int .i64 y.at_] 55)) := ⟨_, rfl⟩
  have hbc : Below w.heap.size w wc := by rw [hwc]; exact ((Below.refl _ _).alloc (Nat.le_refl _) _).alloc (by simp) _
  have HBC := Lib.hid hbc
  have HWC := Lib.hid hwc
  have HXF := Lib.hid (hxf.to (Stands.below hbc))
  have HYF := Lib.hid (hyf.to (Stands.below hbc))
  have HXI := Lib.hid (hxi.to (Stands.below hbc))
  have HYI := Lib.hid (hyi.to (Stands.below hbc))
  have HEQ := Lib.hid (Vl.Z.same_eq x y)
  have HNF : Hid (∀ z ∈ x.fields, z.n ≤ N) := Lib.hid (fun z hz => by have := Vl.ZA.ns_mem hz; omega)
  have HNI : Hid (∀ z ∈ x.items, z.n ≤ N) := Lib.hid (fun z hz => by have := Vl.Z.ns_mem hz; omega)
  have HIH := Lib.hid IH
  have hfb : x.fields.length ≤ 9223372036854775807 := by omega
  have hib : x.items.length ≤ 9223372036854775807 := by omega
  have hx0 : (wc.heap[w.heap.size]? = some (.cells #[.int .i64 x.kind, .string ⟨x.text.toArray⟩, .slice a1 x.items.length c1, .slice a2 x.fields.length c2, .int .i64 x.at_] 55 (0, 0))) := by
    rw [hwc, Lib.alloc_old _ _ _ (by simp)]; exact heap_at_new _ _
  have hy0 : (wc.heap[w.heap.size + 1]? = some (.cells #[.int .i64 x.kind, .string ⟨y.text.toArray⟩, .slice b1 y.items.length d1, .slice b2 y.fields.length d2, .int .i64 y.at_] 55 (0, 0))) := by
    rw [hwc]
    have := heap_at_new (w.alloc (.cells #[.int .i64 x.kind, .string ⟨x.text.toArray⟩, .slice a1 x.items.length c1, .slice a2 x.fields.length c2, .int .i64 x.at_] 55)) (.cells #[.int .i64 x.kind, .string ⟨y.text.toArray⟩, .slice b1 y.items.length d1, .slice b2 y.fields.length d2, .int .i64 y.at_] 55)
    rw [show (w.alloc (.cells #[.int .i64 x.kind, .string ⟨x.text.toArray⟩, .slice a1 x.items.length c1, .slice a2 x.fields.length c2, .int .i64 x.at_] 55)).heap.size = w.heap.size + 1 by simp] at this
    exact this
  have HX0 := Lib.hid hx0
  have HY0 := Lib.hid hy0
  clear hxi hyi hxf hyf hx hy ex ey hbc hwc IH hx0 hy0 hn hk
  obtain ⟨S, hS⟩ : ∃ S, S = x.same y := ⟨_, rfl⟩
  rw [← hS] at HEQ ⊢
  clear hS
  have HE2 : Hid (S = (decide (x.text = y.text) && (Vl.Z.sames x.items y.items && Vl.ZA.sames x.fields y.fields))) := by rw [HEQ.out, decide_eq_true HKK.out]; exact Lib.hid rfl
  clear HEQ
  by_cases ht : x.text = y.text
  rotate_left
  · have e3 : (x.text == y.text) = false := by rw [beq_eq_false_iff_ne]; exact ht
    have HS : Hid (S = false) := by rw [HE2.out, decide_eq_false ht]; exact Lib.hid rfl
    clear ht
    go_enter Tryz.func31, Tryz.ntmps31
    go_wp2_with fail
    go_ret
    exact ⟨by rw [HS.out]; rfl, by rw [← HWC.out]; exact HBC.out⟩
  have e3 : (x.text == y.text) = true := by rw [beq_iff_eq]; exact ht
  have HE3 : Hid (S = (Vl.Z.sames x.items y.items && Vl.ZA.sames x.fields y.fields)) := by rw [HE2.out, decide_eq_true ht]; exact Lib.hid rfl
  clear ht HE2
  by_cases hlen : x.items.length = y.items.length
  rotate_left
  · have e4 : ((x.items.length : Int) != (y.items.length : Int)) = true := neT (by omega)
    have HS : Hid (S = false) := by rw [HE3.out, Vl.Z.sames_len hlen]; exact Lib.hid rfl
    clear hlen
    go_enter Tryz.func31, Tryz.ntmps31
    go_wp2_with fail
    go_ret
    exact ⟨by rw [HS.out]; rfl, by rw [← HWC.out]; exact HBC.out⟩
  have e4 : ((x.items.length : Int) != (y.items.length : Int)) = false := neF (by omega)
  have HLEN := Lib.hid hlen
  clear hlen
  go_enter Tryz.func31, Tryz.ntmps31
  go_wp2_with fail
  rw [← HWC.out]
  go_loopg [42] (x.items.length + 1) (fun k i wr => ∃ (j : Nat), k = x.items.length + 1 - j ∧ j ≤ x.items.length ∧ i = .int .i64 j ∧ S = (Vl.Z.sames (x.items.drop j) (y.items.drop j) && Vl.ZA.sames x.fields y.fields) ∧ Below wc.heap.size wc wr)
  case atStart => exact ⟨0, rfl, Nat.zero_le _, rfl, HE3.out, Below.refl _ _⟩
  case round =>
    obtain ⟨j, hk, hj, rfl, hs, hbe⟩ := hrel
    have HK := Lib.hid hk
    have HS2 := Lib.hid hs
    have HBE := Lib.hid hbe
    have HX2 : Hid (wr.heap[w.heap.size]? = some (.cells #[.int .i64 x.kind, .string ⟨x.text.toArray⟩, .slice a1 x.items.length c1, .slice a2 x.fields.length c2, .int .i64 x.at_] 55 (0, 0))) := Lib.hid ((hbe.block _ (block_lt HX0.out)).trans HX0.out)
    have HY2 : Hid (wr.heap[w.heap.size + 1]? = some (.cells #[.int .i64 x.kind, .string ⟨y.text.toArray⟩, .slice b1 y.items.length d1, .slice b2 y.fields.length d2, .int .i64 y.at_] 55 (0, 0))) := Lib.hid ((hbe.block _ (block_lt HY0.out)).trans HY0.out)
    clear hk hs hbe
    by_cases hjl : j < x.items.length
    · have e5 : decide (j < x.items.length) = true := decide_eq_true hjl
      have hjy : j < y.items.length := by have := HLEN.out; omega
      have e6 : decide (j < y.items.length) = true := decide_eq_true hjy
      obtain ⟨p, hp⟩ : ∃ z, x.items[j]? = some z := ⟨x.items[j], List.getElem?_eq_getElem hjl⟩
      obtain ⟨q, hq⟩ : ∃ z, y.items[j]? = some z := ⟨y.items[j], List.getElem?_eq_getElem hjy⟩
      have hdx : x.items.drop j = p :: x.items.drop (j + 1) := by rw [List.drop_eq_getElem_cons hjl]; rw [List.getElem?_eq_getElem hjl] at hp; rw [Option.some.inj hp]
      have hdy : y.items.drop j = q :: y.items.drop (j + 1) := by rw [List.drop_eq_getElem_cons hjy]; rw [List.getElem?_eq_getElem hjy] at hq; rw [Option.some.inj hq]
      have HS3 : Hid (S = ((p.same q && Vl.Z.sames (x.items.drop (j + 1)) (y.items.drop (j + 1))) && Vl.ZA.sames x.fields y.fields)) := by have := HS2.out; rw [hdx, hdy, Vl.Z.sames_cons] at this; exact Lib.hid this
      have HNP := Lib.hid (HNI.out p (List.mem_of_getElem? hp))
      obtain ⟨g, o, cs, ha, -, hgl, hlen, hcell, hd⟩ := HXI.out.el j p.d (by rw [List.getElem?_map, hp]; rfl)
      obtain ⟨g', o', cs', hb, -, hgl', hlen', hcell', hd'⟩ := HYI.out.el j q.d (by rw [List.getElem?_map, hq]; rfl)
      obtain ⟨p1, p2, u1, u2, rfl, -, -⟩ := Z_open hd
      obtain ⟨q1, q2, v1, v2, rfl, -, -⟩ := Z_open hd'
      have k0 : ∀ q : Later wr, q.1.cell? ⟨g, o + j * 5, none⟩ = _ := Later.cell ((HBE.out.cell (p := ⟨g, o + j * 5, none⟩) hgl).trans (hcell 0 _ rfl))
      have k1 : ∀ q : Later wr, q.1.cell? ⟨g, o + j * 5 + 1, none⟩ = _ := Later.cell ((HBE.out.cell (p := ⟨g, o + j * 5 + 1, none⟩) hgl).trans (hcell 1 _ rfl))
      have k2 : ∀ q : Later wr, q.1.cell? ⟨g, o + j * 5 + 2, none⟩ = _ := Later.cell ((HBE.out.cell (p := ⟨g, o + j * 5 + 2, none⟩) hgl).trans (hcell 2 _ rfl))
      have k3 : ∀ q : Later wr, q.1.cell? ⟨g, o + j * 5 + 3, none⟩ = _ := Later.cell ((HBE.out.cell (p := ⟨g, o + j * 5 + 3, none⟩) hgl).trans (hcell 3 _ rfl))
      have k4 : ∀ q : Later wr, q.1.cell? ⟨g, o + j * 5 + 4, none⟩ = _ := Later.cell ((HBE.out.cell (p := ⟨g, o + j * 5 + 4, none⟩) hgl).trans (hcell 4 _ rfl))
      have m0 : ∀ q : Later wr, q.1.cell? ⟨g', o' + j * 5, none⟩ = _ := Later.cell ((HBE.out.cell (p := ⟨g', o' + j * 5, none⟩) hgl').trans (hcell' 0 _ rfl))
      have m1 : ∀ q : Later wr, q.1.cell? ⟨g', o' + j * 5 + 1, none⟩ = _ := Later.cell ((HBE.out.cell (p := ⟨g', o' + j * 5 + 1, none⟩) hgl').trans (hcell' 1 _ rfl))
      have m2 : ∀ q : Later wr, q.1.cell? ⟨g', o' + j * 5 + 2, none⟩ = _ := Later.cell ((HBE.out.cell (p := ⟨g', o' + j * 5 + 2, none⟩) hgl').trans (hcell' 2 _ rfl))
      have m3 : ∀ q : Later wr, q.1.cell? ⟨g', o' + j * 5 + 3, none⟩ = _ := Later.cell ((HBE.out.cell (p := ⟨g', o' + j * 5 + 3, none⟩) hgl').trans (hcell' 3 _ rfl))
      have m4 : ∀ q : Later wr, q.1.cell? ⟨g', o' + j * 5 + 4, none⟩ = _ := Later.cell ((HBE.out.cell (p := ⟨g', o' + j * 5 + 4, none⟩) hgl').trans (hcell' 4 _ rfl))
      have z1 : ∀ r : Later wr, r.1.cell? ⟨w.heap.size, 2, none⟩ = some (.slice a1 x.items.length c1) := Later.cell (blk_cell HX2.out 2 _ rfl)
      have z2 : ∀ r : Later wr, r.1.cell? ⟨w.heap.size + 1, 2, none⟩ = some (.slice b1 y.items.length d1) := Later.cell (blk_cell HY2.out 2 _ rfl)
      subst ha
      subst hb
      have HCALL : ∀ r : Later wr, Calls Tryz.prog 31 #[.agg #[.int .i64 p.kind, .string ⟨p.text.toArray⟩, .slice p1 p.items.length u1, .slice p2 p.fields.length u2, .int .i64 p.at_], .agg #[.int .i64 q.kind, .string ⟨q.text.toArray⟩, .slice q1 q.items.length v1, .slice q2 q.fields.length v2, .int .i64 q.at_], .bool false] r.1 (fun e w' => e = .returned (.bool (p.same q)) ∧ Below r.1.heap.size r.1 w') := fun r => HIH.out p q HNP.out p1 p2 q1 q2 u1 u2 v1 v2 r.1 P (hd.to (Stands.below (HBE.out.trans (r.2.mono HBE.out.size)))) (hd'.to (Stands.below (HBE.out.trans (r.2.mono HBE.out.size))))
      obtain ⟨qv, hqv⟩ : ∃ r, r = p.same q := ⟨_, rfl⟩
      rw [← hqv] at HCALL HS3
      have HCALLH := Lib.hid HCALL
      clear hp hq hdx hdy hlen hlen' hcell hcell' hd hd' HS2 hqv HCALL
      go_wp2_with fail
      refine wp_region_later (by kernel_rfl) (by kernel_rfl) ?_
      repeat (go_big_quiet_step (exact Later.call (HCALLH.out _)))
      refine wpQuiet_nil ?_
      rintro w6 ⟨q6, rfl⟩
      have HB6 := Lib.hid (HBE.out.trans (q6.2.mono HBE.out.size))
      have HB7 := Lib.hid (HBC.out.trans (HB6.out.mono HBC.out.size))
      clear k0 k1 k2 k3 k4 m0 m1 m2 m3 m4 z1 z2
      cases qv
      · go_wp2_with fail
        go_ret
        exact ⟨by rw [HS3.out]; rfl, HB7.out⟩
      · go_wp2_with fail
        go_roundg (x.items.length + 1 - (j + 1))
        case measure => rw [HK.out]; omega
        case rel => exact ⟨j + 1, rfl, hjl, by go_num, by rw [HS3.out]; rfl, HB6.out⟩
    · have e5 : decide (j < x.items.length) = false := decide_eq_false hjl
      have HS3 : Hid (S = Vl.ZA.sames x.fields y.fields) := by
        have := HS2.out
        rw [List.drop_eq_nil_of_le (by omega), List.drop_eq_nil_of_le (by have := HLEN.out; omega), Vl.Z.sames_nil, Bool.true_and] at this
        exact Lib.hid this
      have z3 : wr.cell? ⟨w.heap.size, 3, none⟩ = some (.slice a2 x.fields.length c2) := blk_cell HX2.out 3 _ rfl
      have z4 : wr.cell? ⟨w.heap.size + 1, 3, none⟩ = some (.slice b2 y.fields.length d2) := blk_cell HY2.out 3 _ rfl
      have HCF := Lib.hid (refArgs_any N HIH.out x.fields y.fields HNF.out a2 b2 c2 d2 wr P hfb (HXF.out.to (Stands.below HBE.out)) (HYF.out.to (Stands.below HBE.out)))
      have HB7 := Lib.hid (HBC.out.trans (HBE.out.mono HBC.out.size))
      go_wp2_with fail
      refine HCF.out.mono ?_
      rintro r w4 ⟨rfl, hb4⟩
      have HB4 := Lib.hid (HB7.out.trans (hb4.mono HB7.out.size))
      clear hb4 z3 z4
      go_wp2_with fail
      go_ret
      exact ⟨by rw [HS3.out]; rfl, HB4.out⟩
theorem ref_any : ∀ (N : Nat), N ≤ 9000000000000000000 → RefC N
  | 0, _ => fun x y hN => by have := Vl.Z.n_pos x; omega
  | N + 1, h => ref_step N (by omega) (ref_any N (by omega))
end Go.Proofs.YtabcaljnpahgpaaGreatDoor
