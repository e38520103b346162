/-
  'SeglogKeeps', walked. Numbers that came in.
-/
import Derived.Test.YtcinagglbkbmkaaDoorZk10
import Derived.Test.YtcinagglbkbmkaaDoorZk11
import Derived.Test.YtcinagglbkbmkaaDoorZk2
import Derived.Test.YtcinagglbkbmkaaDoorZk8
namespace Go.Proofs.YtcinagglbkbmkaaDoor
set_option linter.unusedSimpArgs false
set_option linter.unusedVariables false
open Go Go.RowKit
open Go.Maps Go.WideMaps

theorem infoStr : (Tryd.prog.info? 9).map (fun i => (i.zero, i.size, i.bytes)) = some (some (.string ⟨#[]⟩), 1, 16) := by kernel_rfl
def strCells (l : List (List UInt8)) : List Value := l.map fun s => .string ⟨s.toArray⟩
/-- The statement's world: the file system, a list of texts. -/
structure KW (base B : Nat) (st : Fs.St) (V : FsV) (own : Nat → Tag) (vs : List (List UInt8)) (v : Value) (wr : World) : Prop where
  ok : FsOK base B st V own wr
  row : wr.ownsRow base 9 1 v vs.length (strCells vs)
  tag : ∀ g, v.ownBlock = some g → own g = .other
  hb : base ≤ wr.heap.size
section
variable {base B : Nat} {st : Fs.St} {V : FsV} {own : Nat → Tag} {vs : List (List UInt8)} {v : Value} {wr w' : World}
theorem KW.below (h : KW base B st V own vs v wr) (hb : Below wr.heap.size wr w') : KW base B st V own vs v w' :=
  ⟨h.ok.kept (kept_below hb), row_kept h.row (fun g hg => hb.block g (h.row.lt g hg).2), h.tag, Nat.le_trans h.hb hb.size⟩
theorem KW.op (h : KW base B st V own vs v wr) {st' : Fs.St} (hp : OpPost base B st' own wr w') : ∃ V' own', KW base B st' V' own' vs v w' := by
  obtain ⟨V', own', hok, ho, hk⟩ := hp
  refine ⟨V', own', hok, row_kept h.row (fun g hg => hk.block g (h.row.lt g hg).2 (by rw [h.tag g hg]; simp)), fun g hg => ?_, Nat.le_trans h.hb hk.size⟩
  rw [ho g (h.row.lt g hg).2]; exact h.tag g hg
theorem KW.low (h : KW base B st V own vs v wr) {st' : Fs.St} (hp : OpPost base B st' own wr w') : Below base wr w' := hp.below0 h.ok h.hb
theorem KW.more (h : KW base B st V own vs v wr) {x : List UInt8} {v' : Value} (hrow : w'.ownsRow base 9 1 v' (vs.length + 1) (strCells vs ++ [.string ⟨x.toArray⟩])) (hg : wr.grownBy w' v.ownBlock)
    (hloc : v'.ownBlock = v.ownBlock ∨ v'.ownBlock = some wr.heap.size) : KW base B st V own (vs ++ [x]) v' w' := by
  have hk : Kept own (· = .other) wr w' := (Kept.refl _ _ _).grown hg (fun k hk => .inl (h.tag k hk))
  refine ⟨h.ok.kept hk, ?_, fun g hg2 => ?_, Nat.le_trans h.hb hg.size⟩
  · rw [List.length_append]
    have : strCells (vs ++ [x]) = strCells vs ++ [.string ⟨x.toArray⟩] := by simp [strCells]
    rw [this]
    exact hrow
  · rcases hloc with e | e
    · exact h.tag g (by rw [← e]; exact hg2)
    · rw [e] at hg2
      simp only [Option.some.injEq] at hg2
      exact h.ok.fresh g (by omega)
end
namespace Sg
/-- What holds of the file system, the texts that are sure, and the one that was cut. -/
structure KL (st : Fs.St) (fs : List (List UInt8)) (x last : List UInt8) (cut : Bool) : Prop where
  kp : Kp st fs x
  sd : Fs.Sound st 2
  pk : Fs.PlanOK st
  a : cut = false → x = []
  b : cut = true → last.length ≤ 500 ∧ ∃ r, Fr.bytes 1 last = x ++ r
theorem app_sound {st : Fs.St} {k : Nat} (hs : Fs.Sound st k) (hp : Fs.PlanOK st) (i j : Int) (p : List UInt8) : Fs.Sound (Sg.append st i j p).1 k ∧ Fs.PlanOK (Sg.append st i j p).1 := by
  unfold Sg.append
  split
  · exact ⟨hs, hp⟩
  split
  · exact ⟨hs, hp⟩
  have h1 := hs.append (nameB i) (Fr.bytes j p)
  have h2 := hp.of (Fs.plan_append st (nameB i) (Fr.bytes j p))
  split
  · exact ⟨h1, h2⟩
  · exact ⟨h1.sync _, h2.of (Fs.plan_sync _ _)⟩
theorem KL.append {st : Fs.St} {fs : List (List UInt8)} {x last : List UInt8} (h : KL st fs x last false) {p : List UInt8} (hp : p.length ≤ 500) :
    ((Sg.append st 7 1 p).2 = 0 ∧ KL (Sg.append st 7 1 p).1 (fs ++ [p]) [] last false) ∨ ((Sg.append st 7 1 p).2 ≠ 0 ∧ ∃ x', KL (Sg.append st 7 1 p).1 fs x' p true) := by
  obtain ⟨h1, h2⟩ := app_sound h.sd h.pk 7 1 p
  have hk := h.kp
  rw [h.a rfl] at hk
  rcases hk.append hp with ⟨e, k⟩ | ⟨e, x', r, hb, k⟩
  · exact .inl ⟨e, ⟨k, h1, h2, fun _ => rfl, fun h => by cases h⟩⟩
  · exact .inr ⟨e, x', ⟨k, h1, h2, fun h => (by cases h), fun _ => ⟨hp, r, hb⟩⟩⟩
theorem KL.read {st : Fs.St} {fs : List (List UInt8)} {x last : List UInt8} {cut : Bool} (h : KL st fs x last cut) (dirs : Int) (tails : List Int) :
    ∃ l wh, Sg.read (Fs.crash st dirs tails) [7] = (l.map (fun q => ((7 : Int), ((1 : Int), q))), wh, 0) ∧ (l = fs ∨ (cut = true ∧ l = fs ++ [last])) := by
  cases cut with
  | false =>
    obtain ⟨l, wh, h1, h2⟩ := h.kp.read (p := last) (r := []) (.inl (h.a rfl)) dirs tails
    rcases h2 with h2 | ⟨h2, _⟩
    · exact ⟨l, wh, h1, .inl h2⟩
    · exact absurd (h.a rfl) h2
  | true =>
    obtain ⟨h3, r, h4⟩ := h.b rfl
    obtain ⟨l, wh, h1, h2⟩ := h.kp.read (p := last) (r := r) (.inr ⟨h3, h4⟩) dirs tails
    rcases h2 with h2 | ⟨_, h2⟩
    · exact ⟨l, wh, h1, .inl h2⟩
    · exact ⟨l, wh, h1, .inr ⟨rfl, h2⟩⟩
theorem armed {st : Fs.St} (h : st.left = -1) (pl : List Int) {n : Int} (hn : 0 ≤ n) : Fs.arm (Fs.planned st pl) n = ({ st with left := n, plan := pl }, 0) := by
  unfold Fs.arm Fs.planned
  rw [if_neg (by omega), if_neg (by show ¬ st.left = 0; rw [h]; decide)]
end Sg
/-- Where the power is cut. -/
theorem cutAt60 (z : Int) : 0 ≤ IntKind.i64.wrap ((IntKind.u64.wrap z).tmod 60) ∧ IntKind.i64.wrap ((IntKind.u64.wrap z).tmod 60) ≤ 60 := by
  have h0 : 0 ≤ IntKind.u64.wrap z := by rw [IntKind.wrap_u64]; omega
  rw [Int.tmod_eq_emod_of_nonneg h0, IntKind.wrap_i64]
  omega
theorem en_at {w : World} {base : Nat} {ea : Option Addr} {en ec : Nat} {es : List (Sg.En × Value)} {rl : List (List UInt8)} (h : EnAt w base (.slice ea en ec) es) (hes : es.map (·.1) = rl.map (fun q => ((7 : Int), ((1 : Int), q)))) {j : Nat} {q : List UInt8} (hq : rl[j]? = some q) :
    ∃ g pa pn pc, ea = some ⟨g, 0, none⟩ ∧ w.cell? ⟨g, j * 3 + 2, none⟩ = some (.slice pa pn pc) ∧ Byts w (.slice pa pn pc) q := by
  have h1 : (es.map (·.1))[j]? = some ((7 : Int), ((1 : Int), q)) := by rw [hes, List.getElem?_map, hq]; rfl
  rw [List.getElem?_map] at h1
  obtain ⟨p, hp, e⟩ := Option.map_eq_some_iff.1 h1
  have hlt := (List.getElem?_eq_some_iff.1 hp).1
  obtain ⟨g, c, hv⟩ := row_form h.row (by omega)
  simp only [Value.slice.injEq] at hv
  obtain ⟨rfl, -, rfl⟩ := hv
  obtain ⟨_, _, k2⟩ := h.at (i := j) hp
  have hpay := h.pay p (List.mem_of_getElem? hp)
  rw [e] at hpay
  obtain ⟨pa, pn, pc, hpv, _⟩ := OwnB.form3 hpay
  rw [hpv] at k2 hpay
  exact ⟨g, pa, pn, pc, rfl, k2, hpay.byts⟩
theorem str_at {w : World} {base : Nat} {sa : Option Addr} {sn sc : Nat} {fs : List (List UInt8)} (h : w.ownsRow base 9 1 (.slice sa sn sc) fs.length (strCells fs)) {j : Nat} {q : List UInt8} (hq : fs[j]? = some q) :
    ∃ g, sa = some ⟨g, 0, none⟩ ∧ w.cell? ⟨g, j, none⟩ = some (.string ⟨q.toArray⟩) := by
  have hlt := (List.getElem?_eq_some_iff.1 hq).1
  obtain ⟨g, c, hv⟩ := row_form h (by omega)
  simp only [Value.slice.injEq] at hv
  obtain ⟨rfl, -, rfl⟩ := hv
  have k := World.ownsRow.cells h (g := g) rfl j (.string ⟨q.toArray⟩) (by unfold strCells; rw [List.getElem?_map, hq]; rfl)
  rw [addr_add] at k
  exact ⟨g, rfl, k⟩
set_option maxHeartbeats 4000000 in
set_option maxRecDepth 100000 in
theorem keeps_any (v0 v1 : Value) (a0 a1 a2 : Int) (ps : List (List UInt8)) (pl : List Int) (w : World) (B0 : Nat) (hE : SgEnv B0 w) (hB : B0 ≤ w.heap.size) (hP : Prts w v0 ps) (hL : Ints w v1 pl)
    (hpn : ps.length ≤ 9223372036854775807) (hps : ∀ l ∈ ps, l.length ≤ 9223372036854775807) (hpl : pl.length ≤ 9223372036854775807) (hplz : ∀ z ∈ pl, z ≤ 9223372036854775807) :
    Calls Tryd.prog 3 #[v0, v1, .agg #[.int .i64 a0, .int .i64 a1, .int .i64 a2]] w fun e w' => e = .returned (.bool true) ∧ Below w.heap.size w w' := by
  obtain ⟨i0, hi0', hz0, hz1, hz2⟩ := info_parts infoStr
  obtain ⟨pa, pc, rfl⟩ := hP.form
  obtain ⟨la, lc, rfl⟩ := hL.form
  have HE := Lib.hid hE
  have HP := Lib.hid hP
  have HL := Lib.hid hL
  have HPS := Lib.hid hps
  have HPZ := Lib.hid hplz
  have hb0 : Below w.heap.size w (w.alloc (.cells #[.int .i64 a0, .int .i64 a1, .int .i64 a2] 24)) := (Below.refl _ _).alloc (Nat.le_refl _) _
  have hr0 := heap_new w (.cells #[.int .i64 a0, .int .i64 a1, .int .i64 a2] 24)
  have HB0 := Lib.hid hb0
  have HR0 := Lib.hid hr0
  clear hE hP hL hps hplz hb0 hr0
  go_enter Tryd.func3, Tryd.ntmps3
  go_wp2_with fail
  refine (awake_any _ B0 (HE.out.below (HB0.out.mono hB)) (Nat.le_trans hB HB0.out.size)).mono ?_
  rintro e w1 ⟨rfl, hb1⟩
  have HB1 := Lib.hid (HB0.out.trans (hb1.mono HB0.out.size))
  have HR1 := Lib.hid ((hb1.block _ (heap_lt HR0.out)).trans HR0.out)
  clear hb1
  by_cases hlong : 100 < pl.length
  · have hlong' : (100 : Int) < (pl.length : Int) := by omega
    go_wp2_with fail
    refine (awake_any w1 B0 (HE.out.below (HB1.out.mono hB)) (Nat.le_trans hB HB1.out.size)).mono ?_
    rintro e w9 ⟨rfl, hb9⟩
    have HB9 := Lib.hid (HB1.out.trans (hb9.mono HB1.out.size))
    clear hb9
    go_wp2_with fail
    go_ret
    exact ⟨rfl, HB9.out⟩
  have hlong' : (pl.length : Int) ≤ 100 := by omega
  go_wp2_with fail
  refine (new_any 20000 w1).mono ?_
  rintro e w2 ⟨hb2, hres⟩
  rcases hres with ⟨h, rfl⟩ | ⟨_, rfl, V0, hok⟩
  · omega
  have hz2s := hb2.size
  have HEb := Lib.hid ((HE.out.below (HB1.out.mono hB)).mono (Nat.le_trans hB HB1.out.size))
  have HK2 : Hid (KW w1.heap.size (w1.heap.size + 2) (Fs.new 20000) V0 (tags0 w1.heap.size) [] (.slice none 0 0) w2) :=
    Lib.hid ⟨hok, World.ownsRow_nil _ _ _ _, fun g h => by simp [Value.ownBlock] at h, hz2s⟩
  have HB12 := Lib.hid hb2
  have HR2 := Lib.hid ((hb2.block _ (heap_lt HR1.out)).trans HR1.out)
  clear hb2 hok
  go_wp2_with fail
  refine (segCreate_any w1.heap.size _ _ _ _ 7 w2 HK2.out.ok (HEb.out.below HB12.out) HK2.out.hb ((Fs.Sound.new ⟨by decide, by decide⟩ 0).small (by omega))).mono ?_
  rintro e w3 ⟨rfl, hp3⟩
  obtain ⟨hc0, hkp0, hlf0⟩ := Sg.Kp.new
  rw [hc0]
  have hlow3 := HK2.out.low hp3
  obtain ⟨V3, own3, h3⟩ := HK2.out.op hp3
  have hs3 : Fs.Sound (Sg.create (Fs.new 20000) 7).1 2 := by
    have h1 := ((Fs.Sound.new (room := 20000) ⟨by decide, by decide⟩ 0).create (Sg.nameB 7))
    unfold Sg.create
    rw [if_neg (by rw [Sg.name7]; simp)]
    split
    · exact h1
    · exact h1.syncDir
  obtain ⟨st3, hst3⟩ : ∃ x, x = (Sg.create (Fs.new 20000) 7).1 := ⟨_, rfl⟩
  rw [← hst3] at h3 hkp0 hlf0 hs3
  have HK3 := Lib.hid h3
  have HKP3 := Lib.hid hkp0
  have HLF3 := Lib.hid hlf0
  have HS3 := Lib.hid hs3
  have HB13 := Lib.hid (HB12.out.trans hlow3)
  have HR3 := Lib.hid ((hlow3.block _ (heap_lt HR1.out)).trans HR2.out)
  clear hp3 hc0 hkp0 hlf0 hlow3 h3 hs3 hst3
  go_wp2_with fail
  refine (plan_any w1.heap.size _ st3 V3 own3 _ pl w3 HK3.out.ok ((HL.out.below HB1.out).below HB13.out) (by omega)).mono ?_
  rintro e w4 ⟨rfl, hp4⟩
  have hlow4 := HK3.out.low hp4
  obtain ⟨V4, own4, h4⟩ := HK3.out.op hp4
  have HK4 := Lib.hid h4
  have HB14 := Lib.hid (HB13.out.trans hlow4)
  have HR4 := Lib.hid ((hlow4.block _ (heap_lt HR1.out)).trans HR3.out)
  have hx0 : w4.cell? ⟨w.heap.size, 0, none⟩ = some (.int .i64 a0) := root_cell HR4.out 0 _ rfl
  obtain ⟨hz0', hz9'⟩ := cutAt60 a0
  obtain ⟨pn, hpn⟩ : ∃ x, x = IntKind.i64.wrap ((IntKind.u64.wrap a0).tmod 60) := ⟨_, rfl⟩
  rw [← hpn] at hz0' hz9'
  clear hp4 hlow4 h4
  go_wp2_with fail
  refine wp_region_phase (fun w' => w'.cell? ⟨w.heap.size, 0, none⟩ = some (.int .i64 a0)) 10 (by kernel_rfl) ?_
  have hS : w4.drew.cell? ⟨w.heap.size, 0, none⟩ = some (.int .i64 a0) := hx0
  refine wpAnyB_take (i := 0) (v := (.pointer (some ⟨w1.heap.size + 2, 0, none⟩))) (by kernel_rfl) (by decide) rfl (by kernel_rfl) (by kernel_rfl) (by kernel_rfl) (fun _ _ _ h => h) (Or.inl ⟨by rfl, fun w hSw => by go_simp⟩) hS ?_; simp only [Act.put, Array.getInternal_eq_getElem, List.getElem_toArray, List.getElem_cons_zero, List.getElem_cons_succ, List.setIfInBounds_toArray, List.set_cons_zero, List.set_cons_succ]
  refine wpAnyB_take (i := 1) (v := (.pointer (some ⟨w1.heap.size + 2, 0, none⟩))) (by kernel_rfl) (by decide) rfl (by kernel_rfl) (by kernel_rfl) (by kernel_rfl) (fun _ _ _ h => h) (Or.inl ⟨by rfl, fun w hSw => by go_simp⟩) hS ?_; simp only [Act.put, Array.getInternal_eq_getElem, List.getElem_toArray, List.getElem_cons_zero, List.getElem_cons_succ, List.setIfInBounds_toArray, List.set_cons_zero, List.set_cons_succ]
  refine wpAnyB_take (i := 2) (v := (.pointer (some ⟨w1.heap.size + 2, 0, none⟩))) (by kernel_rfl) (by decide) rfl (by kernel_rfl) (by kernel_rfl) (by kernel_rfl) (fun _ _ _ h => h) (Or.inl ⟨by rfl, fun w hSw => by go_simp⟩) hS ?_; simp only [Act.put, Array.getInternal_eq_getElem, List.getElem_toArray, List.getElem_cons_zero, List.getElem_cons_succ, List.setIfInBounds_toArray, List.set_cons_zero, List.set_cons_succ]
  refine wpAnyB_take (i := 3) (v := (.pointer (some ⟨w.heap.size, 0, none⟩))) (by kernel_rfl) (by decide) rfl (by kernel_rfl) (by kernel_rfl) (by kernel_rfl) (fun _ _ _ h => h) (Or.inl ⟨by rfl, fun w hSw => by go_simp⟩) hS ?_; simp only [Act.put, Array.getInternal_eq_getElem, List.getElem_toArray, List.getElem_cons_zero, List.getElem_cons_succ, List.setIfInBounds_toArray, List.set_cons_zero, List.set_cons_succ]
  refine wpAnyB_take (i := 4) (v := (.int .i64 a0)) (by kernel_rfl) (by decide) rfl (by kernel_rfl) (by kernel_rfl) (by kernel_rfl) (fun _ _ _ h => h) (Or.inl ⟨by rfl, fun w hSw => by go_simp⟩) hS ?_; simp only [Act.put, Array.getInternal_eq_getElem, List.getElem_toArray, List.getElem_cons_zero, List.getElem_cons_succ, List.setIfInBounds_toArray, List.set_cons_zero, List.set_cons_succ]
  refine wpAnyB_take (i := 5) (v := (.int .u64 (IntKind.u64.wrap a0))) (by kernel_rfl) (by decide) rfl (by kernel_rfl) (by kernel_rfl) (by kernel_rfl) (fun _ _ _ h => h) (Or.inl ⟨by rfl, fun w hSw => by go_simp⟩) hS ?_; simp only [Act.put, Array.getInternal_eq_getElem, List.getElem_toArray, List.getElem_cons_zero, List.getElem_cons_succ, List.setIfInBounds_toArray, List.set_cons_zero, List.set_cons_succ]
  refine wpAnyB_take (i := 6) (v := (.int .u64 ((IntKind.u64.wrap a0).tmod 60))) (by kernel_rfl) (by decide) rfl (by kernel_rfl) (by kernel_rfl) (by kernel_rfl) (fun _ _ _ h => h) (Or.inl ⟨by rfl, fun w hSw => by go_simp⟩) hS ?_; simp only [Act.put, Array.getInternal_eq_getElem, List.getElem_toArray, List.getElem_cons_zero, List.getElem_cons_succ, List.setIfInBounds_toArray, List.set_cons_zero, List.set_cons_succ]
  refine wpAnyB_take (i := 7) (v := (.int .i64 pn)) (by kernel_rfl) (by decide) rfl (by kernel_rfl) (by kernel_rfl) (by kernel_rfl) (fun _ _ _ h => h) (Or.inl ⟨by rfl, fun w hSw => by go_simp⟩) hS ?_; simp only [Act.put, Array.getInternal_eq_getElem, List.getElem_toArray, List.getElem_cons_zero, List.getElem_cons_succ, List.setIfInBounds_toArray, List.set_cons_zero, List.set_cons_succ]
  clear hpn
  refine wpAnyB_one (i := 8) (by kernel_rfl) ?_
  refine wpOp_intro (by decide) (fun K5 HK5 => ?_); simp only [List.drop_succ_cons, List.drop_zero, List.take_succ_cons, List.take_zero]
  go_wp2_with fail
  have hbd : Below w4.heap.size w4 w4.drew := Below.drew (Below.refl _ _)
  refine (arm_any w1.heap.size _ _ V4 own4 pn w4.drew (HK4.out.below hbd).ok (by omega)).mono ?_
  rintro e w5 ⟨rfl, hp5⟩
  rw [Sg.armed HLF3.out pl hz0'] at hp5 ⊢
  have hlow5 := (HK4.out.below hbd).low hp5
  obtain ⟨V5, own5, h5⟩ := (HK4.out.below hbd).op hp5
  obtain ⟨st5, hst5⟩ : ∃ x, x = { st3 with left := pn, plan := pl } := ⟨_, rfl⟩
  rw [← hst5] at h5
  have HKL : Hid (Sg.KL st5 [] [] [] false) := Lib.hid ⟨by rw [hst5]; exact HKP3.out.alike rfl rfl rfl rfl rfl, by rw [hst5]; exact HS3.out.power st3.steps pn pl, by rw [hst5]; exact fun z hz => HPZ.out z hz, fun _ => rfl, fun h => by cases h⟩
  have HK5w := Lib.hid h5
  have hlow45 := (hbd.mono HK4.out.hb).trans hlow5
  have HB15 := Lib.hid (HB14.out.trans hlow45)
  have HR5 := Lib.hid ((hlow45.block _ (heap_lt HR1.out)).trans HR4.out)
  have hp5c : w5.cell? ⟨w.heap.size, 0, none⟩ = some (.int .i64 a0) := root_cell HR5.out 0 _ rfl
  clear hp5 hlow5 h5 hst5 hlow45 hbd hz0' hz9'
  go_wp2_with fail
  refine HK5.out _ _ ⟨fun _ => hp5c, ?_⟩
  clear HK5 hS
  have hS : w5.cell? ⟨w.heap.size, 0, none⟩ = some (.int .i64 a0) := hp5c
  refine wpAnyB_take (i := 9) (v := (.bool false)) (by kernel_rfl) (by decide) rfl (by kernel_rfl) (by kernel_rfl) (by kernel_rfl) (fun _ _ _ h => h) (Or.inl ⟨by rfl, fun w hSw => by go_simp⟩) hS ?_; simp only [Act.put, Array.getInternal_eq_getElem, List.getElem_toArray, List.getElem_cons_zero, List.getElem_cons_succ, List.setIfInBounds_toArray, List.set_cons_zero, List.set_cons_succ]
  refine wpAnyB_done (by kernel_rfl) ?_ _
  clear hS hp5c hx0
  obtain ⟨n, hn⟩ : ∃ n, n = min ps.length 20 := ⟨_, rfl⟩
  have hn20 : n ≤ 20 := by omega
  have HN := Lib.hid hn
  clear hn
  go_wp2_with fail
  go_loopg [9, 10, 11, 12] n (fun k s9 s10 s11 s12 wr => ∃ (i : Nat) (st : Fs.St) (V : FsV) (own : Nat → Tag) (fs : List (List UInt8)) (x last : List UInt8) (cut : Bool), i ≤ n ∧ k = n - i ∧ s12 = .int .i64 (i : Nat) ∧ s11 = .bool cut ∧ s10 = .string ⟨last.toArray⟩ ∧
    KW w1.heap.size (w1.heap.size + 2) st V own fs s9 wr ∧ Sg.KL st fs x last cut ∧ fs.length ≤ i ∧ Below w1.heap.size w1 wr)
  case atStart => exact ⟨0, st5, _, _, [], [], [], false, Nat.zero_le _, rfl, rfl, rfl, rfl, HK5w.out, HKL.out, Nat.le_refl _, HB15.out⟩
  case round =>
    obtain ⟨i, st, V, own, fs, x, last, cut, hi, hk, rfl, rfl, rfl, hkw, hkl, hfl, hbr⟩ := hrel
    obtain ⟨sa, sc, hsv⟩ := row_any hkw.row
    subst hsv
    obtain ⟨sn, hsn⟩ : ∃ x, x = fs.length := ⟨_, rfl⟩
    rw [← hsn] at hkw ⊢
    have HK := Lib.hid hk
    have HKW := Lib.hid hkw
    have HKL := Lib.hid hkl
    have HBR := Lib.hid hbr
    have HSN := Lib.hid hsn
    rw [← hsn] at hfl
    clear hk hkw hkl hbr hsn
    have hi0 : (0 : Int) ≤ (i : Int) := Int.natCast_nonneg _
    by_cases hgo : i < n ∧ cut = false
    · obtain ⟨hin, rfl⟩ := hgo
      have hin1 : (i : Int) < (ps.length : Int) := by have := HN.out; omega
      have hin2 : (i : Int) < 20 := by omega
      obtain ⟨p, hpi⟩ : ∃ p, ps[i]? = some p := ⟨_, List.getElem?_eq_getElem (by omega)⟩
      obtain ⟨pb, po, lv, rfl, hpb, hpc, hbv⟩ := (HP.out.below HB1.out).at hpi
      have hpmax := HPS.out p (List.mem_of_getElem? hpi)
      obtain ⟨qa, qc, rfl, _⟩ := hbv.form
      have p0 : wr.cell? ⟨pb, po + i, none⟩ = some (.slice qa p.length qc) := by rw [HBR.out.cell hpb]; exact hpc
      have HBV := Lib.hid hbv
      have hp0 : (0 : Int) ≤ (p.length : Int) := Int.natCast_nonneg _
      clear hpi hpc hbv
      by_cases h500 : 500 < p.length
      · have h500' : (500 : Int) < (p.length : Int) := by omega
        go_wp2_with fail
        go_roundg (n - (i + 1))
        case measure => rw [HK.out]; omega
        case rel => exact ⟨i + 1, st, V, own, fs, x, last, false, by omega, rfl, by simp, rfl, rfl, HKW.out, HKL.out, by have := HSN.out; omega, HBR.out⟩
      · have h500' : (p.length : Int) ≤ 500 := by omega
        have hbA : Below wr.heap.size wr (wr.alloc (.cells #[.slice qa p.length qc] 42)) := (Below.refl _ _).alloc (Nat.le_refl _) _
        have HPA := Lib.hid (prts_lit1 42 (HBV.out.below HBR.out))
        have HKA := Lib.hid (HKW.out.below hbA)
        have HBA := Lib.hid (HBR.out.trans (hbA.mono HBR.out.size))
        clear hbA
        go_wp2_with fail
        refine (segAppend_any w1.heap.size _ st V own 7 1 _ [p] _ HKA.out.ok (HEb.out.below HBA.out) HKA.out.hb (HKL.out.sd.small (by omega)) HPA.out (by simp) (by simp; omega) HKL.out.pk.how).mono ?_
        rintro e w7 ⟨rfl, hp7⟩
        rw [show ([p] : List (List UInt8)).flatten = p by simp] at hp7 ⊢
        have hlow7 := HKA.out.low hp7
        obtain ⟨V7, own7, h7⟩ := HKA.out.op hp7
        have hkl7 := HKL.out.append (show p.length ≤ 500 by omega)
        obtain ⟨E, hE⟩ : ∃ x, x = (Sg.append st 7 1 p).2 := ⟨_, rfl⟩
        obtain ⟨st7, hst7⟩ : ∃ x, x = (Sg.append st 7 1 p).1 := ⟨_, rfl⟩
        rw [← hE] at hkl7 ⊢
        rw [← hst7] at h7 hkl7
        have HK7 := Lib.hid h7
        have HB7 := Lib.hid (HBA.out.trans hlow7)
        have p7 : w7.cell? ⟨pb, po + i, none⟩ = some (.slice qa p.length qc) := by rw [(HB7.out).cell hpb, ← HBR.out.cell hpb]; exact p0
        have HBV7 := Lib.hid (HBV.out.below HB7.out)
        clear hp7 hlow7 h7 hE hst7 p0
        rcases hkl7 with ⟨rfl, hk7⟩ | ⟨hEn, x7, hk7⟩
        · have HKL7 := Lib.hid hk7
          have hcv := convB HBV7.out
          have hbN : Below w7.heap.size w7 (w7.alloc (.cells #[.string ⟨p.toArray⟩] 9)) := (Below.refl _ _).alloc (Nat.le_refl _) _
          have HKN := Lib.hid (HK7.out.below hbN)
          have HBN := Lib.hid (HB7.out.trans (hbN.mono HB7.out.size))
          have HCN : Hid (∀ j u, ([.string ⟨p.toArray⟩] : List Value)[j]? = some u → (w7.alloc (.cells #[.string ⟨p.toArray⟩] 9)).cell? ((⟨w7.heap.size, 0, none⟩ : Addr).add j) = some u) := Lib.hid (cell_one_new _ _ _)
          have hfl2 : fs.length ≤ 20 := by have := HSN.out; omega
          have hbw7 := HKN.out.hb
          clear hk7 hbN
          go_wp2_with (first | (at_builtin; refine wpList_append_own_at _ rfl _ _ 41 rfl w1.heap.size 9 i0 (.string ⟨#[]⟩) 1 16 Tryd.underlying41 hi0' hz0 hz1 hz2 rfl (by decide) (.slice sa sn sc) fs.length (strCells fs) rfl HKN.out.row ⟨w7.heap.size, 0, none⟩ 1 1 [.string ⟨p.toArray⟩] rfl rfl HCN.out (fun u hu => by simp at hu; subst hu; rfl) (by unfold maxLen; omega) (by omega) hbw7 ?_; intro v8' w8 hown8 hgrow8 hnil8 hloc8; clear hnil8; have HN8 := Lib.hid (HKN.out.more hown8 hgrow8 hloc8); have HB8 := Lib.hid (below_grown HBN.out hbw7 HKN.out.row hgrow8); clear hown8 hgrow8 hloc8) | fail)
          go_roundg (n - (i + 1))
          case measure => rw [HK.out]; omega
          case rel => exact ⟨i + 1, st7, V7, own7, fs ++ [p], [], last, false, by omega, rfl, by simp, rfl, rfl, HN8.out, HKL7.out, by rw [List.length_append, List.length_singleton]; have := HSN.out; omega, HB8.out⟩
        · have HKL7 := Lib.hid hk7
          have hcv := convB HBV7.out
          have hte : (E == 0) = false := by rw [beq_eq_false_iff_ne]; exact hEn
          clear hk7 hEn
          go_wp2_with fail
          go_roundg (n - (i + 1))
          case measure => rw [HK.out]; omega
          case rel => exact ⟨i + 1, st7, V7, own7, fs, x7, p, true, by omega, rfl, by simp, rfl, rfl, HK7.out, HKL7.out, by have := HSN.out; omega, HB7.out⟩
    · have hRr := (HBR.out.block _ (heap_lt HR1.out)).trans HR1.out
      have q1 : wr.cell? ⟨w.heap.size, 1, none⟩ = some (.int .i64 a1) := root_cell hRr 1 _ rfl
      have q2 : wr.cell? ⟨w.heap.size, 2, none⟩ = some (.int .i64 a2) := root_cell hRr 2 _ rfl
      clear hRr
      by_cases h1 : i < ps.length
      · have h1' : (i : Int) < (ps.length : Int) := by omega
        by_cases h2 : i < 20
        · have h2' : (i : Int) < 20 := by omega
          obtain rfl : cut = true := by
            cases cut
            · exact absurd ⟨by have := HN.out; omega, rfl⟩ hgo
            · rfl
          clear hgo
          have hbT : Below wr.heap.size wr (wr.alloc (.cells #[.int .i64 a2] 3)) := (Below.refl _ _).alloc (Nat.le_refl _) _
          have HKT := Lib.hid (HKW.out.below hbT)
          have HBT := Lib.hid (HBR.out.trans (hbT.mono HBR.out.size))
          have HTN : Hid (Ints (wr.alloc (.cells #[.int .i64 a2] 3)) (.slice (some ⟨wr.heap.size, 0, none⟩) 1 1) [a2]) := Lib.hid (OwnI.one wr a2 wr.heap.size (Nat.le_refl _)).nums
          clear hbT
          go_wp2_with fail
          refine (crash_any w1.heap.size _ st V own a1 _ [a2] _ HKT.out.ok HKT.out.hb 2 HKL.out.sd (by omega) HTN.out (by simp) (by rw [HKL.out.kp.room]; omega)).mono ?_
          rintro e w7 ⟨B7, V7, own7, rfl, hok7, hb7⟩
          obtain ⟨rl, wh, hrd, hrl⟩ := HKL.out.read a1 [a2]
          have hs7 := HKL.out.sd.crash a1 [a2]
          have hdl : (Fs.crashDir st (Fs.dirsOf st a1)).length ≤ 2 := by
            have h1 : Fs.crashDir st (Fs.dirsOf st a1) = [(Sg.nameB 7, 0)] := by unfold Fs.crashDir; rw [HKL.out.kp.chg, HKL.out.kp.sure]; simp
            rw [h1]; simp
          obtain ⟨st7, hst7⟩ : ∃ x, x = Fs.crash st a1 [a2] := ⟨_, rfl⟩
          rw [← hst7] at hrd hok7 hs7
          obtain ⟨b7, hb7e⟩ : ∃ x, x = (wr.alloc (.cells #[.int .i64 a2] 3)).heap.size := ⟨_, rfl⟩
          rw [← hb7e] at hok7
          have HRD := Lib.hid hrd
          have HRL := Lib.hid hrl
          have HS7 := Lib.hid (hs7.small (by omega))
          have HOK7 := Lib.hid hok7
          have HB7 := Lib.hid (HBT.out.trans (hb7.mono HBT.out.size))
          have HRW7 : Hid (w7.ownsRow w1.heap.size 9 1 (.slice sa sn sc) fs.length (strCells fs)) := Lib.hid (row_kept HKT.out.row (fun g hg => hb7.block g (HKT.out.row.lt g hg).2))
          have hbb7 : b7 ≤ w7.heap.size := by rw [hb7e]; exact hb7.size
          have hwb7 : w1.heap.size ≤ b7 := by rw [hb7e]; exact HBT.out.size
          have hbU : Below w7.heap.size w7 (w7.alloc (.cells #[.int .i64 7] 3)) := (Below.refl _ _).alloc (Nat.le_refl _) _
          have HB7U := Lib.hid (HB7.out.trans (hbU.mono HB7.out.size))
          have HOKU := Lib.hid (HOK7.out.kept (kept_below hbU))
          have HRWU := Lib.hid (row_kept HRW7.out (fun g hg => hbU.block g (HRW7.out.lt g hg).2))
          have HIU : Hid (Ints (w7.alloc (.cells #[.int .i64 7] 3)) (.slice (some ⟨w7.heap.size, 0, none⟩) 1 1) [7]) := Lib.hid (OwnI.one w7 7 w7.heap.size (Nat.le_refl _)).nums
          have hzU := hbU.size
          clear hrd hrl hs7 hdl hst7 hb7e hok7 hb7 hbU q1 q2
          go_wp2_with fail
          refine (segRead_any b7 B7 st7 V7 own7 _ [7] _ HOKU.out ((HEb.out.below HB7U.out).mono hwb7) (Nat.le_trans hbb7 hzU) HS7.out HIU.out (by simp)).mono ?_
          rintro e w8 ⟨hb8, lv, es, rfl, hEN, hes⟩
          rw [HRD.out] at hes ⊢
          obtain ⟨ea, ec, rfl⟩ := row_any hEN.row
          have HES := Lib.hid hes
          have HEN := Lib.hid hEN
          have HB8 := Lib.hid (HB7U.out.trans (hb8.mono HB7U.out.size))
          have HRW8 := Lib.hid (row_kept HRWU.out (fun g hg => hb8.block g (HRWU.out.lt g hg).2))
          have hel : es.length = rl.length := by
            have := congrArg List.length hes
            simpa using this
          obtain ⟨en, hen⟩ : ∃ x, x = es.length := ⟨_, rfl⟩
          rw [← hen] at HEN ⊢
          have HEL : Hid (en = rl.length) := Lib.hid (by rw [hen]; exact hel)
          have HNE := Lib.hid hen
          have hen0 : (0 : Int) ≤ (en : Int) := Int.natCast_nonneg _
          have hsn0 : (0 : Int) ≤ (sn : Int) := Int.natCast_nonneg _
          clear hb8 hEN hes hel hen
          rcases HRL.out with hrl | ⟨hcut, hrl⟩
          · have hes : (en : Int) = (sn : Int) := by have := HEL.out; have := HSN.out; rw [hrl] at *; omega
            go_wp2_with fail
            go_loopg [16, 142] sn (fun k s16 s142 wq => ∃ j : Nat, j ≤ sn ∧ k = sn - j ∧ s142 = .int .i64 (j : Nat) ∧ Below w8.heap.size w8 wq)
            case atStart => exact ⟨0, Nat.zero_le _, rfl, rfl, Below.refl _ _⟩
            case round =>
              obtain ⟨j, hj, hk2, rfl, hbq⟩ := hrel
              have HK2 := Lib.hid hk2
              have HBQ := Lib.hid hbq
              clear hk2 hbq
              have hj0 : (0 : Int) ≤ (j : Int) := Int.natCast_nonneg _
              by_cases hjn : j < sn
              · have hjn1 : (j : Int) < (sn : Int) := by omega
                have hjn2 : (j : Int) < (en : Int) := by omega
                obtain ⟨q, hq⟩ : ∃ q, fs[j]? = some q := ⟨_, List.getElem?_eq_getElem (by have := HSN.out; omega)⟩
                have hq2 : rl[j]? = some q := by
                  rw [hrl]
                  first
                    | exact hq
                    | rw [List.getElem?_append_left (by have := HSN.out; omega)]; exact hq
                obtain ⟨g5, rfl, k5⟩ := str_at HRW8.out hq
                obtain ⟨g6, xa, xn, xc, rfl, k6, hby⟩ := en_at HEN.out HES.out hq2
                have x5 := fun x => Later.cell (show wr.cell? ⟨g5, j, none⟩ = some (.string ⟨q.toArray⟩) by rw [World.cell?_of_block (HBQ.out.block _ (cellLt k5))]; exact k5) x
                have x6 := fun x => Later.cell (show wr.cell? ⟨g6, j * 3 + 2, none⟩ = some (.slice xa xn xc) by rw [World.cell?_of_block (HBQ.out.block _ (cellLt k6))]; exact k6) x
                obtain ⟨u, hu⟩ : ∃ t : ByteArray, t = ⟨q.toArray⟩ := ⟨_, rfl⟩
                have hcv : ∀ x : Later wr, (convert 42 9 (.slice xa xn xc)).run Tryd.prog x.1 = .ok (.string u) x.1 := fun x => by rw [hu]; exact convB ((hby.below HBQ.out).below x.2)
                rw [← hu] at x5
                have huu : (u.toList == u.toList) = true := by simp
                clear hq hq2 k5 k6 hby hu
                go_wp2_with fail
                refine wp_region_later (by kernel_rfl) (by kernel_rfl) ?_
                repeat (go_big_quiet_step (fail))
                refine wpQuiet_nil ?_; rintro w9 ⟨⟨_, hb9⟩, rfl⟩
                have HB9 := Lib.hid (HBQ.out.trans (hb9.mono HBQ.out.size))
                clear hb9 x5 x6 hcv
                go_wp2_with fail
                go_roundg (sn - (j + 1))
                case measure => rw [HK2.out]; omega
                case rel => exact ⟨j + 1, by omega, rfl, by simp, HB9.out⟩
              · have hjn1 : (sn : Int) ≤ (j : Int) := by omega
                have HBF : Hid (Below w.heap.size w wr) := Lib.hid (HB1.out.trans ((HB8.out.trans (HBQ.out.mono HB8.out.size)).mono HB1.out.size))
                have hte : ((en : Int) == (sn : Int)) = true := by rw [beq_iff_eq]; exact hes
                go_wp2_with fail
                go_ret
                exact ⟨rfl, HBF.out⟩
          · have hes : (en : Int) = (sn : Int) + 1 := by have := HEL.out; have := HSN.out; rw [hrl] at *; simp at *; omega
            first | subst hcut | skip
            go_wp2_with fail
            go_loopg [16, 142] sn (fun k s16 s142 wq => ∃ j : Nat, j ≤ sn ∧ k = sn - j ∧ s142 = .int .i64 (j : Nat) ∧ Below w8.heap.size w8 wq)
            case atStart => exact ⟨0, Nat.zero_le _, rfl, rfl, Below.refl _ _⟩
            case round =>
              obtain ⟨j, hj, hk2, rfl, hbq⟩ := hrel
              have HK2 := Lib.hid hk2
              have HBQ := Lib.hid hbq
              clear hk2 hbq
              have hj0 : (0 : Int) ≤ (j : Int) := Int.natCast_nonneg _
              by_cases hjn : j < sn
              · have hjn1 : (j : Int) < (sn : Int) := by omega
                have hjn2 : (j : Int) < (en : Int) := by omega
                obtain ⟨q, hq⟩ : ∃ q, fs[j]? = some q := ⟨_, List.getElem?_eq_getElem (by have := HSN.out; omega)⟩
                have hq2 : rl[j]? = some q := by
                  rw [hrl]
                  first
                    | exact hq
                    | rw [List.getElem?_append_left (by have := HSN.out; omega)]; exact hq
                obtain ⟨g5, rfl, k5⟩ := str_at HRW8.out hq
                obtain ⟨g6, xa, xn, xc, rfl, k6, hby⟩ := en_at HEN.out HES.out hq2
                have x5 := fun x => Later.cell (show wr.cell? ⟨g5, j, none⟩ = some (.string ⟨q.toArray⟩) by rw [World.cell?_of_block (HBQ.out.block _ (cellLt k5))]; exact k5) x
                have x6 := fun x => Later.cell (show wr.cell? ⟨g6, j * 3 + 2, none⟩ = some (.slice xa xn xc) by rw [World.cell?_of_block (HBQ.out.block _ (cellLt k6))]; exact k6) x
                obtain ⟨u, hu⟩ : ∃ t : ByteArray, t = ⟨q.toArray⟩ := ⟨_, rfl⟩
                have hcv : ∀ x : Later wr, (convert 42 9 (.slice xa xn xc)).run Tryd.prog x.1 = .ok (.string u) x.1 := fun x => by rw [hu]; exact convB ((hby.below HBQ.out).below x.2)
                rw [← hu] at x5
                have huu : (u.toList == u.toList) = true := by simp
                clear hq hq2 k5 k6 hby hu
                go_wp2_with fail
                refine wp_region_later (by kernel_rfl) (by kernel_rfl) ?_
                repeat (go_big_quiet_step (fail))
                refine wpQuiet_nil ?_; rintro w9 ⟨⟨_, hb9⟩, rfl⟩
                have HB9 := Lib.hid (HBQ.out.trans (hb9.mono HBQ.out.size))
                clear hb9 x5 x6 hcv
                go_wp2_with fail
                go_roundg (sn - (j + 1))
                case measure => rw [HK2.out]; omega
                case rel => exact ⟨j + 1, by omega, rfl, by simp, HB9.out⟩
              · have hjn1 : (sn : Int) ≤ (j : Int) := by omega
                have HBF : Hid (Below w.heap.size w wr) := Lib.hid (HB1.out.trans ((HB8.out.trans (HBQ.out.mono HB8.out.size)).mono HB1.out.size))
                have hte : ((en : Int) == (sn : Int)) = false := by rw [beq_eq_false_iff_ne]; omega
                have hq2 : rl[sn]? = some last := by rw [hrl, HSN.out, List.getElem?_append_right (Nat.le_refl _), Nat.sub_self]; rfl
                obtain ⟨g6, xa, xn, xc, rfl, k6, hby⟩ := en_at HEN.out HES.out hq2
                have x6 : wr.cell? ⟨g6, sn * 3 + 2, none⟩ = some (.slice xa xn xc) := by rw [World.cell?_of_block (HBQ.out.block _ (cellLt k6))]; exact k6
                have hcv := convB (hby.below HBQ.out)
                have hse : (sn : Int) < (en : Int) := by omega
                clear k6 hby hq2
                go_wp2_with fail
                go_ret
                exact ⟨rfl, HBF.out⟩
        · have h2' : 20 ≤ (i : Int) := by omega
          clear hgo
          have hbT : Below wr.heap.size wr (wr.alloc (.cells #[.int .i64 a2] 3)) := (Below.refl _ _).alloc (Nat.le_refl _) _
          have HKT := Lib.hid (HKW.out.below hbT)
          have HBT := Lib.hid (HBR.out.trans (hbT.mono HBR.out.size))
          have HTN : Hid (Ints (wr.alloc (.cells #[.int .i64 a2] 3)) (.slice (some ⟨wr.heap.size, 0, none⟩) 1 1) [a2]) := Lib.hid (OwnI.one wr a2 wr.heap.size (Nat.le_refl _)).nums
          clear hbT
          go_wp2_with fail
          refine (crash_any w1.heap.size _ st V own a1 _ [a2] _ HKT.out.ok HKT.out.hb 2 HKL.out.sd (by omega) HTN.out (by simp) (by rw [HKL.out.kp.room]; omega)).mono ?_
          rintro e w7 ⟨B7, V7, own7, rfl, hok7, hb7⟩
          obtain ⟨rl, wh, hrd, hrl⟩ := HKL.out.read a1 [a2]
          have hs7 := HKL.out.sd.crash a1 [a2]
          have hdl : (Fs.crashDir st (Fs.dirsOf st a1)).length ≤ 2 := by
            have h1 : Fs.crashDir st (Fs.dirsOf st a1) = [(Sg.nameB 7, 0)] := by unfold Fs.crashDir; rw [HKL.out.kp.chg, HKL.out.kp.sure]; simp
            rw [h1]; simp
          obtain ⟨st7, hst7⟩ : ∃ x, x = Fs.crash st a1 [a2] := ⟨_, rfl⟩
          rw [← hst7] at hrd hok7 hs7
          obtain ⟨b7, hb7e⟩ : ∃ x, x = (wr.alloc (.cells #[.int .i64 a2] 3)).heap.size := ⟨_, rfl⟩
          rw [← hb7e] at hok7
          have HRD := Lib.hid hrd
          have HRL := Lib.hid hrl
          have HS7 := Lib.hid (hs7.small (by omega))
          have HOK7 := Lib.hid hok7
          have HB7 := Lib.hid (HBT.out.trans (hb7.mono HBT.out.size))
          have HRW7 : Hid (w7.ownsRow w1.heap.size 9 1 (.slice sa sn sc) fs.length (strCells fs)) := Lib.hid (row_kept HKT.out.row (fun g hg => hb7.block g (HKT.out.row.lt g hg).2))
          have hbb7 : b7 ≤ w7.heap.size := by rw [hb7e]; exact hb7.size
          have hwb7 : w1.heap.size ≤ b7 := by rw [hb7e]; exact HBT.out.size
          have hbU : Below w7.heap.size w7 (w7.alloc (.cells #[.int .i64 7] 3)) := (Below.refl _ _).alloc (Nat.le_refl _) _
          have HB7U := Lib.hid (HB7.out.trans (hbU.mono HB7.out.size))
          have HOKU := Lib.hid (HOK7.out.kept (kept_below hbU))
          have HRWU := Lib.hid (row_kept HRW7.out (fun g hg => hbU.block g (HRW7.out.lt g hg).2))
          have HIU : Hid (Ints (w7.alloc (.cells #[.int .i64 7] 3)) (.slice (some ⟨w7.heap.size, 0, none⟩) 1 1) [7]) := Lib.hid (OwnI.one w7 7 w7.heap.size (Nat.le_refl _)).nums
          have hzU := hbU.size
          clear hrd hrl hs7 hdl hst7 hb7e hok7 hb7 hbU q1 q2
          go_wp2_with fail
          refine (segRead_any b7 B7 st7 V7 own7 _ [7] _ HOKU.out ((HEb.out.below HB7U.out).mono hwb7) (Nat.le_trans hbb7 hzU) HS7.out HIU.out (by simp)).mono ?_
          rintro e w8 ⟨hb8, lv, es, rfl, hEN, hes⟩
          rw [HRD.out] at hes ⊢
          obtain ⟨ea, ec, rfl⟩ := row_any hEN.row
          have HES := Lib.hid hes
          have HEN := Lib.hid hEN
          have HB8 := Lib.hid (HB7U.out.trans (hb8.mono HB7U.out.size))
          have HRW8 := Lib.hid (row_kept HRWU.out (fun g hg => hb8.block g (HRWU.out.lt g hg).2))
          have hel : es.length = rl.length := by
            have := congrArg List.length hes
            simpa using this
          obtain ⟨en, hen⟩ : ∃ x, x = es.length := ⟨_, rfl⟩
          rw [← hen] at HEN ⊢
          have HEL : Hid (en = rl.length) := Lib.hid (by rw [hen]; exact hel)
          have HNE := Lib.hid hen
          have hen0 : (0 : Int) ≤ (en : Int) := Int.natCast_nonneg _
          have hsn0 : (0 : Int) ≤ (sn : Int) := Int.natCast_nonneg _
          clear hb8 hEN hes hel hen
          rcases HRL.out with hrl | ⟨hcut, hrl⟩
          · have hes : (en : Int) = (sn : Int) := by have := HEL.out; have := HSN.out; rw [hrl] at *; omega
            go_wp2_with fail
            go_loopg [16, 142] sn (fun k s16 s142 wq => ∃ j : Nat, j ≤ sn ∧ k = sn - j ∧ s142 = .int .i64 (j : Nat) ∧ Below w8.heap.size w8 wq)
            case atStart => exact ⟨0, Nat.zero_le _, rfl, rfl, Below.refl _ _⟩
            case round =>
              obtain ⟨j, hj, hk2, rfl, hbq⟩ := hrel
              have HK2 := Lib.hid hk2
              have HBQ := Lib.hid hbq
              clear hk2 hbq
              have hj0 : (0 : Int) ≤ (j : Int) := Int.natCast_nonneg _
              by_cases hjn : j < sn
              · have hjn1 : (j : Int) < (sn : Int) := by omega
                have hjn2 : (j : Int) < (en : Int) := by omega
                obtain ⟨q, hq⟩ : ∃ q, fs[j]? = some q := ⟨_, List.getElem?_eq_getElem (by have := HSN.out; omega)⟩
                have hq2 : rl[j]? = some q := by
                  rw [hrl]
                  first
                    | exact hq
                    | rw [List.getElem?_append_left (by have := HSN.out; omega)]; exact hq
                obtain ⟨g5, rfl, k5⟩ := str_at HRW8.out hq
                obtain ⟨g6, xa, xn, xc, rfl, k6, hby⟩ := en_at HEN.out HES.out hq2
                have x5 := fun x => Later.cell (show wr.cell? ⟨g5, j, none⟩ = some (.string ⟨q.toArray⟩) by rw [World.cell?_of_block (HBQ.out.block _ (cellLt k5))]; exact k5) x
                have x6 := fun x => Later.cell (show wr.cell? ⟨g6, j * 3 + 2, none⟩ = some (.slice xa xn xc) by rw [World.cell?_of_block (HBQ.out.block _ (cellLt k6))]; exact k6) x
                obtain ⟨u, hu⟩ : ∃ t : ByteArray, t = ⟨q.toArray⟩ := ⟨_, rfl⟩
                have hcv : ∀ x : Later wr, (convert 42 9 (.slice xa xn xc)).run Tryd.prog x.1 = .ok (.string u) x.1 := fun x => by rw [hu]; exact convB ((hby.below HBQ.out).below x.2)
                rw [← hu] at x5
                have huu : (u.toList == u.toList) = true := by simp
                clear hq hq2 k5 k6 hby hu
                go_wp2_with fail
                refine wp_region_later (by kernel_rfl) (by kernel_rfl) ?_
                repeat (go_big_quiet_step (fail))
                refine wpQuiet_nil ?_; rintro w9 ⟨⟨_, hb9⟩, rfl⟩
                have HB9 := Lib.hid (HBQ.out.trans (hb9.mono HBQ.out.size))
                clear hb9 x5 x6 hcv
                go_wp2_with fail
                go_roundg (sn - (j + 1))
                case measure => rw [HK2.out]; omega
                case rel => exact ⟨j + 1, by omega, rfl, by simp, HB9.out⟩
              · have hjn1 : (sn : Int) ≤ (j : Int) := by omega
                have HBF : Hid (Below w.heap.size w wr) := Lib.hid (HB1.out.trans ((HB8.out.trans (HBQ.out.mono HB8.out.size)).mono HB1.out.size))
                have hte : ((en : Int) == (sn : Int)) = true := by rw [beq_iff_eq]; exact hes
                go_wp2_with fail
                go_ret
                exact ⟨rfl, HBF.out⟩
          · have hes : (en : Int) = (sn : Int) + 1 := by have := HEL.out; have := HSN.out; rw [hrl] at *; simp at *; omega
            first | subst hcut | skip
            go_wp2_with fail
            go_loopg [16, 142] sn (fun k s16 s142 wq => ∃ j : Nat, j ≤ sn ∧ k = sn - j ∧ s142 = .int .i64 (j : Nat) ∧ Below w8.heap.size w8 wq)
            case atStart => exact ⟨0, Nat.zero_le _, rfl, rfl, Below.refl _ _⟩
            case round =>
              obtain ⟨j, hj, hk2, rfl, hbq⟩ := hrel
              have HK2 := Lib.hid hk2
              have HBQ := Lib.hid hbq
              clear hk2 hbq
              have hj0 : (0 : Int) ≤ (j : Int) := Int.natCast_nonneg _
              by_cases hjn : j < sn
              · have hjn1 : (j : Int) < (sn : Int) := by omega
                have hjn2 : (j : Int) < (en : Int) := by omega
                obtain ⟨q, hq⟩ : ∃ q, fs[j]? = some q := ⟨_, List.getElem?_eq_getElem (by have := HSN.out; omega)⟩
                have hq2 : rl[j]? = some q := by
                  rw [hrl]
                  first
                    | exact hq
                    | rw [List.getElem?_append_left (by have := HSN.out; omega)]; exact hq
                obtain ⟨g5, rfl, k5⟩ := str_at HRW8.out hq
                obtain ⟨g6, xa, xn, xc, rfl, k6, hby⟩ := en_at HEN.out HES.out hq2
                have x5 := fun x => Later.cell (show wr.cell? ⟨g5, j, none⟩ = some (.string ⟨q.toArray⟩) by rw [World.cell?_of_block (HBQ.out.block _ (cellLt k5))]; exact k5) x
                have x6 := fun x => Later.cell (show wr.cell? ⟨g6, j * 3 + 2, none⟩ = some (.slice xa xn xc) by rw [World.cell?_of_block (HBQ.out.block _ (cellLt k6))]; exact k6) x
                obtain ⟨u, hu⟩ : ∃ t : ByteArray, t = ⟨q.toArray⟩ := ⟨_, rfl⟩
                have hcv : ∀ x : Later wr, (convert 42 9 (.slice xa xn xc)).run Tryd.prog x.1 = .ok (.string u) x.1 := fun x => by rw [hu]; exact convB ((hby.below HBQ.out).below x.2)
                rw [← hu] at x5
                have huu : (u.toList == u.toList) = true := by simp
                clear hq hq2 k5 k6 hby hu
                go_wp2_with fail
                refine wp_region_later (by kernel_rfl) (by kernel_rfl) ?_
                repeat (go_big_quiet_step (fail))
                refine wpQuiet_nil ?_; rintro w9 ⟨⟨_, hb9⟩, rfl⟩
                have HB9 := Lib.hid (HBQ.out.trans (hb9.mono HBQ.out.size))
                clear hb9 x5 x6 hcv
                go_wp2_with fail
                go_roundg (sn - (j + 1))
                case measure => rw [HK2.out]; omega
                case rel => exact ⟨j + 1, by omega, rfl, by simp, HB9.out⟩
              · have hjn1 : (sn : Int) ≤ (j : Int) := by omega
                have HBF : Hid (Below w.heap.size w wr) := Lib.hid (HB1.out.trans ((HB8.out.trans (HBQ.out.mono HB8.out.size)).mono HB1.out.size))
                have hte : ((en : Int) == (sn : Int)) = false := by rw [beq_eq_false_iff_ne]; omega
                have hq2 : rl[sn]? = some last := by rw [hrl, HSN.out, List.getElem?_append_right (Nat.le_refl _), Nat.sub_self]; rfl
                obtain ⟨g6, xa, xn, xc, rfl, k6, hby⟩ := en_at HEN.out HES.out hq2
                have x6 : wr.cell? ⟨g6, sn * 3 + 2, none⟩ = some (.slice xa xn xc) := by rw [World.cell?_of_block (HBQ.out.block _ (cellLt k6))]; exact k6
                have hcv := convB (hby.below HBQ.out)
                have hse : (sn : Int) < (en : Int) := by omega
                clear k6 hby hq2
                go_wp2_with fail
                go_ret
                exact ⟨rfl, HBF.out⟩
      · have h1' : (ps.length : Int) ≤ (i : Int) := by omega
        clear hgo
        have hbT : Below wr.heap.size wr (wr.alloc (.cells #[.int .i64 a2] 3)) := (Below.refl _ _).alloc (Nat.le_refl _) _
        have HKT := Lib.hid (HKW.out.below hbT)
        have HBT := Lib.hid (HBR.out.trans (hbT.mono HBR.out.size))
        have HTN : Hid (Ints (wr.alloc (.cells #[.int .i64 a2] 3)) (.slice (some ⟨wr.heap.size, 0, none⟩) 1 1) [a2]) := Lib.hid (OwnI.one wr a2 wr.heap.size (Nat.le_refl _)).nums
        clear hbT
        go_wp2_with fail
        refine (crash_any w1.heap.size _ st V own a1 _ [a2] _ HKT.out.ok HKT.out.hb 2 HKL.out.sd (by omega) HTN.out (by simp) (by rw [HKL.out.kp.room]; omega)).mono ?_
        rintro e w7 ⟨B7, V7, own7, rfl, hok7, hb7⟩
        obtain ⟨rl, wh, hrd, hrl⟩ := HKL.out.read a1 [a2]
        have hs7 := HKL.out.sd.crash a1 [a2]
        have hdl : (Fs.crashDir st (Fs.dirsOf st a1)).length ≤ 2 := by
          have h1 : Fs.crashDir st (Fs.dirsOf st a1) = [(Sg.nameB 7, 0)] := by unfold Fs.crashDir; rw [HKL.out.kp.chg, HKL.out.kp.sure]; simp
          rw [h1]; simp
        obtain ⟨st7, hst7⟩ : ∃ x, x = Fs.crash st a1 [a2] := ⟨_, rfl⟩
        rw [← hst7] at hrd hok7 hs7
        obtain ⟨b7, hb7e⟩ : ∃ x, x = (wr.alloc (.cells #[.int .i64 a2] 3)).heap.size := ⟨_, rfl⟩
        rw [← hb7e] at hok7
        have HRD := Lib.hid hrd
        have HRL := Lib.hid hrl
        have HS7 := Lib.hid (hs7.small (by omega))
        have HOK7 := Lib.hid hok7
        have HB7 := Lib.hid (HBT.out.trans (hb7.mono HBT.out.size))
        have HRW7 : Hid (w7.ownsRow w1.heap.size 9 1 (.slice sa sn sc) fs.length (strCells fs)) := Lib.hid (row_kept HKT.out.row (fun g hg => hb7.block g (HKT.out.row.lt g hg).2))
        have hbb7 : b7 ≤ w7.heap.size := by rw [hb7e]; exact hb7.size
        have hwb7 : w1.heap.size ≤ b7 := by rw [hb7e]; exact HBT.out.size
        have hbU : Below w7.heap.size w7 (w7.alloc (.cells #[.int .i64 7] 3)) := (Below.refl _ _).alloc (Nat.le_refl _) _
        have HB7U := Lib.hid (HB7.out.trans (hbU.mono HB7.out.size))
        have HOKU := Lib.hid (HOK7.out.kept (kept_below hbU))
        have HRWU := Lib.hid (row_kept HRW7.out (fun g hg => hbU.block g (HRW7.out.lt g hg).2))
        have HIU : Hid (Ints (w7.alloc (.cells #[.int .i64 7] 3)) (.slice (some ⟨w7.heap.size, 0, none⟩) 1 1) [7]) := Lib.hid (OwnI.one w7 7 w7.heap.size (Nat.le_refl _)).nums
        have hzU := hbU.size
        clear hrd hrl hs7 hdl hst7 hb7e hok7 hb7 hbU q1 q2
        go_wp2_with fail
        refine (segRead_any b7 B7 st7 V7 own7 _ [7] _ HOKU.out ((HEb.out.below HB7U.out).mono hwb7) (Nat.le_trans hbb7 hzU) HS7.out HIU.out (by simp)).mono ?_
        rintro e w8 ⟨hb8, lv, es, rfl, hEN, hes⟩
        rw [HRD.out] at hes ⊢
        obtain ⟨ea, ec, rfl⟩ := row_any hEN.row
        have HES := Lib.hid hes
        have HEN := Lib.hid hEN
        have HB8 := Lib.hid (HB7U.out.trans (hb8.mono HB7U.out.size))
        have HRW8 := Lib.hid (row_kept HRWU.out (fun g hg => hb8.block g (HRWU.out.lt g hg).2))
        have hel : es.length = rl.length := by
          have := congrArg List.length hes
          simpa using this
        obtain ⟨en, hen⟩ : ∃ x, x = es.length := ⟨_, rfl⟩
        rw [← hen] at HEN ⊢
        have HEL : Hid (en = rl.length) := Lib.hid (by rw [hen]; exact hel)
        have HNE := Lib.hid hen
        have hen0 : (0 : Int) ≤ (en : Int) := Int.natCast_nonneg _
        have hsn0 : (0 : Int) ≤ (sn : Int) := Int.natCast_nonneg _
        clear hb8 hEN hes hel hen
        rcases HRL.out with hrl | ⟨hcut, hrl⟩
        · have hes : (en : Int) = (sn : Int) := by have := HEL.out; have := HSN.out; rw [hrl] at *; omega
          go_wp2_with fail
          go_loopg [16, 142] sn (fun k s16 s142 wq => ∃ j : Nat, j ≤ sn ∧ k = sn - j ∧ s142 = .int .i64 (j : Nat) ∧ Below w8.heap.size w8 wq)
          case atStart => exact ⟨0, Nat.zero_le _, rfl, rfl, Below.refl _ _⟩
          case round =>
            obtain ⟨j, hj, hk2, rfl, hbq⟩ := hrel
            have HK2 := Lib.hid hk2
            have HBQ := Lib.hid hbq
            clear hk2 hbq
            have hj0 : (0 : Int) ≤ (j : Int) := Int.natCast_nonneg _
            by_cases hjn : j < sn
            · have hjn1 : (j : Int) < (sn : Int) := by omega
              have hjn2 : (j : Int) < (en : Int) := by omega
              obtain ⟨q, hq⟩ : ∃ q, fs[j]? = some q := ⟨_, List.getElem?_eq_getElem (by have := HSN.out; omega)⟩
              have hq2 : rl[j]? = some q := by
                rw [hrl]
                first
                  | exact hq
                  | rw [List.getElem?_append_left (by have := HSN.out; omega)]; exact hq
              obtain ⟨g5, rfl, k5⟩ := str_at HRW8.out hq
              obtain ⟨g6, xa, xn, xc, rfl, k6, hby⟩ := en_at HEN.out HES.out hq2
              have x5 := fun x => Later.cell (show wr.cell? ⟨g5, j, none⟩ = some (.string ⟨q.toArray⟩) by rw [World.cell?_of_block (HBQ.out.block _ (cellLt k5))]; exact k5) x
              have x6 := fun x => Later.cell (show wr.cell? ⟨g6, j * 3 + 2, none⟩ = some (.slice xa xn xc) by rw [World.cell?_of_block (HBQ.out.block _ (cellLt k6))]; exact k6) x
              obtain ⟨u, hu⟩ : ∃ t : ByteArray, t = ⟨q.toArray⟩ := ⟨_, rfl⟩
              have hcv : ∀ x : Later wr, (convert 42 9 (.slice xa xn xc)).run Tryd.prog x.1 = .ok (.string u) x.1 := fun x => by rw [hu]; exact convB ((hby.below HBQ.out).below x.2)
              rw [← hu] at x5
              have huu : (u.toList == u.toList) = true := by simp
              clear hq hq2 k5 k6 hby hu
              go_wp2_with fail
              refine wp_region_later (by kernel_rfl) (by kernel_rfl) ?_
              repeat (go_big_quiet_step (fail))
              refine wpQuiet_nil ?_; rintro w9 ⟨⟨_, hb9⟩, rfl⟩
              have HB9 := Lib.hid (HBQ.out.trans (hb9.mono HBQ.out.size))
              clear hb9 x5 x6 hcv
              go_wp2_with fail
              go_roundg (sn - (j + 1))
              case measure => rw [HK2.out]; omega
              case rel => exact ⟨j + 1, by omega, rfl, by simp, HB9.out⟩
            · have hjn1 : (sn : Int) ≤ (j : Int) := by omega
              have HBF : Hid (Below w.heap.size w wr) := Lib.hid (HB1.out.trans ((HB8.out.trans (HBQ.out.mono HB8.out.size)).mono HB1.out.size))
              have hte : ((en : Int) == (sn : Int)) = true := by rw [beq_iff_eq]; exact hes
              go_wp2_with fail
              go_ret
              exact ⟨rfl, HBF.out⟩
        · have hes : (en : Int) = (sn : Int) + 1 := by have := HEL.out; have := HSN.out; rw [hrl] at *; simp at *; omega
          first | subst hcut | skip
          go_wp2_with fail
          go_loopg [16, 142] sn (fun k s16 s142 wq => ∃ j : Nat, j ≤ sn ∧ k = sn - j ∧ s142 = .int .i64 (j : Nat) ∧ Below w8.heap.size w8 wq)
          case atStart => exact ⟨0, Nat.zero_le _, rfl, rfl, Below.refl _ _⟩
          case round =>
            obtain ⟨j, hj, hk2, rfl, hbq⟩ := hrel
            have HK2 := Lib.hid hk2
            have HBQ := Lib.hid hbq
            clear hk2 hbq
            have hj0 : (0 : Int) ≤ (j : Int) := Int.natCast_nonneg _
            by_cases hjn : j < sn
            · have hjn1 : (j : Int) < (sn : Int) := by omega
              have hjn2 : (j : Int) < (en : Int) := by omega
              obtain ⟨q, hq⟩ : ∃ q, fs[j]? = some q := ⟨_, List.getElem?_eq_getElem (by have := HSN.out; omega)⟩
              have hq2 : rl[j]? = some q := by
                rw [hrl]
                first
                  | exact hq
                  | rw [List.getElem?_append_left (by have := HSN.out; omega)]; exact hq
              obtain ⟨g5, rfl, k5⟩ := str_at HRW8.out hq
              obtain ⟨g6, xa, xn, xc, rfl, k6, hby⟩ := en_at HEN.out HES.out hq2
              have x5 := fun x => Later.cell (show wr.cell? ⟨g5, j, none⟩ = some (.string ⟨q.toArray⟩) by rw [World.cell?_of_block (HBQ.out.block _ (cellLt k5))]; exact k5) x
              have x6 := fun x => Later.cell (show wr.cell? ⟨g6, j * 3 + 2, none⟩ = some (.slice xa xn xc) by rw [World.cell?_of_block (HBQ.out.block _ (cellLt k6))]; exact k6) x
              obtain ⟨u, hu⟩ : ∃ t : ByteArray, t = ⟨q.toArray⟩ := ⟨_, rfl⟩
              have hcv : ∀ x : Later wr, (convert 42 9 (.slice xa xn xc)).run Tryd.prog x.1 = .ok (.string u) x.1 := fun x => by rw [hu]; exact convB ((hby.below HBQ.out).below x.2)
              rw [← hu] at x5
              have huu : (u.toList == u.toList) = true := by simp
              clear hq hq2 k5 k6 hby hu
              go_wp2_with fail
              refine wp_region_later (by kernel_rfl) (by kernel_rfl) ?_
              repeat (go_big_quiet_step (fail))
              refine wpQuiet_nil ?_; rintro w9 ⟨⟨_, hb9⟩, rfl⟩
              have HB9 := Lib.hid (HBQ.out.trans (hb9.mono HBQ.out.size))
              clear hb9 x5 x6 hcv
              go_wp2_with fail
              go_roundg (sn - (j + 1))
              case measure => rw [HK2.out]; omega
              case rel => exact ⟨j + 1, by omega, rfl, by simp, HB9.out⟩
            · have hjn1 : (sn : Int) ≤ (j : Int) := by omega
              have HBF : Hid (Below w.heap.size w wr) := Lib.hid (HB1.out.trans ((HB8.out.trans (HBQ.out.mono HB8.out.size)).mono HB1.out.size))
              have hte : ((en : Int) == (sn : Int)) = false := by rw [beq_eq_false_iff_ne]; omega
              have hq2 : rl[sn]? = some last := by rw [hrl, HSN.out, List.getElem?_append_right (Nat.le_refl _), Nat.sub_self]; rfl
              obtain ⟨g6, xa, xn, xc, rfl, k6, hby⟩ := en_at HEN.out HES.out hq2
              have x6 : wr.cell? ⟨g6, sn * 3 + 2, none⟩ = some (.slice xa xn xc) := by rw [World.cell?_of_block (HBQ.out.block _ (cellLt k6))]; exact k6
              have hcv := convB (hby.below HBQ.out)
              have hse : (sn : Int) < (en : Int) := by omega
              clear k6 hby hq2
              go_wp2_with fail
              go_ret
              exact ⟨rfl, HBF.out⟩
end Go.Proofs.YtcinagglbkbmkaaDoor
namespace Go.Proofs.YtcinagglbkbmkaaDoor
set_option linter.unusedSimpArgs false
set_option linter.unusedVariables false
open Go Go.RowKit

theorem ints_reads {w : World} {P : Nat → Prop} {a : Option Addr} {cap : Nat} {l : List Int} (h : Reads w P (.seq 1 (l.map .int)) [.slice a l.length cap]) : Ints w (.slice a l.length cap) l := by
  obtain ⟨a', cap', e, hs⟩ := h.seq_inv
  simp only [List.length_map, List.cons.injEq, and_true, Value.slice.injEq] at e
  obtain ⟨rfl, -, rfl⟩ := e
  refine ⟨a, cap, rfl, fun i x hi => ?_⟩
  obtain ⟨g, o, cs, e, -, hg, hl, hc, hr⟩ := hs.at i (.int x) (by rw [List.getElem?_map, hi]; rfl)
  have e2 := hr.int_inv
  subst e2
  refine ⟨g, o, e, hg, ?_⟩
  have := hc 0 (.int .i64 x) rfl
  rw [Nat.zero_add, Nat.mul_one, Nat.add_zero] at this
  exact this
theorem ints_reads1 {w : World} {P : Nat → Prop} {l : List Int} {cs : List Value} (h : Reads w P (.seq 1 (l.map .int)) cs) : ∃ sv, cs = [sv] ∧ Ints w sv l := by
  obtain ⟨a, cap, e, hs⟩ := h.seq_inv
  rw [List.length_map] at e
  subst e
  exact ⟨_, rfl, ints_reads h⟩
theorem cellsInt : Tryd.prog.cellsOf 3 = 1 := by kernel_rfl
def I64 (z : Int) : Prop := -9223372036854775808 ≤ z ∧ z ≤ 9223372036854775807
theorem i64_of {n : Int} (h : (Lit.int .i64 n).wf = true) : I64 n := by
  have e1 : IntKind.i64.min = -9223372036854775808 := by decide
  have e2 : IntKind.i64.max = 9223372036854775807 := by decide
  simp [Lit.wf, e1, e2] at h
  exact h
theorem hasT_intsw : ∀ {ds : List D}, HasTe Tryd.prog 3 ds → ∃ l : List Int, ds = l.map .int ∧ ∀ z ∈ l, I64 z
  | [], _ => ⟨[], rfl, fun z hz => by cases hz⟩
  | d :: ds, h => by
    unfold HasTe at h
    obtain ⟨n, rfl, hn⟩ := h.1.int Tryd.underlying3
    obtain ⟨l, rfl, hl⟩ := hasT_intsw h.2
    exact ⟨n :: l, rfl, fun z hz => by rcases List.mem_cons.1 hz with rfl | hz; exact i64_of hn; exact hl z hz⟩
def intTypes : List TypeId := [23, 3]
theorem intNice : niceB Tryd.prog intTypes = true := by kernel_rfl
section
set_option maxRecDepth 20000
variable {H : Type} {enc : TypeId × Value → H} {W : World} {v : Value} {x : DataW H} {ps : List MemPlace} {sp : Nat → Bool} {r : Reach} {base : Nat}
theorem ints_argw (hv : Value.okWide Tryd.prog W r base 23 v) (h : DataW.Trod enc Tryd.prog W 0 sp true 23 v x ps) : ∃ l : List Int, Ints W v l ∧ l.length ≤ maxLen ∧ ∀ z ∈ l, I64 z := by
  obtain ⟨a0, len, cap, rfl⟩ := Go.WideShapes.okWide_slice Tryd.underlying23 hv
  obtain ⟨d, hr, ht⟩ := open_arg intNice (by simp [intTypes]) h
  obtain ⟨ds, rfl, hl, he⟩ := ht.seq Tryd.underlying23
  obtain ⟨l, rfl, hz⟩ := hasT_intsw he
  rw [cellsInt] at hr
  obtain ⟨sv, e, h1⟩ := ints_reads1 hr
  have e : [Value.slice a0 len cap] = [sv] := e
  simp only [List.cons.injEq, and_true] at e
  subst e
  exact ⟨l, h1, by simpa using hl, hz⟩
end
end Go.Proofs.YtcinagglbkbmkaaDoor
