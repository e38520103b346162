/-
  Manifests: Save, walked (whole). 'ManifestLast': what holds from round to round (plain). Manifests: Clean, walked. 'ManifestCleans': what holds from round to round (plain). Manifests: Decode, walked.
-/
import Derived.Test.YtcinagglbkbmkaaGreatDoorZb11
import Derived.Test.YtcinagglbkbmkaaGreatDoorZb10
import Derived.Lib.SplitLaws
namespace Go.Proofs.YtcinagglbkbmkaaGreatDoor
set_option linter.unusedSimpArgs false
set_option linter.unusedVariables false
open Go Go.RowKit
open Go.Maps Go.WideMaps

theorem OwnB.bytesIn {w : World} {base : Nat} {own : Nat → Tag} {v : Value} {l : List UInt8} (h : OwnB w base v l) (hl : 0 < l.length) (ho : ∀ k, base ≤ k → own k = .other) : BytesIn w own v l := by
  obtain ⟨g, c, hv⟩ := row_form h hl
  subst hv
  have hlt := h.lt g rfl
  obtain ⟨_, c9, e9, hc9⟩ := h.byts.form
  have hcap : l.length ≤ c := by simp only [Value.slice.injEq] at e9; omega
  refine ⟨g, 0, c, rfl, hcap, hlt.2, ho g hlt.1, fun i x hx => ?_⟩
  obtain ⟨b, off, e1, e2, e3⟩ := h.byts.at hx
  cases e1
  exact e3
theorem BytesIn.others {w w' : World} {own own' : Nat → Tag} {v : Value} {l : List UInt8} (h : BytesIn w own v l) (ho : Others own own' w w') : BytesIn w' own' v l := by
  obtain ⟨g, o, c, h1, hc, h2, h3, h4⟩ := h
  obtain ⟨k1, k2⟩ := ho.2 g h2 h3
  exact ⟨g, o, c, h1, hc, Nat.lt_of_lt_of_le h2 ho.1, k1, fun i x hi => by rw [World.cell?_of_block k2]; exact h4 i x hi⟩
theorem enters_S1 (cap : Array Value) (w : World) : Sem.run Tryz.prog (callFunc 70 cap) w = .ok (.enter 70 cap) w := by kernel_rfl
theorem enters_S2 (cap : Array Value) (w : World) : Sem.run Tryz.prog (callFunc 72 cap) w = .ok (.enter 72 cap) w := by kernel_rfl
theorem enters_S3 (cap : Array Value) (w : World) : Sem.run Tryz.prog (callFunc 73 cap) w = .ok (.enter 73 cap) w := by kernel_rfl
theorem enters_S4 (cap : Array Value) (w : World) : Sem.run Tryz.prog (callFunc 74 cap) w = .ok (.enter 74 cap) w := by kernel_rfl
theorem enters_S5 (cap : Array Value) (w : World) : Sem.run Tryz.prog (callFunc 76 cap) w = .ok (.enter 76 cap) w := by kernel_rfl
theorem enters_S6 (cap : Array Value) (w : World) : Sem.run Tryz.prog (callFunc 78 cap) w = .ok (.enter 78 cap) w := by kernel_rfl
def saveVs (B fb bb : Nat) : List FnV :=
  [⟨.func (.func 70) #[] #[.pointer (some ⟨fb, 0, none⟩)], 70, #[], #[.pointer (some ⟨fb, 0, none⟩)]⟩,
   ⟨.func (.func 72) #[] #[.pointer (some ⟨fb, 0, none⟩)], 72, #[], #[.pointer (some ⟨fb, 0, none⟩)]⟩,
   ⟨.func (.func 73) #[] #[.pointer (some ⟨fb, 0, none⟩), .pointer (some ⟨bb, 0, none⟩)], 73, #[], #[.pointer (some ⟨fb, 0, none⟩), .pointer (some ⟨bb, 0, none⟩)]⟩,
   ⟨.func (.func 74) #[] #[.pointer (some ⟨fb, 0, none⟩)], 74, #[], #[.pointer (some ⟨fb, 0, none⟩)]⟩,
   ⟨.func (.func 76) #[] #[.pointer (some ⟨fb, 0, none⟩)], 76, #[], #[.pointer (some ⟨fb, 0, none⟩)]⟩,
   ⟨.func (.func 78) #[.pointer (some ⟨B, 0, none⟩)] #[], 78, #[.pointer (some ⟨B, 0, none⟩)], #[]⟩]
theorem saveVs_run (B fb bb : Nat) : ∀ (j : Nat) x, (saveVs B fb bb)[j]? = some x → x.val = .func (.func x.k) x.fst x.cap ∧ ∀ w, Sem.run Tryz.prog (callFunc x.k (x.fst ++ x.cap)) w = .ok (.enter x.k (x.fst ++ x.cap)) w
  | 0, x, h => by simp [saveVs] at h; subst h; exact ⟨rfl, fun w => enters_S1 _ w⟩
  | 1, x, h => by simp [saveVs] at h; subst h; exact ⟨rfl, fun w => enters_S2 _ w⟩
  | 2, x, h => by simp [saveVs] at h; subst h; exact ⟨rfl, fun w => enters_S3 _ w⟩
  | 3, x, h => by simp [saveVs] at h; subst h; exact ⟨rfl, fun w => enters_S4 _ w⟩
  | 4, x, h => by simp [saveVs] at h; subst h; exact ⟨rfl, fun w => enters_S5 _ w⟩
  | 5, x, h => by simp [saveVs] at h; subst h; exact ⟨rfl, fun w => enters_S6 _ w⟩
  | j + 6, x, h => by simp [saveVs] at h
/-- What stands between the steps. -/
def SaveJ (k j : Nat) (st : Fs.St) : Prop := Fs.Sound st (k + 2 * j) ∧ Fs.PlanOK st
theorem saveJ_next (k : Nat) (b : List UInt8) : ∀ (j : Nat) f st, (Mf.steps b)[j]? = some f → SaveJ k j st → SaveJ k (j + 1) (f st).1
  | 0, f, st, h, hj => by
    simp [Mf.steps] at h; subst h
    unfold Mf.clear
    split
    · exact ⟨hj.1.remove _, hj.2.of (Fs.plan_remove _ _)⟩
    · exact ⟨hj.1.mono (by omega), hj.2⟩
  | 1, f, st, h, hj => by simp [Mf.steps] at h; subst h; exact ⟨hj.1.create _, hj.2.of (Fs.plan_create _ _)⟩
  | 2, f, st, h, hj => by simp [Mf.steps] at h; subst h; exact ⟨(hj.1.append _ _).mono (by omega), hj.2.of (Fs.plan_append _ _ _)⟩
  | 3, f, st, h, hj => by simp [Mf.steps] at h; subst h; exact ⟨(hj.1.sync _).mono (by omega), hj.2.of (Fs.plan_sync _ _)⟩
  | 4, f, st, h, hj => by simp [Mf.steps] at h; subst h; exact ⟨hj.1.rename _ _, hj.2.of (Fs.plan_rename _ _ _)⟩
  | 5, f, st, h, hj => by simp [Mf.steps] at h; subst h; exact ⟨hj.1.syncDir.mono (by omega), hj.2.of (Fs.plan_syncDir _)⟩
  | j + 6, f, st, h, hj => by simp [Mf.steps] at h
theorem first_sound {k n : Nat} : ∀ (fs : List (Fs.St → Fs.St × Int)) (j : Nat) (st : Fs.St), (∀ (i : Nat) f st, fs[i]? = some f → SaveJ k (j + i) st → SaveJ k (j + i + 1) (f st).1) → j + fs.length ≤ n → SaveJ k j st → SaveJ k n (Fs.first fs st).1
  | [], j, st, _, hn, h => ⟨h.1.mono (by simp at hn; omega), h.2⟩
  | f :: r, j, st, hf, hn, h => by
    have h1 := hf 0 f st rfl h
    rw [Fs.first]
    rw [List.length_cons] at hn
    split
    · exact ⟨h1.1.mono (by omega), h1.2⟩
    · exact first_sound r (j + 1) _ (fun i g s hg hs => by
        have := hf (i + 1) g s (by simpa using hg) (by rw [show j + (i + 1) = j + 1 + i by omega]; exact hs)
        rw [show j + (i + 1) + 1 = j + 1 + i + 1 by omega] at this
        exact this) (by omega) h1
theorem save_sound {st : Fs.St} {k : Nat} (hS : Fs.Sound st k) (hP : Fs.PlanOK st) (v : Int) (l : List Int) : Fs.Sound (Mf.save st v l).1 (k + 12) ∧ Fs.PlanOK (Mf.save st v l).1 := by
  unfold Mf.save
  split
  · exact ⟨hS.mono (by omega), hP⟩
  · exact first_sound (n := 6) _ 0 st (fun i f s hf hs => by
      rw [Nat.zero_add] at hs ⊢
      exact saveJ_next k _ i f s hf hs) (by simp [Mf.steps]) ⟨hS, hP⟩
theorem enc_pos (v : Int) (l : List Int) : 0 < (Mf.enc v l).length := by unfold Mf.enc; rw [Fr.bytes_len]; omega
set_option maxHeartbeats 1000000 in
set_option maxRecDepth 100000 in
theorem save_any (base B : Nat) (st : Fs.St) (V : FsV) (own : Nat → Tag) (ver : Int) (sv : Value) (l : List Int) (w : World) (h : FsOK base B st V own w) (hE : SgEnv base w) (hbase : base ≤ w.heap.size) (k : Nat) (hS : Fs.Sound st k) (hk : k ≤ 600000) (hP : Fs.PlanOK st)
    (hN : Nums w sv l) (hl : l.length ≤ 1000000000) :
    Calls Tryz.prog 23 #[.pointer (some ⟨B, 0, none⟩), .agg #[.int .i64 ver, sv]] w fun e w' => e = .returned (.int .i64 (Mf.save st ver l).2) ∧ OpPost base B (Mf.save st ver l).1 own w w' := by
  obtain ⟨sa, sc, rfl⟩ := hN.form
  have e1 : (w.alloc (.cells #[.pointer (some ⟨B, 0, none⟩)] 43)).heap.size = w.heap.size + 1 := by simp
  have hb0 : Below w.heap.size w ((w.alloc (.cells #[.pointer (some ⟨B, 0, none⟩)] 43)).alloc (.cells #[.int .i64 ver, .slice sa l.length sc] 24)) := ((Below.refl _ _).alloc (Nat.le_refl _) _).alloc (by simp) _
  have hr0 := heap_new (w.alloc (.cells #[.pointer (some ⟨B, 0, none⟩)] 43)) (.cells #[.int .i64 ver, .slice sa l.length sc] 24)
  rw [e1] at hr0
  have hf0 : ((w.alloc (.cells #[.pointer (some ⟨B, 0, none⟩)] 43)).alloc (.cells #[.int .i64 ver, .slice sa l.length sc] 24)).cell? ⟨w.heap.size, 0, none⟩ = some (.pointer (some ⟨B, 0, none⟩)) := by
    rw [World.cell?_of_block (Lib.alloc_old _ _ _ (by simp))]
    exact cell_new w _ _ 0 _ rfl
  have y0 : ((w.alloc (.cells #[.pointer (some ⟨B, 0, none⟩)] 43)).alloc (.cells #[.int .i64 ver, .slice sa l.length sc] 24)).cell? ⟨w.heap.size + 1, 0, none⟩ = some (.int .i64 ver) := root_cell hr0 0 _ rfl
  have y1 : ((w.alloc (.cells #[.pointer (some ⟨B, 0, none⟩)] 43)).alloc (.cells #[.int .i64 ver, .slice sa l.length sc] 24)).cell? ⟨w.heap.size + 1, 1, none⟩ = some (.slice sa l.length sc) := root_cell hr0 1 _ rfl
  have H := Lib.hid h
  have HE := Lib.hid hE
  have HN := Lib.hid hN
  have HB0 := Lib.hid hb0
  have HF0 := Lib.hid hf0
  clear h hE hN hb0 hr0 e1 hf0
  go_enter Tryz.func23, Tryz.ntmps23
  go_wp2_with fail
  refine (mencode_any ver _ l _ base (HE.out.below (HB0.out.mono hbase)) (Nat.le_trans hbase HB0.out.size) (HN.out.below HB0.out) hl).mono ?_
  rintro e w1 ⟨hb1, hres⟩
  have HB1 := Lib.hid (HB0.out.trans (hb1.mono HB0.out.size))
  have H1 := Lib.hid (H.out.kept (kept_below HB1.out))
  have hf1 : w1.cell? ⟨w.heap.size, 0, none⟩ = some (.pointer (some ⟨B, 0, none⟩)) := by rw [hb1.cell (cellLt HF0.out)]; exact HF0.out
  have hz1 : w.heap.size + 2 ≤ w1.heap.size := by have := hb1.size; simp at this; omega
  clear hb1 y0 y1
  rcases hres with ⟨hg, b, rfl, hob⟩ | ⟨hg, rfl⟩
  · obtain ⟨ba, bn, bc, hbv, HBN⟩ := OwnB.form3 hob
    subst hbv
    have HOB := Lib.hid hob
    have HG := Lib.hid hg
    clear hg hob
    have hf2 : (w1.alloc (.cells #[.slice ba bn bc] 25)).cell? ⟨w.heap.size, 0, none⟩ = some (.pointer (some ⟨B, 0, none⟩)) := by rw [World.cell?_of_block (Lib.alloc_old _ _ _ (show w.heap.size < w1.heap.size by omega))]; exact hf1
    have hbb2 : (w1.alloc (.cells #[.slice ba bn bc] 25)).cell? ⟨w1.heap.size, 0, none⟩ = some (.slice ba bn bc) := cell_new _ _ _ 0 _ rfl
    have hb12 : Below w1.heap.size w1 ((w1.alloc (.cells #[.slice ba bn bc] 25)).alloc (.cells ((saveVs B w.heap.size w1.heap.size).map (·.val)).toArray 33)) := ((Below.refl _ _).alloc (Nat.le_refl _) _).alloc (by simp) _
    have HK12 := Lib.hid (H1.out.kept (kept_below hb12))
    have hcell : ∀ (j : Nat) x, (saveVs B w.heap.size w1.heap.size)[j]? = some x → ((w1.alloc (.cells #[.slice ba bn bc] 25)).alloc (.cells ((saveVs B w.heap.size w1.heap.size).map (·.val)).toArray 33)).cell? ⟨w1.heap.size + 1, j, none⟩ = some x.val ∧ x.val = .func (.func x.k) x.fst x.cap ∧ ∀ w, Sem.run Tryz.prog (callFunc x.k (x.fst ++ x.cap)) w = .ok (.enter x.k (x.fst ++ x.cap)) w := fun j x hx => by
      refine ⟨?_, saveVs_run B _ _ j x hx⟩
      have e2 : (w1.alloc (.cells #[.slice ba bn bc] 25)).heap.size = w1.heap.size + 1 := by simp
      rw [← e2]
      exact cell_new _ _ _ j _ (by simp [hx])
    have HBY : Hid (BytesIn ((w1.alloc (.cells #[.slice ba bn bc] 25)).alloc (.cells ((saveVs B w.heap.size w1.heap.size).map (·.val)).toArray 33)) own (.slice ba bn bc) (Mf.enc ver l)) :=
      Lib.hid (((HOB.out.bytesIn (enc_pos ver l) (fun k hk => H.out.fresh k (by simp at hk; omega))).kept (kept_below (T := (· ≠ .other)) hb12) (by simp)))
    have HFB : Hid (((w1.alloc (.cells #[.slice ba bn bc] 25)).alloc (.cells ((saveVs B w.heap.size w1.heap.size).map (·.val)).toArray 33)).cell? ⟨w.heap.size, 0, none⟩ = some (.pointer (some ⟨B, 0, none⟩))) := by
      rw [World.cell?_of_block (Lib.alloc_old _ _ _ (by simp; omega))]; exact Lib.hid hf2
    have HBB : Hid (((w1.alloc (.cells #[.slice ba bn bc] 25)).alloc (.cells ((saveVs B w.heap.size w1.heap.size).map (·.val)).toArray 33)).cell? ⟨w1.heap.size, 0, none⟩ = some (.slice ba bn bc)) := by
      rw [World.cell?_of_block (Lib.alloc_old _ _ _ (by simp))]; exact Lib.hid hbb2
    have HFIRST := Lib.hid (first_any base B (Mf.steps (Mf.enc ver l)) (saveVs B w.heap.size w1.heap.size) (w1.heap.size + 1) (SaveJ k) st V own _ HK12.out ⟨hS, hP⟩ rfl (by simp [Mf.steps]) (by simp; try omega) (H.out.fresh _ (by omega)) hcell
      (by
        intro j f x hf hx st' V' own' w' hok hJ hO
        have hfb : w'.cell? ⟨w.heap.size, 0, none⟩ = some (.pointer (some ⟨B, 0, none⟩)) := by
          rw [World.cell?_of_block (hO.2 w.heap.size (by simp; omega) (H.out.fresh _ (Nat.le_refl _))).2]; exact HFB.out
        have hbb : w'.cell? ⟨w1.heap.size, 0, none⟩ = some (.slice ba bn bc) := by
          rw [World.cell?_of_block (hO.2 w1.heap.size (by simp; omega) (H.out.fresh _ (by omega))).2]; exact HBB.out
        have hbw : base ≤ w'.heap.size := by have := hO.1; simp at this; omega
        match j, hf, hx with
        | 0, hf, hx => simp [Mf.steps] at hf; simp [saveVs] at hx; subst hf hx; exact save1_any base B st' V' own' w' hok hbw _ hJ.1 (by omega) _ hfb
        | 1, hf, hx => simp [Mf.steps] at hf; simp [saveVs] at hx; subst hf hx; exact save2_any base B st' V' own' w' hok hbw _ hJ.1 (by omega) _ hfb
        | 2, hf, hx =>
          simp [Mf.steps] at hf; simp [saveVs] at hx; subst hf hx
          exact save3_any base B st' V' own' w' hok hbw _ hJ.1 (by omega) _ hfb _ _ _ (HBY.out.others hO) hbb (by have := Mf.enc_len HG.out; omega) hJ.2
        | 3, hf, hx => simp [Mf.steps] at hf; simp [saveVs] at hx; subst hf hx; exact save4_any base B st' V' own' w' hok hbw _ hJ.1 (by omega) _ hfb
        | 4, hf, hx => simp [Mf.steps] at hf; simp [saveVs] at hx; subst hf hx; exact save5_any base B st' V' own' w' hok hbw _ hJ.1 (by omega) _ hfb
        | 5, hf, hx => simp [Mf.steps] at hf; simp [saveVs] at hx; subst hf hx; exact syncDir_any base B st' V' own' w' hok
        | j + 6, hf, hx => simp [Mf.steps] at hf)
      (fun j f s hf hs _ => saveJ_next k _ j f s hf hs))
    have HB12 := Lib.hid (HB1.out.trans (hb12.mono HB1.out.size))
    have HSV : Hid (Mf.save st ver l = Fs.first (Mf.steps (Mf.enc ver l)) st) := by unfold Mf.save; rw [if_neg (by rw [HG.out]; simp)]; exact Lib.hid rfl
    clear hcell hb12 hbb2
    go_wp2_with fail
    refine HFIRST.out.mono ?_
    rintro e w3 ⟨rfl, hp⟩
    have HP := Lib.hid hp
    clear hp
    go_wp2_with fail
    go_ret
    rw [HSV.out]
    exact ⟨rfl, OpPost.step (kept_below HB12.out) (fun _ _ => rfl) HP.out⟩
  · have HSV : Hid (Mf.save st ver l = (st, 1)) := by unfold Mf.save; rw [if_pos hg]; exact Lib.hid rfl
    clear hg
    go_wp2_with fail
    go_ret
    rw [HSV.out]
    exact ⟨rfl, OpPost.of H.out (HB1.out.trans (((Below.refl _ _).alloc (Nat.le_refl _) _).mono HB1.out.size))⟩
end Go.Proofs.YtcinagglbkbmkaaGreatDoor
namespace Go.Proofs.YtcinagglbkbmkaaGreatDoor
set_option linter.unusedSimpArgs false
set_option linter.unusedVariables false
open Go Go.RowKit
namespace Fs
/-- What holds ahead of round i. -/
structure LastInv (i : Nat) (st : St) (last : Int × List Int) : Prop where
  calm : Calm st
  inv : Inv st
  sound : Sound st (20 * i)
  room : st.room = 60000
  len : ∀ n b, look st n = some b → b.length ≤ 800 + i
  dir : st.dir.length ≤ i + (if mhas st.dir Mf.final then 1 else 0)
  zero : last.1 = 0 → look st Mf.final = none
  cur : last.1 ≠ 0 → Mf.good last.1 last.2 = true ∧ look st Mf.final = some (Mf.enc last.1 last.2)
theorem LastInv.new : LastInv 0 (Fs.new 60000) (0, []) :=
  ⟨⟨rfl, rfl⟩, Inv.new _, Sound.new ⟨by decide, by decide⟩ _, rfl, fun n b h => (by rw [look_new] at h; cases h), Nat.zero_le _, fun _ => rfl, fun h => absurd rfl h⟩
theorem LastInv.next {i : Nat} {st : St} {last : Int × List Int} (h : LastInv i st last) : LastInv (i + 1) st last :=
  ⟨h.calm, h.inv, h.sound.mono (by omega), h.room, fun n b hb => by have := h.len n b hb; omega, by have := h.dir; omega, h.zero, h.cur⟩
theorem LastInv.plan {i : Nat} {st : St} {last : Int × List Int} (h : LastInv i st last) : PlanOK st := fun z hz => by rw [h.calm.2] at hz; cases hz
theorem has_look {st : St} {n : List UInt8} : mhas st.dir n = (look st n).isSome := by
  unfold look
  cases mhas st.dir n <;> rfl
/-- A Mf.save. -/
theorem LastInv.save {i : Nat} {st : St} {last : Int × List Int} (h : LastInv i st last) (hi : i < 20) (v : Int) (l : List Int) :
    (Mf.good v l = true ∧ (Mf.save st v l).2 = 0 ∧ LastInv i { st with } last ∧ ∀ k, k = i → (Calm (Mf.save st v l).1 ∧ Inv (Mf.save st v l).1 ∧ Sound (Mf.save st v l).1 (20 * i + 12) ∧ (Mf.save st v l).1.room = 60000 ∧ (∀ n b, look (Mf.save st v l).1 n = some b → b.length ≤ 800 + i) ∧
      (Mf.save st v l).1.dir.length ≤ i + 1 ∧ look (Mf.save st v l).1 Mf.final = some (Mf.enc v l))) ∨ (Mf.good v l = false ∧ Mf.save st v l = (st, 1)) := by
  cases hg : Mf.good v l
  · exact .inr ⟨rfl, by unfold Mf.save; rw [if_pos hg]⟩
  · have hd : st.dir.length ≤ i + 1 := by have := h.dir; split at this <;> omega
    have hm : (st.dir.length + 1) * (800 + i) ≤ 22 * 820 := Nat.mul_le_mul (by omega) (by omega)
    obtain ⟨h1, h2, h3, h4, h5, h6⟩ := Mf.save_calm h.calm h.inv hg (by omega) (M := 800 + i) h.len (by rw [h.room]; omega) (fun f hf => (h.sound.full f hf).2)
    obtain ⟨s1, s2⟩ := save_sound h.sound h.plan v l
    refine .inl ⟨rfl, h1, h, fun k _ => ⟨h2.calm, h2.inv, s1, h2.room.trans h.room, fun n b hb => ?_, ?_, by rw [h6, if_pos rfl]⟩⟩
    · rw [h6] at hb
      by_cases hn : n = Mf.final
      · rw [if_pos hn] at hb
        have := Mf.enc_len hg
        have e : Mf.enc v l = b := Option.some.inj hb
        rw [← e]; omega
      · rw [if_neg hn] at hb
        by_cases hn2 : n = Mf.draft
        · rw [if_pos hn2] at hb; cases hb
        · rw [if_neg hn2] at hb; exact h.len n b hb
    · cases hf : mhas st.dir Mf.final
      · have := h.dir
        rw [hf] at this
        simp at this
        omega
      · have h7 := h4 hf
        have := h.dir
        rw [hf] at this
        simp at this
        omega
/-- Behind the Mf.save. -/
structure LastMid (i : Nat) (st : St) (last : Int × List Int) : Prop where
  calm : Calm st
  inv : Inv st
  sound : Sound st (20 * i + 12)
  room : st.room = 60000
  len : ∀ n b, look st n = some b → b.length ≤ 800 + i
  dir : st.dir.length ≤ i + (if mhas st.dir Mf.final then 1 else 0)
  zero : last.1 = 0 → look st Mf.final = none
  cur : last.1 ≠ 0 → Mf.good last.1 last.2 = true ∧ look st Mf.final = some (Mf.enc last.1 last.2)
theorem LastMid.next {i : Nat} {st : St} {last : Int × List Int} (h : LastMid i st last) : LastInv (i + 1) st last :=
  ⟨h.calm, h.inv, h.sound.mono (by omega), h.room, fun n b hb => by have := h.len n b hb; omega, by have := h.dir; omega, h.zero, h.cur⟩
theorem LastMid.plan {i : Nat} {st : St} {last : Int × List Int} (h : LastMid i st last) : PlanOK st := fun z hz => by rw [h.calm.2] at hz; cases hz
/-- Another file: created, written to, perhaps removed. -/
def other (st : St) (s : List UInt8) (rm : Bool) : St :=
  if rm then (remove (append (create st s).1 s [1]).1 s).1 else (append (create st s).1 s [1]).1
theorem other_bad {st : St} {s : List UInt8} (hg : Fs.good s = false) (rm : Bool) : other st s rm = st := by

  have h1 : (create st s).1 = st := by unfold create; rw [if_pos hg]
  have h2 : openE st s ≠ 0 := by unfold openE; rw [if_pos hg]; decide
  have h3 : (append st s [1]).1 = st := by unfold append; rw [if_pos h2]
  have h4 : (remove st s).1 = st := by unfold remove; rw [if_pos h2]
  unfold other
  rw [h1, h3, h4]
  split <;> rfl
theorem LastMid.other {i : Nat} {st : St} {last : Int × List Int} (h : LastMid i st last) (hi : i < 20) {s : List UInt8} (hs : s ≠ Mf.final) (rm : Bool) : LastInv (i + 1) (other st s rm) last ∧ Sound (create st s).1 (20 * i + 14) ∧ PlanOK (create st s).1 ∧ Sound (append (create st s).1 s [1]).1 (20 * i + 14) := by
  have hs1 := h.sound.create s
  have hs2 := hs1.append s [1]
  have hp1 := h.plan.of (plan_create st s)
  refine ⟨?_, hs1, hp1, hs2⟩
  cases hg : Fs.good s
  · rw [other_bad hg]; exact h.next
  have hd : st.dir.length ≤ i + 1 := by have := h.dir; split at this <;> omega
  -- the file is there
  obtain ⟨s1, e1, c1, i1, r1, l1, d1, ⟨old, o1, o2⟩, k1⟩ : ∃ s1, (create st s).1 = s1 ∧ Calm s1 ∧ Inv s1 ∧ s1.room = 60000 ∧ (∀ n b, look s1 n = some b → b.length ≤ 800 + i) ∧ s1.dir.length ≤ st.dir.length + 1 ∧
      (∃ old, look s1 s = some old ∧ old.length ≤ 800 + i) ∧ ∀ m, m ≠ s → look s1 m = look st m := by
    cases hh : mhas st.dir s
    · obtain ⟨a1, a2, a3, a4⟩ := calm_create h.calm h.inv hg hh (by omega)
      refine ⟨_, rfl, a2.calm, a2.inv, a2.room.trans h.room, fun n b hb => ?_, by omega, ⟨[], by rw [a4, if_pos rfl], by simp⟩, fun m hm => by rw [a4, if_neg hm]⟩
      rw [a4] at hb
      by_cases hn : n = s
      · rw [if_pos hn] at hb; have e : [] = b := Option.some.inj hb; rw [← e]; simp
      · rw [if_neg hn] at hb; exact h.len n b hb
    · have e : (create st s).1 = st := by unfold create; rw [if_neg (by rw [hg]; simp), if_pos hh]
      refine ⟨st, e, h.calm, h.inv, h.room, h.len, Nat.le_succ _, ?_, fun m _ => rfl⟩
      have : look st s = some (fileAt st s) := by unfold look; rw [if_pos hh]
      exact ⟨_, this, h.len s _ this⟩
  have hu : used s1 ≤ s1.dir.length * (800 + i) := used_look i1 l1
  have hu2 : s1.dir.length * (800 + i) ≤ 22 * 820 := Nat.mul_le_mul (by omega) (by omega)
  obtain ⟨b1, b2, b3, _, b4⟩ := calm_append (b := [1]) c1 i1 hg o1 (by simp; omega) (by rw [r1]; simp; omega)
  have hdir : ∀ (s' : St), s'.dir.length ≤ s1.dir.length → (mhas s'.dir Mf.final = mhas st.dir Mf.final) → s'.dir.length ≤ (i + 1) + (if mhas s'.dir Mf.final then 1 else 0) := by
    intro s' h1 h2
    rw [h2]
    have := h.dir
    omega
  have hfin : mhas (append s1 s [1]).1.dir Mf.final = mhas st.dir Mf.final := by
    rw [has_look, b4, if_neg (fun e => hs e.symm), k1 Mf.final (fun e => hs e.symm), ← has_look]
  have hlk : look (append s1 s [1]).1 Mf.final = look st Mf.final := by rw [b4, if_neg (fun e => hs e.symm), k1 Mf.final (fun e => hs e.symm)]
  have hlen : ∀ n b, look (append s1 s [1]).1 n = some b → b.length ≤ 800 + (i + 1) := by
    intro n b hb
    rw [b4] at hb
    by_cases hn : n = s
    · rw [if_pos hn] at hb; have e : old ++ [1] = b := Option.some.inj hb; rw [← e]; simp; omega
    · rw [if_neg hn] at hb; have := l1 n b hb; omega
  unfold Fs.other
  rw [e1] at hs2 ⊢
  cases rm
  · rw [if_neg (by simp)]
    refine ⟨b2.calm, b2.inv, hs2.mono (by omega), b2.room.trans r1, hlen, hdir _ (by rw [b3]; exact Nat.le_refl _) hfin, fun e => by rw [hlk]; exact h.zero e, fun e => by rw [hlk]; exact h.cur e⟩
  · rw [if_pos rfl]
    have hh2 : mhas (append s1 s [1]).1.dir s = true := by rw [has_look, b4, if_pos rfl]; rfl
    obtain ⟨g1, g2, g3, _, g5⟩ := calm_remove b2.calm b2.inv hg hh2
    have hfin2 : mhas (remove (append s1 s [1]).1 s).1.dir Mf.final = mhas st.dir Mf.final := by
      rw [has_look, g5, if_neg (fun e => hs e.symm), ← has_look]; exact hfin
    have hlk2 : look (remove (append s1 s [1]).1 s).1 Mf.final = look st Mf.final := by rw [g5, if_neg (fun e => hs e.symm)]; exact hlk
    refine ⟨g2.calm, g2.inv, (hs2.remove s).mono (by omega), g2.room.trans (b2.room.trans r1), fun n b hb => ?_, hdir _ (by rw [g3, b3]; exact mdel_len _ _) hfin2, fun e => ?_, fun e => ?_⟩
    · rw [g5] at hb
      by_cases hn : n = s
      · rw [if_pos hn] at hb; cases hb
      · rw [if_neg hn] at hb; exact hlen n b hb
    · show look (remove (append s1 s [1]).1 s).1 Mf.final = none
      rw [hlk2]; exact h.zero e
    · show _ ∧ look (remove (append s1 s [1]).1 s).1 Mf.final = _
      rw [hlk2]; exact h.cur e
theorem LastInv.load {i : Nat} {st : St} {last : Int × List Int} (h : LastInv i st last) : (last.1 = 0 → Mf.load st = ((0, []), 3)) ∧ (last.1 ≠ 0 → Mf.load st = (last, 0)) :=
  ⟨fun e => Mf.load_none (h.zero e), fun e => Mf.load_look (h.cur e).1 (h.cur e).2⟩
end Fs
end Go.Proofs.YtcinagglbkbmkaaGreatDoor
namespace Go.Proofs.YtcinagglbkbmkaaGreatDoor
set_option linter.unusedSimpArgs false
set_option linter.unusedVariables false
open Go Go.RowKit
open Go.Maps Go.WideMaps

theorem Ints.others {w w' : World} {own own' : Nat → Tag} {a : Option Addr} {n c : Nat} {l : List Int} (h : Ints w (.slice a n c) l) (hot : ∀ p, a = some p → own p.block = .other) (ho : Others own own' w w') : Ints w' (.slice a n c) l := by
  obtain ⟨a', c', h1, h2⟩ := h
  refine ⟨a', c', h1, fun i x hi => ?_⟩
  simp only [Value.slice.injEq] at h1
  obtain ⟨b, off, e, h3, h4⟩ := h2 i x hi
  obtain ⟨k1, k2⟩ := ho.2 b h3 (hot ⟨b, off, none⟩ (by rw [h1.1, e]))
  exact ⟨b, off, e, Nat.lt_of_lt_of_le h3 ho.1, by rw [World.cell?_of_block k2]; exact h4⟩
end Go.Proofs.YtcinagglbkbmkaaGreatDoor
namespace Go.Proofs.YtcinagglbkbmkaaGreatDoor
set_option linter.unusedSimpArgs false
set_option linter.unusedVariables false
open Go Go.RowKit
namespace Fs
/-- What holds ahead of round j of the creating. -/
structure CleansInv (v : Int) (l : List Int) (j : Nat) (st : St) : Prop where
  calm : Calm st
  inv : Inv st
  sound : Sound st (12 + 2 * j)
  room : st.room = 20000
  dir : st.dir.length ≤ 1 + j
  fin : look st Mf.final = some (Mf.enc v l)
  own : ∀ n b, look st n = some b → n ≠ Mf.final → b = n
section
variable {v : Int} {l : List Int}
theorem CleansInv.plan {j : Nat} {st : St} (h : CleansInv v l j st) : PlanOK st := fun z hz => by rw [h.calm.2] at hz; cases hz
theorem CleansInv.new (hg : Mf.good v l = true) : (Mf.save (Fs.new 20000) v l).2 = 0 ∧ CleansInv v l 0 (Mf.save (Fs.new 20000) v l).1 := by
  obtain ⟨h1, h2, h3, _, _, h6⟩ := Mf.save_calm (st := Fs.new 20000) ⟨rfl, rfl⟩ (Inv.new _) hg (by decide) (M := 0) (fun n b h => by rw [look_new] at h; cases h) (by decide) (fun f hf => by cases hf)
  obtain ⟨s1, _⟩ := save_sound (st := Fs.new 20000) (k := 0) (Sound.new ⟨by decide, by decide⟩ 0) (fun z hz => by cases hz) v l
  refine ⟨h1, h2.calm, h2.inv, s1.mono (by omega), h2.room, h3, by rw [h6, if_pos rfl], fun n b hb hn => ?_⟩
  rw [h6, if_neg hn] at hb
  split at hb
  · cases hb
  · rw [look_new] at hb; cases hb
theorem CleansInv.next {j : Nat} {st : St} (h : CleansInv v l j st) : CleansInv v l (j + 1) st :=
  ⟨h.calm, h.inv, h.sound.mono (by omega), h.room, by have := h.dir; omega, h.fin, h.own⟩
/-- Behind the cleaning. -/
structure Cleaned (v : Int) (l : List Int) (k : Nat) (st : St) : Prop where
  sound : Sound st k
  inv : Inv st
  fin : look st Mf.final = some (Mf.enc v l)
  rest : ∀ n, mhas st.dir n = true → n = Mf.final ∨ ((∃ x ∈ l, [115, 101, 103, 45] ++ Lib.itoa x = n) ∧ look st n = some n ∧ n ≠ Mf.final)
theorem Cleaned.load {k : Nat} {st : St} (h : Cleaned v l k st) (hg : Mf.good v l = true) : Mf.load st = ((v, l), 0) := Mf.load_look hg h.fin
end
end Fs
end Go.Proofs.YtcinagglbkbmkaaGreatDoor
namespace Go.Proofs.YtcinagglbkbmkaaGreatDoor
set_option linter.unusedSimpArgs false
set_option linter.unusedVariables false
open Go Go.RowKit
open Go.Maps Go.WideMaps

/-- The library's variables, and the length to which bytealg looks. -/
structure MEnv (B : Nat) (w : World) : Prop where
  sg : SgEnv B w
  ml : ∃ m, w.cell? ⟨3, 0, none⟩ = some (.int .i64 m)
  low : 3 < B
theorem MEnv.below {B : Nat} {w w' : World} (h : MEnv B w) (hb : Below B w w') : MEnv B w' := by
  obtain ⟨m, hm⟩ := h.ml
  exact ⟨h.sg.below hb, ⟨m, by rw [hb.cell h.low]; exact hm⟩, h.low⟩
theorem MEnv.mono {B B' : Nat} {w : World} (h : MEnv B w) (hb : B ≤ B') : MEnv B' w := ⟨h.sg.mono hb, h.ml, Nat.lt_of_lt_of_le h.low hb⟩
/-- Bytes are the same just if their texts are. -/
theorem bytesEqual_any (a b : Value) (l m : List UInt8) (w : World) (ha : Byts w a l) (hb : Byts w b m) (hl : l.length ≤ 1000000000) (hm : m.length ≤ 1000000000) :
    Calls Tryz.prog 66 #[a, b] w fun e w' => e = .returned (.bool (l == m)) ∧ w' = w := by
  obtain ⟨aa, ac, rfl, _⟩ := ha.form
  obtain ⟨ba, bc, rfl, _⟩ := hb.form
  have h1 := convB ha
  have h2 := convB hb
  go_enter Tryz.func66, Tryz.ntmps66
  go_wp2_with fail
  go_ret
  exact ⟨rfl, rfl⟩
/-- What 'Decode' leaves. -/
def MDecPost (b : List UInt8) (w : World) (e : Ending) (w' : World) : Prop :=
  Below w.heap.size w w' ∧ ((∃ v l sv, Mf.read b = some (v, l) ∧ e = .returned (.tuple #[.agg #[.int .i64 v, sv], .int .i64 0]) ∧ OwnI w' w.heap.size sv l) ∨
    (Mf.read b = none ∧ e = .returned (.tuple #[.agg #[.int .i64 0, .slice none 0 0], .int .i64 2])))
theorem nums_drop {L : List (List UInt8)} {j : Nat} {x : List UInt8} (h : L[j]? = some x) : Mf.nums (L.drop j) = match Lib.atoiAll x with | .ok n => (Mf.nums (L.drop (j + 1))).map (n :: ·) | _ => none := by
  obtain ⟨h1, h2⟩ := List.getElem?_eq_some_iff.1 h
  rw [List.drop_eq_getElem_cons h1, h2, Mf.nums]
  cases Lib.atoiAll x <;> rfl
theorem But.grown2 {X : Nat → Prop} {a w w' : World} {r : Option Nat} (h : But X a w) (hg : w.grownBy w' r) (hr : ∀ k, r = some k → X k ∨ a.heap.size ≤ k) : But X a w' :=
  ⟨hg.os.trans h.os, hg.tape.trans h.tape, hg.output.trans h.output, Nat.le_trans h.size hg.size, fun k hk hx => by
    rw [hg.block k (Nat.lt_of_lt_of_le hk h.size) (fun e => by rcases hr k e.symm with h1 | h1; exact hx h1; omega)]
    exact h.block k hk hx⟩
theorem splitK_len : ∀ (k : Nat) (l : List UInt8), k = l.count 10 → (Lib.splitK [10] 0 k l).length = k + 1
  | 0, l, _ => rfl
  | k + 1, l, h => by
    obtain ⟨x, r, hx, e⟩ : ∃ x r, (10 : UInt8) ∉ x ∧ l = x ++ 10 :: r := by
      have hm : (10 : UInt8) ∈ l := List.count_pos_iff.1 (by omega)
      clear h
      induction l with
      | nil => cases hm
      | cons c l ih =>
        by_cases hc : c = 10
        · exact ⟨[], l, by simp, by rw [hc]; rfl⟩
        · obtain ⟨x, r, h1, h2⟩ := ih (by rcases List.mem_cons.1 hm with h | h; exact absurd h.symm hc; exact h)
          exact ⟨c :: x, r, by simp [h1]; exact fun h => hc h.symm, by rw [h2]; rfl⟩
    subst e
    rw [Lib.splitK, Mf.index_line x r hx, if_neg (by simp), List.length_cons]
    have e2 : (x ++ 10 :: r).drop (((x.length : Nat) : Int).toNat + ([10] : List UInt8).length) = r := by
      rw [Int.toNat_natCast, ← List.drop_drop, List.drop_left]
      rfl
    rw [e2, splitK_len k r (by rw [List.count_append, List.count_eq_zero_of_not_mem hx, List.count_cons_self] at h; omega)]
theorem splitK_part : ∀ (k : Nat) (l x : List UInt8), x ∈ Lib.splitK [10] 0 k l → x.length ≤ l.length
  | 0, l, x, h => by
    rw [Lib.splitK] at h
    simp at h; rw [h]; exact Nat.le_refl _
  | k + 1, l, x, h => by
    rw [Lib.splitK] at h
    split at h
    · simp at h; rw [h]; exact Nat.le_refl _
    · rcases List.mem_cons.1 h with h | h
      · rw [h]; simp; omega
      · have := splitK_part k _ x h
        simp at this
        omega
theorem mdec_end {Q : Ending → World → Prop} {a : Act} {W : World} (g : Nat) (ver c : Int) (sv : Value) (h2 : a.tmps[2]? = some (.pointer (some ⟨g, 0, none⟩))) (h3 : a.tmps[3]? = some (.int .i64 c)) (hd : a.defers = [])
    (hW : W.heap[g]? = some (.cells #[.int .i64 ver, sv] 24 (0, 0))) (hQ : Q (.returned (.tuple #[.agg #[.int .i64 ver, sv], .int .i64 c])) W) : bodyPost Tryz.prog Tryz.f18 Q .ret a W := by
  have y0 : W.cell? ⟨g, 0, none⟩ = some (.int .i64 ver) := root_cell hW 0 _ rfl
  have y1 : W.cell? ⟨g, 1, none⟩ = some sv := root_cell hW 1 _ rfl
  exact bodyPost_ret (v := .tuple #[.agg #[.int .i64 ver, sv], .int .i64 c]) (by simp [results, Tryz.results18, go_sem, h2, h3, y0, y1]) hd hQ
theorem OwnI.mono2 {w : World} {base base' : Nat} {v : Value} {l : List Int} (h : OwnI w base v l) (hb : base' ≤ base) : OwnI w base' v l := by
  refine ⟨h.1, ?_⟩
  rcases h.2 with h2 | ⟨g, cap, cur, hv, hg, hc⟩
  · exact .inl h2
  · exact .inr ⟨g, cap, cur, hv, Nat.le_trans hb hg, hc⟩
set_option maxHeartbeats 2000000 in
set_option maxRecDepth 100000 in
theorem mdecode_any (v : Value) (b : List UInt8) (w : World) (B : Nat) (hE : MEnv B w) (hBw : B ≤ w.heap.size) (hV : Byts w v b) (hl : b.length ≤ 1000000000) :
    Calls Tryz.prog 18 #[v] w (MDecPost b w) := by
  obtain ⟨va, vc, rfl, _⟩ := hV.form
  have hb0 : Below w.heap.size w (w.alloc (.cells #[.int .i64 0, .slice none 0 0] 24)) := (Below.refl _ _).alloc (Nat.le_refl _) _
  have hr0 := heap_new w (.cells #[.int .i64 0, .slice none 0 0] 24)
  have HV := Lib.hid hV
  have HE := Lib.hid hE
  have HB0 := Lib.hid hb0
  have HR0 := Lib.hid hr0
  clear hV hE hb0 hr0
  go_enter Tryz.func18, Tryz.ntmps18
  go_wp2_with fail
  refine (decode_any _ b _ (HV.out.below HB0.out) hl).mono ?_
  rintro e w1 ⟨hb1, hres⟩
  have HB1 := Lib.hid (HB0.out.trans (hb1.mono HB0.out.size))
  have hr1 : w1.heap[w.heap.size]? = some (.cells #[.int .i64 0, .slice none 0 0] 24 (0, 0)) := by rw [hb1.block _ (heap_lt HR0.out)]; exact HR0.out
  have HR1 := Lib.hid hr1
  have hz1 : w.heap.size < w1.heap.size := heap_lt hr1
  clear hb1 hr1
  rcases hres with ⟨h0, pv, rfl, ho⟩ | ⟨h0, rfl⟩
  · obtain ⟨pa, pn, pc, hpv, HPN⟩ := OwnB.form3 ho
    subst hpv
    have HO := Lib.hid ho
    have p0 : w1.frozen? ⟨w.heap.size, 0, none⟩ = false := root_frozen HR1.out 0
    have p1 : w1.frozen? ⟨w.heap.size, 1, none⟩ = false := root_frozen HR1.out 1
    have q0 : w1.cell? ⟨w.heap.size, 0, none⟩ = some (.int .i64 0) := root_cell HR1.out 0 _ rfl
    have q1 : w1.cell? ⟨w.heap.size, 1, none⟩ = some (.slice none 0 0) := root_cell HR1.out 1 _ rfl
    have hb2 := HB1.out.alloc HB1.out.size (.cells #[.int .i64 (Fr.kind b), .slice pa pn pc] 131)
    obtain ⟨K, hK⟩ : ∃ K, K = Fr.kind b := ⟨_, rfl⟩
    rw [← hK] at hb2 ⊢
    have HB2 := Lib.hid hb2
    have HK := Lib.hid hK
    have H0 := Lib.hid h0
    clear ho hb2 hK h0
    by_cases hk9 : K = 9
    · subst hk9
      have hbM : Below w1.heap.size w1 ((w1.alloc (.cells #[.int .i64 9, .slice pa pn pc] 131)).alloc (.cells #[.int .i64 0, .slice none 0 0] 24)) := ((Below.refl _ _).alloc (Nat.le_refl _) _).alloc (by simp) _
      have hcv := convB (HO.out.byts.below hbM)
      have e1 : (w1.alloc (.cells #[.int .i64 9, .slice pa pn pc] 131)).heap.size = w1.heap.size + 1 := by simp
      have hrM := heap_new (w1.alloc (.cells #[.int .i64 9, .slice pa pn pc] 131)) (.cells #[.int .i64 0, .slice none 0 0] 24)
      rw [e1] at hrM
      have HRM := Lib.hid hrM
      have HBM := Lib.hid hbM
      have hpl : (Fr.pay b).length ≤ 1000000000 := by unfold Fr.pay; simp; omega
      have HPL := Lib.hid hpl
      clear hrM hbM e1 p0 p1 q0 q1 hpl
      go_wp2_with fail
      refine (Tryz.strings_TrimSuffix ⟨(Fr.pay b).toArray⟩ ⟨#[10]⟩ _ (by have := HPL.out; show (Fr.pay b).toArray.size ≤ _; simp; omega)).mono ?_
      rintro e w2 ⟨rfl, rfl⟩
      obtain ⟨T, hT⟩ : ∃ T : ByteArray, T = ⟨(Lib.trimSuffix (⟨(Fr.pay b).toArray⟩ : ByteArray).data.toList (⟨#[10]⟩ : ByteArray).data.toList).toArray⟩ := ⟨_, rfl⟩
      rw [← hT]
      have HT : Hid (T.data.toList = Lib.trimSuffix (Fr.pay b) [10]) := by rw [hT]; exact Lib.hid rfl
      have hTs : T.size ≤ 1000000000 := by
        rw [hT]
        show (Lib.trimSuffix _ _).toArray.size ≤ _
        have := HPL.out
        unfold Lib.trimSuffix
        split <;> simp <;> omega
      clear hT hcv
      obtain ⟨ml, hml⟩ := (HE.out.below (HB1.out.trans (HBM.out.mono HB1.out.size) |>.mono hBw)).ml
      go_wp2_with fail
      refine (Tryz.strings_Split T ⟨#[10]⟩ ml _ (by omega) hml (by decide)).mono ?_
      rintro e w3 ⟨rfl, hw3⟩
      have e2 : ((w1.alloc (.cells #[.int .i64 9, .slice pa pn pc] 131)).alloc (.cells #[.int .i64 0, .slice none 0 0] 24)).heap.size = w1.heap.size + 2 := by simp
      rw [e2]
      have HSZ : Hid (w3.heap.size = w1.heap.size + 3) := by rw [hw3]; exact Lib.hid (by simp)
      have HB13 : Hid (Below w1.heap.size w1 w3) := by rw [hw3]; exact Lib.hid (HBM.out.alloc (by simp; omega) _)
      have HM3 : Hid (w3.heap[w1.heap.size + 1]? = some (.cells #[.int .i64 0, .slice none 0 0] 24 (0, 0))) := by
        rw [hw3, Lib.alloc_old _ _ _ (by simp)]; exact HRM
      obtain ⟨SL, hSL⟩ : ∃ SL, SL = Lib.splitB ⟨#[10]⟩ 0 (Lib.countB T ⟨#[10]⟩) T := ⟨_, rfl⟩
      have HLN : Hid (SL.map (·.data.toList) = Mf.lines (Lib.trimSuffix (Fr.pay b) [10])) := by
        refine Lib.hid ?_
        rw [hSL, Lib.splitB_data, HT.out]
        unfold Mf.lines
        rw [show Lib.countB T ⟨#[10]⟩ = Lib.count T.data.toList [10] from rfl, HT.out, Lib.count_one]
      have hSn : SL.length = Lib.countB T ⟨#[10]⟩ + 1 := by
        have := congrArg List.length HLN.out
        rw [List.length_map] at this
        rw [this]
        unfold Mf.lines
        rw [show Lib.countB T ⟨#[10]⟩ = Lib.count T.data.toList [10] from rfl, HT.out, Lib.count_one]
        exact splitK_len _ _ rfl
      obtain ⟨n, hn⟩ : ∃ n, n = Lib.countB T ⟨#[10]⟩ + 1 := ⟨_, rfl⟩
      rw [← hn] at hSn ⊢
      have HST : Hid (Strs w3 (.slice (some ⟨w1.heap.size + 2, 0, none⟩) n n) SL) := by
        refine Lib.hid ⟨some ⟨w1.heap.size + 2, 0, none⟩, n, by rw [hSn], fun i s hi => ⟨w1.heap.size + 2, 0, rfl, by have := HSZ.out; omega, ?_⟩⟩
        rw [hw3, ← e2, Nat.zero_add]
        exact cell_new _ _ _ i _ (by rw [← hSL]; simp [hi])
      have hnb : n ≤ 1000000001 := by
        rw [hn]
        have := Lib.countB_mul_le ⟨#[10]⟩ (by decide) T.size T (Nat.le_refl _)
        rw [show (⟨#[10]⟩ : ByteArray).size = 1 from rfl] at this
        omega
      have hn1 : 1 ≤ n := by omega
      have HSS : Hid (∀ s ∈ SL, s.size ≤ 1000000000) := by
        refine Lib.hid fun s hs => ?_
        have h1 : s.data.toList ∈ SL.map (·.data.toList) := List.mem_map.2 ⟨s, hs, rfl⟩
        rw [HLN.out] at h1
        have := splitK_part _ _ _ h1
        have h2 : (Lib.trimSuffix (Fr.pay b) [10]).length ≤ (Fr.pay b).length := by unfold Lib.trimSuffix; split <;> simp
        have h3 := HPL.out
        have h4 : s.size = s.data.toList.length := by simp
        omega
      have HRD : Hid (Mf.read b = (Mf.nums (SL.map (·.data.toList))).bind (Mf.fit b)) := by
        unfold Mf.read
        rw [if_neg (by rw [H0.out, ← HK.out]; simp), HLN.out]
        exact Lib.hid rfl
      have HE3 := Lib.hid (HE.out.below ((HB1.out.trans (HB13.out.mono HB1.out.size)).mono hBw))
      have HR3 : Hid (w3.heap[w.heap.size]? = some (.cells #[.int .i64 0, .slice none 0 0] 24 (0, 0))) := by rw [HB13.out.block _ hz1]; exact HR1
      clear hw3 e2 hn hSL hml
      go_wp2_with fail
      go_loopg [32] n (fun k s32 wr => ∃ (j : Nat) (acc : List Int) (sv : Value), j ≤ n ∧ k = n - j ∧ s32 = .int .i64 (j : Nat) ∧ acc.length = j ∧ wr.heap[w1.heap.size + 1]? = some (.cells #[.int .i64 (acc.headD 0), sv] 24 (0, 0)) ∧ OwnI wr w3.heap.size sv acc.tail ∧
        But (fun k => k = w1.heap.size + 1) w3 wr ∧ (Mf.nums (SL.map (·.data.toList)) = (Mf.nums ((SL.map (·.data.toList)).drop j)).map (acc ++ ·)))
      case atStart => exact ⟨0, [], .slice none 0 0, Nat.zero_le _, rfl, rfl, rfl, HM3.out, World.ownsRow_nil _ _ _ _, But.refl _ _, by rw [List.drop_zero]; simp⟩
      case round =>
        obtain ⟨j, acc, sv, hj, hk, rfl, hal, hM, hOI, hBt, hnum⟩ := hrel
        have HK2 := Lib.hid hk
        have HAL := Lib.hid hal
        have HM := Lib.hid hM
        have HOI := Lib.hid hOI
        have HBT := Lib.hid hBt
        have HNUM := Lib.hid hnum
        have hj0 : (0 : Int) ≤ (j : Int) := Int.natCast_nonneg _
        have hzr : w3.heap.size ≤ wr.heap.size := hBt.size
        have hz3 := HSZ.out
        have hg6 : w1.heap.size + 1 < wr.heap.size := heap_lt hM
        have HBw : Hid (Below w.heap.size w wr) := by
          refine Lib.hid ?_
          have h1 := HB1.out.trans (HB13.out.mono HB1.out.size)
          exact ⟨hBt.os.trans h1.os, hBt.tape.trans h1.tape, hBt.output.trans h1.output, Nat.le_trans h1.size hBt.size, fun k hk => by
            rw [hBt.block k (Nat.lt_of_lt_of_le hk h1.size) (by show k ≠ _; omega)]; exact h1.block k hk⟩
        have hr0r : wr.heap[w.heap.size]? = some (.cells #[.int .i64 0, .slice none 0 0] 24 (0, 0)) := by rw [hBt.block _ (heap_lt HR3.out) (by show w.heap.size ≠ _; omega)]; exact HR3.out
        have HR0r := Lib.hid hr0r
        clear hk hal hM hOI hBt hnum hr0r
        by_cases hjn : j < n
        · have hjn1 : (j : Int) < (n : Int) := by omega
          obtain ⟨s, hs⟩ : ∃ s, SL[j]? = some s := ⟨_, List.getElem?_eq_getElem (by omega)⟩
          have hsz := HSS.out s (List.mem_of_getElem? hs)
          have hcs : wr.cell? ⟨w1.heap.size + 2, j, none⟩ = some (.string s) := by
            obtain ⟨bb, off, e1, e2⟩ := HST.out.at hs
            simp only [Option.some.injEq, Addr.mk.injEq, and_true] at e1
            obtain ⟨rfl, rfl⟩ := e1
            rw [Nat.zero_add] at e2
            rw [World.cell?_of_block (HBT.out.block _ (by show w1.heap.size + 2 < w3.heap.size; omega) (by show w1.heap.size + 2 ≠ w1.heap.size + 1; omega))]; exact e2
          have HD := Lib.hid (nums_drop (L := SL.map (·.data.toList)) (j := j) (x := s.data.toList) (by rw [List.getElem?_map, hs]; rfl))
          clear hs
          cases hat : Lib.atoiAll s.data.toList with
          | ok v =>
            rw [hat] at HD
            go_wp2_with fail
            refine (Tryz.strconv_Atoi_ok s (by omega) v hat wr).mono ?_
            rintro e w4 ⟨rfl, hw4⟩
            have hb4 : Below wr.heap.size wr w4 := by
              rcases hw4 with rfl | ⟨t, rfl⟩
              · exact Below.refl _ _
              · exact Joins.below_bytesWorld wr.heap.size wr 5 t (Nat.le_refl _)
            have HB4 := Lib.hid hb4
            have hM4 : w4.heap[w1.heap.size + 1]? = some (.cells #[.int .i64 (acc.headD 0), sv] 24 (0, 0)) := by rw [hb4.block _ hg6]; exact HM.out
            have hz4 := hb4.size
            have HN' : Hid (Mf.nums (SL.map (·.data.toList)) = (Mf.nums ((SL.map (·.data.toList)).drop (j + 1))).map ((acc ++ [v]) ++ ·)) := by
              rw [HNUM.out, HD.out]
              show Hid (((Mf.nums _).map _).map _ = _)
              rw [Option.map_map]
              refine Lib.hid (congrArg (fun f => Option.map f _) (funext fun x => ?_))
              show acc ++ v :: x = (acc ++ [v]) ++ x
              simp
            have HM4 := Lib.hid hM4
            clear hw4 hb4 hat hM4 hcs
            by_cases hj0' : j = 0
            · subst hj0'
              have hac : acc = [] := List.length_eq_zero_iff.1 HAL.out
              subst hac
              have q0 : w4.cell? ⟨w1.heap.size + 1, 0, none⟩ = some (.int .i64 0) := root_cell HM4.out 0 _ rfl
              have p0 : w4.frozen? ⟨w1.heap.size + 1, 0, none⟩ = false := root_frozen HM4.out 0
              go_wp2_with fail
              go_roundg (n - (0 + 1))
              case measure => rw [HK2.out]; omega
              case rel =>
                refine ⟨1, [v], sv, by omega, rfl, by simp, rfl, heap_set HM4.out _, ?_, ?_, HN'.out⟩
                · refine row_kept (HOI.out.keep HB4.out) (fun g hg => Below.heap_setCell _ _ _ _ ?_)
                  have := (World.ownsRow.lt HOI.out g hg).1
                  show g ≠ w1.heap.size + 1
                  omega
                · exact ((HBT.out.trans (But.of_below HB4.out)).setCell (p := ⟨w1.heap.size + 1, 0, none⟩) (.inl rfl) _)
            · obtain ⟨sva, svn, svc, hsv, HSVN⟩ := OwnI.form3 HOI.out
              subst hsv
              have q1 : w4.cell? ⟨w1.heap.size + 1, 1, none⟩ = some (.slice sva svn svc) := root_cell HM4.out 1 _ rfl
              have q1' : (w4.alloc (.cells #[.int .i64 v] 3)).cell? ⟨w1.heap.size + 1, 1, none⟩ = some (.slice sva svn svc) := by
                rw [World.cell?_of_block (Lib.alloc_old _ _ _ (show w1.heap.size + 1 < w4.heap.size by omega))]; exact q1
              have HO4 := Lib.hid (HOI.out.keep HB4.out)
              have HO5 : Hid (OwnI (w4.alloc (.cells #[.int .i64 v] 3)) w3.heap.size (.slice sva svn svc) acc.tail) := Lib.hid (HO4.out.keep ((Below.refl _ _).alloc (Nat.le_refl _) _))
              have HNV := Lib.hid (OwnI.one w4 v w4.heap.size (Nat.le_refl _)).nums
              have hte : ((j : Int) == 0) = false := by rw [beq_eq_false_iff_ne]; omega
              have hte2 : (j == 0) = false := by rw [beq_eq_false_iff_ne]; exact hj0'
              have htl : acc.tail.length ≤ 1000000001 := by have := HAL.out; simp; omega
              have HTL := Lib.hid htl
              have HB5 : ∀ w5, (w4.alloc (.cells #[.int .i64 v] 3)).grownBy w5 (Value.slice sva svn svc).ownBlock → w5.heap[w1.heap.size + 1]? = some (.cells #[.int .i64 (acc.headD 0), .slice sva svn svc] 24 (0, 0)) := fun w5 hg5 => by
                rw [hg5.block _ (by simp; omega) (fun e => by have := (World.ownsRow.lt HO4.out _ e.symm).1; omega), Lib.alloc_old _ _ _ (by omega)]
                exact HM4.out
              clear htl
              go_wp2_with (first | (at_builtin; refine wpList_append_nums rfl _ _ rfl w3.heap.size (.slice sva svn svc) acc.tail rfl HO5.out (.slice (some ⟨w4.heap.size, 0, none⟩) 1 1) [v] rfl HNV.out (by simp) (by have := HTL.out; rw [List.length_singleton]; omega) (by simp; omega) ?_; intro d' w5 hown hgrow hloc; clear hloc; obtain ⟨dA, dN, dC, hdE, HDN5⟩ := OwnI.form3 hown; subst hdE; have HM5 := Lib.hid (HB5 _ hgrow); have q5 : w5.cell? ⟨w1.heap.size + 1, 1, none⟩ = some (.slice sva svn svc) := root_cell HM5.out 1 _ rfl; have p5 : w5.frozen? ⟨w1.heap.size + 1, 1, none⟩ = false := root_frozen HM5.out 1; have HOWN := Lib.hid hown; have HGR := Lib.hid hgrow; clear hown hgrow) | fail)
              go_roundg (n - (j + 1))
              case measure => rw [HK2.out]; omega
              case rel =>
                obtain ⟨a0, r0, hac⟩ : ∃ a0 r0, acc = a0 :: r0 := by
                  cases hacc : acc with
                  | nil => have := HAL.out; rw [hacc] at this; simp at this; omega
                  | cons a r => exact ⟨a, r, rfl⟩
                refine ⟨j + 1, acc ++ [v], .slice dA dN dC, by omega, rfl, by simp, by rw [List.length_append, HAL.out]; rfl, ?_, ?_, ?_, HN'.out⟩
                · have h5 := HM5.out
                  rw [hac] at h5 ⊢
                  exact heap_set h5 _
                · have h6 : (acc ++ [v]).tail = acc.tail ++ [v] := by rw [hac]; rfl
                  rw [h6]
                  refine row_kept HOWN.out (fun g hg => Below.heap_setCell _ _ _ _ ?_)
                  have := (World.ownsRow.lt HOWN.out g hg).1
                  show g ≠ w1.heap.size + 1
                  omega
                · exact (((HBT.out.trans (But.of_below HB4.out)).alloc _).grown2 HGR.out (fun k hk => .inr (World.ownsRow.lt HO4.out k hk).1)).setCell (p := ⟨w1.heap.size + 1, 1, none⟩) (.inl rfl) _
          | range =>
            rw [hat] at HD
            obtain ⟨tp, p, hv⟩ := (HE.out.sg.below (HBw.out.mono hBw)).rng
            have HRN : Hid (Mf.read b = none) := by rw [HRD.out, HNUM.out, HD.out]; exact Lib.hid rfl
            go_wp2_with fail
            refine (Tryz.strconv_Atoi_range_var s (by omega) hat tp p wr hv).mono ?_
            rintro e w4 ⟨N, rfl, hN, _, hb4⟩
            clear hat hv
            have hr04 : w4.heap[w.heap.size]? = some (.cells #[.int .i64 0, .slice none 0 0] 24 (0, 0)) := by rw [hb4.block _ (heap_lt HR0r.out)]; exact HR0r.out
            have HR04 := Lib.hid hr04
            have p0 : w4.frozen? ⟨w.heap.size, 0, none⟩ = false := root_frozen hr04 0
            have p1 : w4.frozen? ⟨w.heap.size, 1, none⟩ = false := root_frozen hr04 1
            have z0 : w4.cell? ⟨w.heap.size, 0, none⟩ = some (.int .i64 0) := root_cell hr04 0 _ rfl
            have z1 : w4.cell? ⟨w.heap.size, 1, none⟩ = some (.slice none 0 0) := root_cell hr04 1 _ rfl
            have HBw4 := Lib.hid (HBw.out.trans (hb4.mono HBw.out.size))
            clear hr04 hb4
            go_wp2_with fail
            refine mdec_end w.heap.size 0 2 _ rfl rfl rfl (heap_set (heap_set HR04.out _) _) ?_
            exact ⟨((HBw4.out.setCell (p := ⟨w.heap.size, 0, none⟩) (Nat.le_refl _) _).setCell (p := ⟨w.heap.size, 1, none⟩) (Nat.le_refl _) _), .inr ⟨HRN.out, rfl⟩⟩
          | _ =>
            rw [hat] at HD
            obtain ⟨tp, p, hv⟩ := (HE.out.sg.below (HBw.out.mono hBw)).syn
            have HRN : Hid (Mf.read b = none) := by rw [HRD.out, HNUM.out, HD.out]; exact Lib.hid rfl
            go_wp2_with fail
            refine (Tryz.strconv_Atoi_syntax_var s (by omega) hat tp p wr hv).mono ?_
            rintro e w4 ⟨N, rfl, hN, _, hb4⟩
            clear hat hv
            have hr04 : w4.heap[w.heap.size]? = some (.cells #[.int .i64 0, .slice none 0 0] 24 (0, 0)) := by rw [hb4.block _ (heap_lt HR0r.out)]; exact HR0r.out
            have HR04 := Lib.hid hr04
            have p0 : w4.frozen? ⟨w.heap.size, 0, none⟩ = false := root_frozen hr04 0
            have p1 : w4.frozen? ⟨w.heap.size, 1, none⟩ = false := root_frozen hr04 1
            have z0 : w4.cell? ⟨w.heap.size, 0, none⟩ = some (.int .i64 0) := root_cell hr04 0 _ rfl
            have z1 : w4.cell? ⟨w.heap.size, 1, none⟩ = some (.slice none 0 0) := root_cell hr04 1 _ rfl
            have HBw4 := Lib.hid (HBw.out.trans (hb4.mono HBw.out.size))
            clear hr04 hb4
            go_wp2_with fail
            refine mdec_end w.heap.size 0 2 _ rfl rfl rfl (heap_set (heap_set HR04.out _) _) ?_
            exact ⟨((HBw4.out.setCell (p := ⟨w.heap.size, 0, none⟩) (Nat.le_refl _) _).setCell (p := ⟨w.heap.size, 1, none⟩) (Nat.le_refl _) _), .inr ⟨HRN.out, rfl⟩⟩
        · have hjn1 : (n : Int) ≤ (j : Int) := by omega
          have hjn2 : j = n := by omega
          obtain ⟨v0, l0, hac⟩ : ∃ v0 l0, acc = v0 :: l0 := by
            cases hacc : acc with
            | nil => have := HAL.out; rw [hacc] at this; simp at this; omega
            | cons a r => exact ⟨a, r, rfl⟩
          subst hac
          have HFT : Hid (Mf.read b = Mf.fit b (v0 :: l0)) := by
            rw [HRD.out, HNUM.out, List.drop_of_length_le (by rw [List.length_map]; omega)]
            show Hid (((some []).map _).bind _ = _)
            refine Lib.hid ?_
            simp only [Option.map_some, Option.bind_some, List.append_nil]
          obtain ⟨sva, svn, svc, hsv, HSVN⟩ := OwnI.form3 HOI.out
          subst hsv
          have q0 : wr.cell? ⟨w1.heap.size + 1, 0, none⟩ = some (.int .i64 v0) := root_cell HM.out 0 _ rfl
          have q1 : wr.cell? ⟨w1.heap.size + 1, 1, none⟩ = some (.slice sva svn svc) := root_cell HM.out 1 _ rfl
          have HLL : Hid (l0.length ≤ 1000000000) := by have := HAL.out; simp at this; exact Lib.hid (by omega)
          go_wp2_with fail
          refine (mencode_any v0 _ l0 wr B (HE.out.sg.below (HBw.out.mono hBw)) (Nat.le_trans hBw HBw.out.size) HOI.out.nums HLL.out).mono ?_
          rintro e w4 ⟨hb4, hres⟩
          have HB4 := Lib.hid hb4
          have hM4 : w4.heap[w1.heap.size + 1]? = some (.cells #[.int .i64 v0, .slice sva svn svc] 24 (0, 0)) := by rw [hb4.block _ hg6]; exact HM.out
          have hr04 : w4.heap[w.heap.size]? = some (.cells #[.int .i64 0, .slice none 0 0] 24 (0, 0)) := by rw [hb4.block _ (heap_lt HR0r.out)]; exact HR0r.out
          have HR04 := Lib.hid hr04
          have HM4 := Lib.hid hM4
          have x0 : w4.cell? ⟨w1.heap.size + 1, 0, none⟩ = some (.int .i64 v0) := root_cell hM4 0 _ rfl
          have x1 : w4.cell? ⟨w1.heap.size + 1, 1, none⟩ = some (.slice sva svn svc) := root_cell hM4 1 _ rfl
          have p0 : w4.frozen? ⟨w.heap.size, 0, none⟩ = false := root_frozen hr04 0
          have p1 : w4.frozen? ⟨w.heap.size, 1, none⟩ = false := root_frozen hr04 1
          have z0 : w4.cell? ⟨w.heap.size, 0, none⟩ = some (.int .i64 0) := root_cell hr04 0 _ rfl
          have z1 : w4.cell? ⟨w.heap.size, 1, none⟩ = some (.slice none 0 0) := root_cell hr04 1 _ rfl
          have HBw4 := Lib.hid (HBw.out.trans (hb4.mono HBw.out.size))
          have hz4 := hb4.size
          clear hb4 hM4 hr04 q0 q1
          rcases hres with ⟨hg, bb, rfl, hob⟩ | ⟨hg, rfl⟩
          · obtain ⟨ba, bn, bc, hbv, HBN⟩ := OwnB.form3 hob
            subst hbv
            have HOB := Lib.hid hob
            have hbl : (Mf.enc v0 l0).length ≤ 1000000000 := by have := Mf.enc_len hg; omega
            have HV4 := Lib.hid (HV.out.below HBw4.out)
            have HG := Lib.hid hg
            clear hob hg
            go_wp2_with fail
            refine (bytesEqual_any _ _ (Mf.enc v0 l0) b w4 HOB.out.byts HV4.out hbl hl).mono ?_
            rintro e w5 ⟨rfl, hw5⟩
            subst hw5
            by_cases heq : Mf.enc v0 l0 = b
            · have HRS : Hid (Mf.read b = some (v0, l0)) := by rw [HFT.out, Mf.fit, if_pos ⟨HG.out, heq⟩]; exact Lib.hid rfl
              have hb : (Mf.enc v0 l0 == b) = true := by rw [beq_iff_eq]; exact heq
              rw [hb]
              clear heq hb
              go_wp2_with fail
              refine mdec_end w.heap.size v0 0 (.slice sva svn svc) rfl rfl rfl (heap_set (heap_set HR04.out _) _) ?_
              refine ⟨((HBw4.out.setCell (p := ⟨w.heap.size, 0, none⟩) (Nat.le_refl _) _).setCell (p := ⟨w.heap.size, 1, none⟩) (Nat.le_refl _) _), .inl ⟨v0, l0, _, HRS.out, rfl, ?_⟩⟩
              have ho := HOI.out.keep HB4.out
              refine row_kept (ho.mono2 (by omega)) (fun g hg => ?_)
              have := (World.ownsRow.lt ho g hg).1
              rw [Below.heap_setCell _ _ _ _ (by show g ≠ w.heap.size; omega), Below.heap_setCell _ _ _ _ (by show g ≠ w.heap.size; omega)]
            · have HRS : Hid (Mf.read b = none) := by rw [HFT.out, Mf.fit, if_neg (fun h => heq h.2)]; exact Lib.hid rfl
              have hb : (Mf.enc v0 l0 == b) = false := by rw [beq_eq_false_iff_ne]; exact heq
              rw [hb]
              clear heq hb
              go_wp2_with fail
              refine mdec_end w.heap.size 0 2 _ rfl rfl rfl (heap_set (heap_set HR04.out _) _) ?_
              exact ⟨((HBw4.out.setCell (p := ⟨w.heap.size, 0, none⟩) (Nat.le_refl _) _).setCell (p := ⟨w.heap.size, 1, none⟩) (Nat.le_refl _) _), .inr ⟨HRS.out, rfl⟩⟩
          · have HRS : Hid (Mf.read b = none) := by rw [HFT.out, Mf.fit, if_neg (fun h => by rw [hg] at h; cases h.1)]; exact Lib.hid rfl
            clear hg
            go_wp2_with fail
            refine mdec_end w.heap.size 0 2 _ rfl rfl rfl (heap_set (heap_set HR04.out _) _) ?_
            exact ⟨((HBw4.out.setCell (p := ⟨w.heap.size, 0, none⟩) (Nat.le_refl _) _).setCell (p := ⟨w.heap.size, 1, none⟩) (Nat.le_refl _) _), .inr ⟨HRS.out, rfl⟩⟩
    · have HRD : Hid (Mf.read b = none) := by unfold Mf.read; rw [if_pos (.inr (by rw [← HK.out]; exact hk9))]; exact Lib.hid rfl
      have ht : (K != 9) = true := by rw [bne_iff_ne]; exact hk9
      clear hk9
      go_wp2_with fail
      refine mdec_end w.heap.size 0 2 _ rfl rfl rfl (by rw [Lib.alloc_old _ _ _ (by simp [World.setCell]; exact hz1)]; exact heap_set (heap_set HR1.out _) _) ?_
      exact ⟨((HB1.out.setCell (p := ⟨w.heap.size, 0, none⟩) (Nat.le_refl _) _).setCell (p := ⟨w.heap.size, 1, none⟩) (Nat.le_refl _) _).alloc (by simp [World.setCell]; omega) _, .inr ⟨HRD.out, rfl⟩⟩
  · have HRD : Hid (Mf.read b = none) := by unfold Mf.read; rw [if_pos (.inl h0)]; exact Lib.hid rfl
    have p0 : w1.frozen? ⟨w.heap.size, 0, none⟩ = false := root_frozen HR1.out 0
    have p1 : w1.frozen? ⟨w.heap.size, 1, none⟩ = false := root_frozen HR1.out 1
    have q0 : w1.cell? ⟨w.heap.size, 0, none⟩ = some (.int .i64 0) := root_cell HR1.out 0 _ rfl
    have q1 : w1.cell? ⟨w.heap.size, 1, none⟩ = some (.slice none 0 0) := root_cell HR1.out 1 _ rfl
    have ht : (Fr.decE b != 0) = true := by rw [bne_iff_ne]; exact h0
    go_wp2_with fail
    refine mdec_end w.heap.size 0 2 _ rfl rfl rfl (by rw [Lib.alloc_old _ _ _ (by simp [World.setCell]; exact hz1)]; exact heap_set (heap_set HR1.out _) _) ?_
    exact ⟨((HB1.out.setCell (p := ⟨w.heap.size, 0, none⟩) (Nat.le_refl _) _).setCell (p := ⟨w.heap.size, 1, none⟩) (Nat.le_refl _) _).alloc (by simp [World.setCell]; omega) _, .inr ⟨HRD.out, rfl⟩⟩
end Go.Proofs.YtcinagglbkbmkaaGreatDoor
