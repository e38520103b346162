/-
  Manifests: Save, walked (whole). 'ManifestLast': what holds from round to round (plain). Cleaning (plain); in calm weather. Manifests: Clean, walked. 'ManifestCleans': what holds from round to round (plain).
-/
import Derived.Test.YtcinagglbkbmkaaGreatDoorZc10
import Derived.Test.YtcinagglbkbmkaaGreatDoorZc9
namespace Go.Proofs.YtcinagglbkbmkaaGreatDoor
set_option linter.unusedSimpArgs false
set_option linter.unusedVariables false
open Go Go.RowKit
open Go.Maps Go.WideMaps

theorem OwnB.bytesIn {w : World} {base : Nat} {own : Nat → Tag} {v : Value} {l : List UInt8} (h : OwnB w base v l) (hl : 0 < l.length) (ho : ∀ k, base ≤ k → own k = .other) : BytesIn w own v l := by
  obtain ⟨g, c, hv⟩ := row_form h hl
  subst hv
  have hlt := h.lt g rfl
  obtain ⟨_, c9, e9, hc9⟩ := h.byts.form
  have hcap : l.length ≤ c := by simp only [Value.slice.injEq] at e9; omega
  refine ⟨g, 0, c, rfl, hcap, hlt.2, ho g hlt.1, fun i x hx => ?_⟩
  obtain ⟨b, off, e1, e2, e3⟩ := h.byts.at hx
  cases e1
  exact e3
theorem BytesIn.others {w w' : World} {own own' : Nat → Tag} {v : Value} {l : List UInt8} (h : BytesIn w own v l) (ho : Others own own' w w') : BytesIn w' own' v l := by
  obtain ⟨g, o, c, h1, hc, h2, h3, h4⟩ := h
  obtain ⟨k1, k2⟩ := ho.2 g h2 h3
  exact ⟨g, o, c, h1, hc, Nat.lt_of_lt_of_le h2 ho.1, k1, fun i x hi => by rw [World.cell?_of_block k2]; exact h4 i x hi⟩
theorem enters_S1 (cap : Array Value) (w : World) : Sem.run Tryz.prog (callFunc 70 cap) w = .ok (.enter 70 cap) w := by kernel_rfl
theorem enters_S2 (cap : Array Value) (w : World) : Sem.run Tryz.prog (callFunc 72 cap) w = .ok (.enter 72 cap) w := by kernel_rfl
theorem enters_S3 (cap : Array Value) (w : World) : Sem.run Tryz.prog (callFunc 73 cap) w = .ok (.enter 73 cap) w := by kernel_rfl
theorem enters_S4 (cap : Array Value) (w : World) : Sem.run Tryz.prog (callFunc 74 cap) w = .ok (.enter 74 cap) w := by kernel_rfl
theorem enters_S5 (cap : Array Value) (w : World) : Sem.run Tryz.prog (callFunc 76 cap) w = .ok (.enter 76 cap) w := by kernel_rfl
theorem enters_S6 (cap : Array Value) (w : World) : Sem.run Tryz.prog (callFunc 78 cap) w = .ok (.enter 78 cap) w := by kernel_rfl
def saveVs (B fb bb : Nat) : List FnV :=
  [⟨.func (.func 70) #[] #[.pointer (some ⟨fb, 0, none⟩)], 70, #[], #[.pointer (some ⟨fb, 0, none⟩)]⟩,
   ⟨.func (.func 72) #[] #[.pointer (some ⟨fb, 0, none⟩)], 72, #[], #[.pointer (some ⟨fb, 0, none⟩)]⟩,
   ⟨.func (.func 73) #[] #[.pointer (some ⟨fb, 0, none⟩), .pointer (some ⟨bb, 0, none⟩)], 73, #[], #[.pointer (some ⟨fb, 0, none⟩), .pointer (some ⟨bb, 0, none⟩)]⟩,
   ⟨.func (.func 74) #[] #[.pointer (some ⟨fb, 0, none⟩)], 74, #[], #[.pointer (some ⟨fb, 0, none⟩)]⟩,
   ⟨.func (.func 76) #[] #[.pointer (some ⟨fb, 0, none⟩)], 76, #[], #[.pointer (some ⟨fb, 0, none⟩)]⟩,
   ⟨.func (.func 78) #[.pointer (some ⟨B, 0, none⟩)] #[], 78, #[.pointer (some ⟨B, 0, none⟩)], #[]⟩]
theorem saveVs_run (B fb bb : Nat) : ∀ (j : Nat) x, (saveVs B fb bb)[j]? = some x → x.val = .func (.func x.k) x.fst x.cap ∧ ∀ w, Sem.run Tryz.prog (callFunc x.k (x.fst ++ x.cap)) w = .ok (.enter x.k (x.fst ++ x.cap)) w
  | 0, x, h => by simp [saveVs] at h; subst h; exact ⟨rfl, fun w => enters_S1 _ w⟩
  | 1, x, h => by simp [saveVs] at h; subst h; exact ⟨rfl, fun w => enters_S2 _ w⟩
  | 2, x, h => by simp [saveVs] at h; subst h; exact ⟨rfl, fun w => enters_S3 _ w⟩
  | 3, x, h => by simp [saveVs] at h; subst h; exact ⟨rfl, fun w => enters_S4 _ w⟩
  | 4, x, h => by simp [saveVs] at h; subst h; exact ⟨rfl, fun w => enters_S5 _ w⟩
  | 5, x, h => by simp [saveVs] at h; subst h; exact ⟨rfl, fun w => enters_S6 _ w⟩
  | j + 6, x, h => by simp [saveVs] at h
/-- What stands between the steps. -/
def SaveJ (k j : Nat) (st : Fs.St) : Prop := Fs.Sound st (k + 2 * j) ∧ Fs.PlanOK st
theorem saveJ_next (k : Nat) (b : List UInt8) : ∀ (j : Nat) f st, (Mf.steps b)[j]? = some f → SaveJ k j st → SaveJ k (j + 1) (f st).1
  | 0, f, st, h, hj => by
    simp [Mf.steps] at h; subst h
    unfold Mf.clear
    split
    · exact ⟨hj.1.remove _, hj.2.of (Fs.plan_remove _ _)⟩
    · exact ⟨hj.1.mono (by omega), hj.2⟩
  | 1, f, st, h, hj => by simp [Mf.steps] at h; subst h; exact ⟨hj.1.create _, hj.2.of (Fs.plan_create _ _)⟩
  | 2, f, st, h, hj => by simp [Mf.steps] at h; subst h; exact ⟨(hj.1.append _ _).mono (by omega), hj.2.of (Fs.plan_append _ _ _)⟩
  | 3, f, st, h, hj => by simp [Mf.steps] at h; subst h; exact ⟨(hj.1.sync _).mono (by omega), hj.2.of (Fs.plan_sync _ _)⟩
  | 4, f, st, h, hj => by simp [Mf.steps] at h; subst h; exact ⟨hj.1.rename _ _, hj.2.of (Fs.plan_rename _ _ _)⟩
  | 5, f, st, h, hj => by simp [Mf.steps] at h; subst h; exact ⟨hj.1.syncDir.mono (by omega), hj.2.of (Fs.plan_syncDir _)⟩
  | j + 6, f, st, h, hj => by simp [Mf.steps] at h
theorem first_sound {k n : Nat} : ∀ (fs : List (Fs.St → Fs.St × Int)) (j : Nat) (st : Fs.St), (∀ (i : Nat) f st, fs[i]? = some f → SaveJ k (j + i) st → SaveJ k (j + i + 1) (f st).1) → j + fs.length ≤ n → SaveJ k j st → SaveJ k n (Fs.first fs st).1
  | [], j, st, _, hn, h => ⟨h.1.mono (by simp at hn; omega), h.2⟩
  | f :: r, j, st, hf, hn, h => by
    have h1 := hf 0 f st rfl h
    rw [Fs.first]
    rw [List.length_cons] at hn
    split
    · exact ⟨h1.1.mono (by omega), h1.2⟩
    · exact first_sound r (j + 1) _ (fun i g s hg hs => by
        have := hf (i + 1) g s (by simpa using hg) (by rw [show j + (i + 1) = j + 1 + i by omega]; exact hs)
        rw [show j + (i + 1) + 1 = j + 1 + i + 1 by omega] at this
        exact this) (by omega) h1
theorem save_sound {st : Fs.St} {k : Nat} (hS : Fs.Sound st k) (hP : Fs.PlanOK st) (v : Int) (l : List Int) : Fs.Sound (Mf.save st v l).1 (k + 12) ∧ Fs.PlanOK (Mf.save st v l).1 := by
  unfold Mf.save
  split
  · exact ⟨hS.mono (by omega), hP⟩
  · exact first_sound (n := 6) _ 0 st (fun i f s hf hs => by
      rw [Nat.zero_add] at hs ⊢
      exact saveJ_next k _ i f s hf hs) (by simp [Mf.steps]) ⟨hS, hP⟩
theorem enc_pos (v : Int) (l : List Int) : 0 < (Mf.enc v l).length := by unfold Mf.enc; rw [Fr.bytes_len]; omega
set_option maxHeartbeats 1000000 in
set_option maxRecDepth 100000 in
theorem save_any (base B : Nat) (st : Fs.St) (V : FsV) (own : Nat → Tag) (ver : Int) (sv : Value) (l : List Int) (w : World) (h : FsOK base B st V own w) (hE : SgEnv base w) (hbase : base ≤ w.heap.size) (k : Nat) (hS : Fs.Sound st k) (hk : k ≤ 600000) (hP : Fs.PlanOK st)
    (hN : Nums w sv l) (hl : l.length ≤ 1000000000) :
    Calls Tryz.prog 23 #[.pointer (some ⟨B, 0, none⟩), .agg #[.int .i64 ver, sv]] w fun e w' => e = .returned (.int .i64 (Mf.save st ver l).2) ∧ OpPost base B (Mf.save st ver l).1 own w w' := by
  obtain ⟨sa, sc, rfl⟩ := hN.form
  have e1 : (w.alloc (.cells #[.pointer (some ⟨B, 0, none⟩)] 43)).heap.size = w.heap.size + 1 := by simp
  have hb0 : Below w.heap.size w ((w.alloc (.cells #[.pointer (some ⟨B, 0, none⟩)] 43)).alloc (.cells #[.int .i64 ver, .slice sa l.length sc] 24)) := ((Below.refl _ _).alloc (Nat.le_refl _) _).alloc (by simp) _
  have hr0 := heap_new (w.alloc (.cells #[.pointer (some ⟨B, 0, none⟩)] 43)) (.cells #[.int .i64 ver, .slice sa l.length sc] 24)
  rw [e1] at hr0
  have hf0 : ((w.alloc (.cells #[.pointer (some ⟨B, 0, none⟩)] 43)).alloc (.cells #[.int .i64 ver, .slice sa l.length sc] 24)).cell? ⟨w.heap.size, 0, none⟩ = some (.pointer (some ⟨B, 0, none⟩)) := by
    rw [World.cell?_of_block (Lib.alloc_old _ _ _ (by simp))]
    exact cell_new w _ _ 0 _ rfl
  have y0 : ((w.alloc (.cells #[.pointer (some ⟨B, 0, none⟩)] 43)).alloc (.cells #[.int .i64 ver, .slice sa l.length sc] 24)).cell? ⟨w.heap.size + 1, 0, none⟩ = some (.int .i64 ver) := root_cell hr0 0 _ rfl
  have y1 : ((w.alloc (.cells #[.pointer (some ⟨B, 0, none⟩)] 43)).alloc (.cells #[.int .i64 ver, .slice sa l.length sc] 24)).cell? ⟨w.heap.size + 1, 1, none⟩ = some (.slice sa l.length sc) := root_cell hr0 1 _ rfl
  have H := Lib.hid h
  have HE := Lib.hid hE
  have HN := Lib.hid hN
  have HB0 := Lib.hid hb0
  have HF0 := Lib.hid hf0
  clear h hE hN hb0 hr0 e1 hf0
  go_enter Tryz.func23, Tryz.ntmps23
  go_wp2_with fail
  refine (mencode_any ver _ l _ base (HE.out.below (HB0.out.mono hbase)) (Nat.le_trans hbase HB0.out.size) (HN.out.below HB0.out) hl).mono ?_
  rintro e w1 ⟨hb1, hres⟩
  have HB1 := Lib.hid (HB0.out.trans (hb1.mono HB0.out.size))
  have H1 := Lib.hid (H.out.kept (kept_below HB1.out))
  have hf1 : w1.cell? ⟨w.heap.size, 0, none⟩ = some (.pointer (some ⟨B, 0, none⟩)) := by rw [hb1.cell (cellLt HF0.out)]; exact HF0.out
  have hz1 : w.heap.size + 2 ≤ w1.heap.size := by have := hb1.size; simp at this; omega
  clear hb1 y0 y1
  rcases hres with ⟨hg, b, rfl, hob⟩ | ⟨hg, rfl⟩
  · obtain ⟨ba, bn, bc, hbv, HBN⟩ := OwnB.form3 hob
    subst hbv
    have HOB := Lib.hid hob
    have HG := Lib.hid hg
    clear hg hob
    have hf2 : (w1.alloc (.cells #[.slice ba bn bc] 25)).cell? ⟨w.heap.size, 0, none⟩ = some (.pointer (some ⟨B, 0, none⟩)) := by rw [World.cell?_of_block (Lib.alloc_old _ _ _ (show w.heap.size < w1.heap.size by omega))]; exact hf1
    have hbb2 : (w1.alloc (.cells #[.slice ba bn bc] 25)).cell? ⟨w1.heap.size, 0, none⟩ = some (.slice ba bn bc) := cell_new _ _ _ 0 _ rfl
    have hb12 : Below w1.heap.size w1 ((w1.alloc (.cells #[.slice ba bn bc] 25)).alloc (.cells ((saveVs B w.heap.size w1.heap.size).map (·.val)).toArray 33)) := ((Below.refl _ _).alloc (Nat.le_refl _) _).alloc (by simp) _
    have HK12 := Lib.hid (H1.out.kept (kept_below hb12))
    have hcell : ∀ (j : Nat) x, (saveVs B w.heap.size w1.heap.size)[j]? = some x → ((w1.alloc (.cells #[.slice ba bn bc] 25)).alloc (.cells ((saveVs B w.heap.size w1.heap.size).map (·.val)).toArray 33)).cell? ⟨w1.heap.size + 1, j, none⟩ = some x.val ∧ x.val = .func (.func x.k) x.fst x.cap ∧ ∀ w, Sem.run Tryz.prog (callFunc x.k (x.fst ++ x.cap)) w = .ok (.enter x.k (x.fst ++ x.cap)) w := fun j x hx => by
      refine ⟨?_, saveVs_run B _ _ j x hx⟩
      have e2 : (w1.alloc (.cells #[.slice ba bn bc] 25)).heap.size = w1.heap.size + 1 := by simp
      rw [← e2]
      exact cell_new _ _ _ j _ (by simp [hx])
    have HBY : Hid (BytesIn ((w1.alloc (.cells #[.slice ba bn bc] 25)).alloc (.cells ((saveVs B w.heap.size w1.heap.size).map (·.val)).toArray 33)) own (.slice ba bn bc) (Mf.enc ver l)) :=
      Lib.hid (((HOB.out.bytesIn (enc_pos ver l) (fun k hk => H.out.fresh k (by simp at hk; omega))).kept (kept_below (T := (· ≠ .other)) hb12) (by simp)))
    have HFB : Hid (((w1.alloc (.cells #[.slice ba bn bc] 25)).alloc (.cells ((saveVs B w.heap.size w1.heap.size).map (·.val)).toArray 33)).cell? ⟨w.heap.size, 0, none⟩ = some (.pointer (some ⟨B, 0, none⟩))) := by
      rw [World.cell?_of_block (Lib.alloc_old _ _ _ (by simp; omega))]; exact Lib.hid hf2
    have HBB : Hid (((w1.alloc (.cells #[.slice ba bn bc] 25)).alloc (.cells ((saveVs B w.heap.size w1.heap.size).map (·.val)).toArray 33)).cell? ⟨w1.heap.size, 0, none⟩ = some (.slice ba bn bc)) := by
      rw [World.cell?_of_block (Lib.alloc_old _ _ _ (by simp))]; exact Lib.hid hbb2
    have HFIRST := Lib.hid (first_any base B (Mf.steps (Mf.enc ver l)) (saveVs B w.heap.size w1.heap.size) (w1.heap.size + 1) (SaveJ k) st V own _ HK12.out ⟨hS, hP⟩ rfl (by simp [Mf.steps]) (by simp; try omega) (H.out.fresh _ (by omega)) hcell
      (by
        intro j f x hf hx st' V' own' w' hok hJ hO
        have hfb : w'.cell? ⟨w.heap.size, 0, none⟩ = some (.pointer (some ⟨B, 0, none⟩)) := by
          rw [World.cell?_of_block (hO.2 w.heap.size (by simp; omega) (H.out.fresh _ (Nat.le_refl _))).2]; exact HFB.out
        have hbb : w'.cell? ⟨w1.heap.size, 0, none⟩ = some (.slice ba bn bc) := by
          rw [World.cell?_of_block (hO.2 w1.heap.size (by simp; omega) (H.out.fresh _ (by omega))).2]; exact HBB.out
        have hbw : base ≤ w'.heap.size := by have := hO.1; simp at this; omega
        match j, hf, hx with
        | 0, hf, hx => simp [Mf.steps] at hf; simp [saveVs] at hx; subst hf hx; exact save1_any base B st' V' own' w' hok hbw _ hJ.1 (by omega) _ hfb
        | 1, hf, hx => simp [Mf.steps] at hf; simp [saveVs] at hx; subst hf hx; exact save2_any base B st' V' own' w' hok hbw _ hJ.1 (by omega) _ hfb
        | 2, hf, hx =>
          simp [Mf.steps] at hf; simp [saveVs] at hx; subst hf hx
          exact save3_any base B st' V' own' w' hok hbw _ hJ.1 (by omega) _ hfb _ _ _ (HBY.out.others hO) hbb (by have := Mf.enc_len HG.out; omega) hJ.2
        | 3, hf, hx => simp [Mf.steps] at hf; simp [saveVs] at hx; subst hf hx; exact save4_any base B st' V' own' w' hok hbw _ hJ.1 (by omega) _ hfb
        | 4, hf, hx => simp [Mf.steps] at hf; simp [saveVs] at hx; subst hf hx; exact save5_any base B st' V' own' w' hok hbw _ hJ.1 (by omega) _ hfb
        | 5, hf, hx => simp [Mf.steps] at hf; simp [saveVs] at hx; subst hf hx; exact syncDir_any base B st' V' own' w' hok
        | j + 6, hf, hx => simp [Mf.steps] at hf)
      (fun j f s hf hs _ => saveJ_next k _ j f s hf hs))
    have HB12 := Lib.hid (HB1.out.trans (hb12.mono HB1.out.size))
    have HSV : Hid (Mf.save st ver l = Fs.first (Mf.steps (Mf.enc ver l)) st) := by unfold Mf.save; rw [if_neg (by rw [HG.out]; simp)]; exact Lib.hid rfl
    clear hcell hb12 hbb2
    go_wp2_with fail
    refine HFIRST.out.mono ?_
    rintro e w3 ⟨rfl, hp⟩
    have HP := Lib.hid hp
    clear hp
    go_wp2_with fail
    go_ret
    rw [HSV.out]
    exact ⟨rfl, OpPost.step (kept_below HB12.out) (fun _ _ => rfl) HP.out⟩
  · have HSV : Hid (Mf.save st ver l = (st, 1)) := by unfold Mf.save; rw [if_pos hg]; exact Lib.hid rfl
    clear hg
    go_wp2_with fail
    go_ret
    rw [HSV.out]
    exact ⟨rfl, OpPost.of H.out (HB1.out.trans (((Below.refl _ _).alloc (Nat.le_refl _) _).mono HB1.out.size))⟩
end Go.Proofs.YtcinagglbkbmkaaGreatDoor
namespace Go.Proofs.YtcinagglbkbmkaaGreatDoor
set_option linter.unusedSimpArgs false
set_option linter.unusedVariables false
open Go Go.RowKit
namespace Fs
/-- What holds ahead of round i. -/
structure LastInv (i : Nat) (st : St) (last : Int × List Int) : Prop where
  calm : Calm st
  inv : Inv st
  sound : Sound st (20 * i)
  room : st.room = 60000
  len : ∀ n b, look st n = some b → b.length ≤ 800 + i
  dir : st.dir.length ≤ i + (if mhas st.dir Mf.final then 1 else 0)
  zero : last.1 = 0 → look st Mf.final = none
  cur : last.1 ≠ 0 → Mf.good last.1 last.2 = true ∧ look st Mf.final = some (Mf.enc last.1 last.2)
theorem LastInv.new : LastInv 0 (Fs.new 60000) (0, []) :=
  ⟨⟨rfl, rfl⟩, Inv.new _, Sound.new ⟨by decide, by decide⟩ _, rfl, fun n b h => (by rw [look_new] at h; cases h), Nat.zero_le _, fun _ => rfl, fun h => absurd rfl h⟩
theorem LastInv.next {i : Nat} {st : St} {last : Int × List Int} (h : LastInv i st last) : LastInv (i + 1) st last :=
  ⟨h.calm, h.inv, h.sound.mono (by omega), h.room, fun n b hb => by have := h.len n b hb; omega, by have := h.dir; omega, h.zero, h.cur⟩
theorem LastInv.plan {i : Nat} {st : St} {last : Int × List Int} (h : LastInv i st last) : PlanOK st := fun z hz => by rw [h.calm.2] at hz; cases hz
theorem has_look {st : St} {n : List UInt8} : mhas st.dir n = (look st n).isSome := by
  unfold look
  cases mhas st.dir n <;> rfl
/-- A Mf.save. -/
theorem LastInv.save {i : Nat} {st : St} {last : Int × List Int} (h : LastInv i st last) (hi : i < 20) (v : Int) (l : List Int) :
    (Mf.good v l = true ∧ (Mf.save st v l).2 = 0 ∧ LastInv i { st with } last ∧ ∀ k, k = i → (Calm (Mf.save st v l).1 ∧ Inv (Mf.save st v l).1 ∧ Sound (Mf.save st v l).1 (20 * i + 12) ∧ (Mf.save st v l).1.room = 60000 ∧ (∀ n b, look (Mf.save st v l).1 n = some b → b.length ≤ 800 + i) ∧
      (Mf.save st v l).1.dir.length ≤ i + 1 ∧ look (Mf.save st v l).1 Mf.final = some (Mf.enc v l))) ∨ (Mf.good v l = false ∧ Mf.save st v l = (st, 1)) := by
  cases hg : Mf.good v l
  · exact .inr ⟨rfl, by unfold Mf.save; rw [if_pos hg]⟩
  · have hd : st.dir.length ≤ i + 1 := by have := h.dir; split at this <;> omega
    have hm : (st.dir.length + 1) * (800 + i) ≤ 22 * 820 := Nat.mul_le_mul (by omega) (by omega)
    obtain ⟨h1, h2, h3, h4, h5, h6⟩ := Mf.save_calm h.calm h.inv hg (by omega) (M := 800 + i) h.len (by rw [h.room]; omega) (fun f hf => (h.sound.full f hf).2)
    obtain ⟨s1, s2⟩ := save_sound h.sound h.plan v l
    refine .inl ⟨rfl, h1, h, fun k _ => ⟨h2.calm, h2.inv, s1, h2.room.trans h.room, fun n b hb => ?_, ?_, by rw [h6, if_pos rfl]⟩⟩
    · rw [h6] at hb
      by_cases hn : n = Mf.final
      · rw [if_pos hn] at hb
        have := Mf.enc_len hg
        have e : Mf.enc v l = b := Option.some.inj hb
        rw [← e]; omega
      · rw [if_neg hn] at hb
        by_cases hn2 : n = Mf.draft
        · rw [if_pos hn2] at hb; cases hb
        · rw [if_neg hn2] at hb; exact h.len n b hb
    · cases hf : mhas st.dir Mf.final
      · have := h.dir
        rw [hf] at this
        simp at this
        omega
      · have h7 := h4 hf
        have := h.dir
        rw [hf] at this
        simp at this
        omega
/-- Behind the Mf.save. -/
structure LastMid (i : Nat) (st : St) (last : Int × List Int) : Prop where
  calm : Calm st
  inv : Inv st
  sound : Sound st (20 * i + 12)
  room : st.room = 60000
  len : ∀ n b, look st n = some b → b.length ≤ 800 + i
  dir : st.dir.length ≤ i + (if mhas st.dir Mf.final then 1 else 0)
  zero : last.1 = 0 → look st Mf.final = none
  cur : last.1 ≠ 0 → Mf.good last.1 last.2 = true ∧ look st Mf.final = some (Mf.enc last.1 last.2)
theorem LastMid.next {i : Nat} {st : St} {last : Int × List Int} (h : LastMid i st last) : LastInv (i + 1) st last :=
  ⟨h.calm, h.inv, h.sound.mono (by omega), h.room, fun n b hb => by have := h.len n b hb; omega, by have := h.dir; omega, h.zero, h.cur⟩
theorem LastMid.plan {i : Nat} {st : St} {last : Int × List Int} (h : LastMid i st last) : PlanOK st := fun z hz => by rw [h.calm.2] at hz; cases hz
/-- Another file: created, written to, perhaps removed. -/
def other (st : St) (s : List UInt8) (rm : Bool) : St :=
  if rm then (remove (append (create st s).1 s [1]).1 s).1 else (append (create st s).1 s [1]).1
theorem other_bad {st : St} {s : List UInt8} (hg : Fs.good s = false) (rm : Bool) : other st s rm = st := by

  have h1 : (create st s).1 = st := by unfold create; rw [if_pos hg]
  have h2 : openE st s ≠ 0 := by unfold openE; rw [if_pos hg]; decide
  have h3 : (append st s [1]).1 = st := by unfold append; rw [if_pos h2]
  have h4 : (remove st s).1 = st := by unfold remove; rw [if_pos h2]
  unfold other
  rw [h1, h3, h4]
  split <;> rfl
theorem LastMid.other {i : Nat} {st : St} {last : Int × List Int} (h : LastMid i st last) (hi : i < 20) {s : List UInt8} (hs : s ≠ Mf.final) (rm : Bool) : LastInv (i + 1) (other st s rm) last ∧ Sound (create st s).1 (20 * i + 14) ∧ PlanOK (create st s).1 ∧ Sound (append (create st s).1 s [1]).1 (20 * i + 14) := by
  have hs1 := h.sound.create s
  have hs2 := hs1.append s [1]
  have hp1 := h.plan.of (plan_create st s)
  refine ⟨?_, hs1, hp1, hs2⟩
  cases hg : Fs.good s
  · rw [other_bad hg]; exact h.next
  have hd : st.dir.length ≤ i + 1 := by have := h.dir; split at this <;> omega
  -- the file is there
  obtain ⟨s1, e1, c1, i1, r1, l1, d1, ⟨old, o1, o2⟩, k1⟩ : ∃ s1, (create st s).1 = s1 ∧ Calm s1 ∧ Inv s1 ∧ s1.room = 60000 ∧ (∀ n b, look s1 n = some b → b.length ≤ 800 + i) ∧ s1.dir.length ≤ st.dir.length + 1 ∧
      (∃ old, look s1 s = some old ∧ old.length ≤ 800 + i) ∧ ∀ m, m ≠ s → look s1 m = look st m := by
    cases hh : mhas st.dir s
    · obtain ⟨a1, a2, a3, a4⟩ := calm_create h.calm h.inv hg hh (by omega)
      refine ⟨_, rfl, a2.calm, a2.inv, a2.room.trans h.room, fun n b hb => ?_, by omega, ⟨[], by rw [a4, if_pos rfl], by simp⟩, fun m hm => by rw [a4, if_neg hm]⟩
      rw [a4] at hb
      by_cases hn : n = s
      · rw [if_pos hn] at hb; have e : [] = b := Option.some.inj hb; rw [← e]; simp
      · rw [if_neg hn] at hb; exact h.len n b hb
    · have e : (create st s).1 = st := by unfold create; rw [if_neg (by rw [hg]; simp), if_pos hh]
      refine ⟨st, e, h.calm, h.inv, h.room, h.len, Nat.le_succ _, ?_, fun m _ => rfl⟩
      have : look st s = some (fileAt st s) := by unfold look; rw [if_pos hh]
      exact ⟨_, this, h.len s _ this⟩
  have hu : used s1 ≤ s1.dir.length * (800 + i) := used_look i1 l1
  have hu2 : s1.dir.length * (800 + i) ≤ 22 * 820 := Nat.mul_le_mul (by omega) (by omega)
  obtain ⟨b1, b2, b3, _, b4⟩ := calm_append (b := [1]) c1 i1 hg o1 (by simp; omega) (by rw [r1]; simp; omega)
  have hdir : ∀ (s' : St), s'.dir.length ≤ s1.dir.length → (mhas s'.dir Mf.final = mhas st.dir Mf.final) → s'.dir.length ≤ (i + 1) + (if mhas s'.dir Mf.final then 1 else 0) := by
    intro s' h1 h2
    rw [h2]
    have := h.dir
    omega
  have hfin : mhas (append s1 s [1]).1.dir Mf.final = mhas st.dir Mf.final := by
    rw [has_look, b4, if_neg (fun e => hs e.symm), k1 Mf.final (fun e => hs e.symm), ← has_look]
  have hlk : look (append s1 s [1]).1 Mf.final = look st Mf.final := by rw [b4, if_neg (fun e => hs e.symm), k1 Mf.final (fun e => hs e.symm)]
  have hlen : ∀ n b, look (append s1 s [1]).1 n = some b → b.length ≤ 800 + (i + 1) := by
    intro n b hb
    rw [b4] at hb
    by_cases hn : n = s
    · rw [if_pos hn] at hb; have e : old ++ [1] = b := Option.some.inj hb; rw [← e]; simp; omega
    · rw [if_neg hn] at hb; have := l1 n b hb; omega
  unfold Fs.other
  rw [e1] at hs2 ⊢
  cases rm
  · rw [if_neg (by simp)]
    refine ⟨b2.calm, b2.inv, hs2.mono (by omega), b2.room.trans r1, hlen, hdir _ (by rw [b3]; exact Nat.le_refl _) hfin, fun e => by rw [hlk]; exact h.zero e, fun e => by rw [hlk]; exact h.cur e⟩
  · rw [if_pos rfl]
    have hh2 : mhas (append s1 s [1]).1.dir s = true := by rw [has_look, b4, if_pos rfl]; rfl
    obtain ⟨g1, g2, g3, _, g5⟩ := calm_remove b2.calm b2.inv hg hh2
    have hfin2 : mhas (remove (append s1 s [1]).1 s).1.dir Mf.final = mhas st.dir Mf.final := by
      rw [has_look, g5, if_neg (fun e => hs e.symm), ← has_look]; exact hfin
    have hlk2 : look (remove (append s1 s [1]).1 s).1 Mf.final = look st Mf.final := by rw [g5, if_neg (fun e => hs e.symm)]; exact hlk
    refine ⟨g2.calm, g2.inv, (hs2.remove s).mono (by omega), g2.room.trans (b2.room.trans r1), fun n b hb => ?_, hdir _ (by rw [g3, b3]; exact mdel_len _ _) hfin2, fun e => ?_, fun e => ?_⟩
    · rw [g5] at hb
      by_cases hn : n = s
      · rw [if_pos hn] at hb; cases hb
      · rw [if_neg hn] at hb; exact hlen n b hb
    · show look (remove (append s1 s [1]).1 s).1 Mf.final = none
      rw [hlk2]; exact h.zero e
    · show _ ∧ look (remove (append s1 s [1]).1 s).1 Mf.final = _
      rw [hlk2]; exact h.cur e
theorem LastInv.load {i : Nat} {st : St} {last : Int × List Int} (h : LastInv i st last) : (last.1 = 0 → Mf.load st = ((0, []), 3)) ∧ (last.1 ≠ 0 → Mf.load st = (last, 0)) :=
  ⟨fun e => Mf.load_none (h.zero e), fun e => Mf.load_look (h.cur e).1 (h.cur e).2⟩
end Fs
end Go.Proofs.YtcinagglbkbmkaaGreatDoor
namespace Go.Proofs.YtcinagglbkbmkaaGreatDoor
set_option linter.unusedSimpArgs false
set_option linter.unusedVariables false
open Go Go.RowKit
namespace Fs
/-- Is a name the manifest's, or a segment's of it? -/
def keepN (l : List Int) (n : List UInt8) : Bool := decide (n = Mf.final) || l.contains (Sg.idOf n)
def cleanGo (l : List Int) : List (List UInt8) → St → Nat → St × Nat × Int
  | [], st, n => if n = 0 then (st, 0, 0) else ((syncDir st).1, n, (syncDir st).2)
  | x :: r, st, n => if keepN l x then cleanGo l r st n else if (remove st x).2 ≠ 0 then ((remove st x).1, n, (remove st x).2) else cleanGo l r (remove st x).1 (n + 1)
def clean (st : St) (v : Int) (l : List Int) : St × Nat × Int := if Mf.good v l = false then (st, 0, 1) else cleanGo l (keys st.dir) st 0
theorem mdel_len_eq {l : Names} {k : List UInt8} (hn : l.Pairwise (fun p q => p.1 ≠ q.1)) (h : mhas l k = true) : (mdel l k).length + 1 = l.length := by
  induction l with
  | nil => cases h
  | cons y r ih =>
    rw [List.pairwise_cons] at hn
    by_cases hy : y.1 = k
    · have hr : mhas r k = false := by
        cases hx : mhas r k
        · rfl
        · obtain ⟨p, hp, e⟩ := mhas_mem.1 hx
          exact absurd (hy.trans e.symm) (hn.1 p hp)
      have : mdel (y :: r) k = mdel r k := by unfold mdel; rw [List.filter_cons_of_neg (by simp [hy])]
      rw [this, mdel_none hr]
      rfl
    · have hr : mhas r k = true := by
        unfold mhas at h ⊢
        rw [List.any_cons] at h
        simpa [hy] using h
      have := ih hn.2 hr
      unfold mdel at this ⊢
      rw [List.filter_cons_of_pos (by simp [hy]), List.length_cons, List.length_cons]
      omega
theorem cleanGo_sound {l : List Int} : ∀ (r : List (List UInt8)) (st : St) (n k : Nat), Sound st k → PlanOK st → Sound (cleanGo l r st n).1 (k + 2 * r.length) ∧ PlanOK (cleanGo l r st n).1
  | [], st, n, k, hs, hp => by
    unfold cleanGo
    split
    · exact ⟨hs, hp⟩
    · exact ⟨hs.syncDir, hp.of (plan_syncDir st)⟩
  | x :: r, st, n, k, hs, hp => by
    unfold cleanGo
    have h1 := hs.remove x
    have h2 := hp.of (plan_remove st x)
    split
    · obtain ⟨a, b⟩ := cleanGo_sound r st n k hs hp
      exact ⟨a.mono (by rw [List.length_cons]; omega), b⟩
    split
    · exact ⟨h1.mono (by rw [List.length_cons]; omega), h2⟩
    · obtain ⟨a, b⟩ := cleanGo_sound r (remove st x).1 (n + 1) (k + 2) h1 h2
      exact ⟨a.mono (by rw [List.length_cons]; omega), b⟩
theorem clean_sound {st : St} {k : Nat} (hs : Sound st k) (hp : PlanOK st) (v : Int) (l : List Int) : Sound (clean st v l).1 (k + 2 * k) ∧ PlanOK (clean st v l).1 := by
  unfold clean
  split
  · exact ⟨hs.mono (by omega), hp⟩
  · obtain ⟨a, b⟩ := cleanGo_sound (l := l) (keys st.dir) st 0 k hs hp
    refine ⟨a.mono ?_, b⟩
    have := hs.ndir
    rw [keys_len]; omega
theorem has_some {st : St} {n : List UInt8} : mhas st.dir n = true ↔ ∃ b, look st n = some b := by
  rw [has_look]
  cases look st n <;> simp
theorem cleanGo_calm {l : List Int} : ∀ (r : List (List UInt8)) (st : St) (n : Nat), Calm st → Inv st → r.Nodup → (∀ x ∈ r, mhas st.dir x = true) →
    (cleanGo l r st n).2.2 = 0 ∧ Calm (cleanGo l r st n).1 ∧ Inv (cleanGo l r st n).1 ∧ (cleanGo l r st n).1.room = st.room ∧ (cleanGo l r st n).2.1 + (cleanGo l r st n).1.dir.length = n + st.dir.length ∧
      ∀ m, look (cleanGo l r st n).1 m = if m ∈ r ∧ keepN l m = false then none else look st m
  | [], st, n, hc, hi, _, _ => by
    unfold cleanGo
    split
    · rename_i h; subst h
      exact ⟨rfl, hc, hi, rfl, rfl, fun m => by rw [if_neg (fun h => by cases h.1)]⟩
    · obtain ⟨a1, a2, a3, a4, a5⟩ := calm_syncDir hc hi
      exact ⟨a1, a2.calm, a2.inv, a2.room, by rw [a3], fun m => by rw [if_neg (fun h => by cases h.1)]; exact a5 m⟩
  | x :: r, st, n, hc, hi, hd, hh => by
    rw [List.nodup_cons] at hd
    unfold cleanGo
    cases hk : keepN l x
    · have hx := hh x List.mem_cons_self
      obtain ⟨p, hp, e⟩ := mhas_mem.1 hx
      have hg : good x = true := by rw [← e]; exact hi.gd p hp
      obtain ⟨a1, a2, a3, a4, a5⟩ := calm_remove hc hi hg hx
      rw [if_neg (by simp), if_neg (by simp [a1])]
      obtain ⟨b1, b2, b3, b4, b5, b6⟩ := cleanGo_calm (l := l) r (remove st x).1 (n + 1) a2.calm a2.inv hd.2 (fun y hy => by
        have hne : y ≠ x := fun e => hd.1 (by rw [← e]; exact hy)
        obtain ⟨b, hb⟩ := has_some.1 (hh y (List.mem_cons_of_mem _ hy))
        exact has_some.2 ⟨b, by rw [a5, if_neg hne]; exact hb⟩)
      refine ⟨b1, b2, b3, b4.trans a2.room, ?_, fun m => ?_⟩
      · rw [b5, a3]
        have := mdel_len_eq hi.nd hx
        omega
      · rw [b6, a5]
        by_cases hm : m = x
        · subst hm
          rw [if_neg (fun h => hd.1 h.1), if_pos rfl, if_pos ⟨List.mem_cons_self, hk⟩]
        · rw [if_neg hm]
          by_cases h2 : m ∈ r ∧ keepN l m = false
          · rw [if_pos h2, if_pos ⟨List.mem_cons_of_mem _ h2.1, h2.2⟩]
          · rw [if_neg h2, if_neg (fun h => h2 ⟨by rcases List.mem_cons.1 h.1 with e | e; exact absurd e hm; exact e, h.2⟩)]
    · rw [if_pos rfl]
      obtain ⟨b1, b2, b3, b4, b5, b6⟩ := cleanGo_calm (l := l) r st n hc hi hd.2 (fun y hy => hh y (List.mem_cons_of_mem _ hy))
      refine ⟨b1, b2, b3, b4, b5, fun m => ?_⟩
      rw [b6]
      by_cases h2 : m ∈ r ∧ keepN l m = false
      · rw [if_pos h2, if_pos ⟨List.mem_cons_of_mem _ h2.1, h2.2⟩]
      · rw [if_neg h2, if_neg (fun h => h2 ⟨by
          rcases List.mem_cons.1 h.1 with e | e
          · rw [e, hk] at h; cases h.2
          · exact e, h.2⟩)]
/-- What a clean leaves, in calm weather. -/
theorem clean_calm {st : St} (hc : Calm st) (hi : Inv st) {v : Int} {l : List Int} (hg : Mf.good v l = true) :
    (clean st v l).2.2 = 0 ∧ Calm (clean st v l).1 ∧ Inv (clean st v l).1 ∧ (clean st v l).1.room = st.room ∧ (clean st v l).2.1 + (clean st v l).1.dir.length = st.dir.length ∧
      ∀ m, look (clean st v l).1 m = if keepN l m then look st m else none := by
  have e : clean st v l = cleanGo l (keys st.dir) st 0 := by unfold clean; rw [if_neg (by rw [hg]; simp)]
  rw [e]
  obtain ⟨b1, b2, b3, b4, b5, b6⟩ := cleanGo_calm (l := l) (keys st.dir) st 0 hc hi (keys_nodup hi.nd) (fun x hx => keys_mem.1 hx)
  refine ⟨b1, b2, b3, b4, by omega, fun m => ?_⟩
  rw [b6]
  cases hk : keepN l m
  · by_cases hm : m ∈ keys st.dir
    · rw [if_pos ⟨hm, rfl⟩]; rfl
    · rw [if_neg (fun h => hm h.1)]
      have : mhas st.dir m = false := by
        cases hx : mhas st.dir m
        · rfl
        · exact absurd (keys_mem.2 hx) hm
      unfold look
      rw [this]; rfl
  · rw [if_neg (fun h => by cases h.2), if_pos rfl]
theorem idOf_name {n : List UInt8} {v : Int} (h : Sg.idOf n = v) (hv : v ≠ 0) : Sg.nameB v = n ∧ Sg.nameE v = 0 := by
  unfold Sg.idOf at h
  cases ha : Lib.atoiAll (Lib.trimPrefix n Sg.seg) with
  | ok u =>
    rw [ha] at h
    simp only at h
    split at h
    · rename_i hc
      rw [← h]; exact ⟨hc.2.2, hc.2.1⟩
    · exact absurd h.symm hv
  | _ => rw [ha] at h; exact absurd h.symm hv
end Fs
end Go.Proofs.YtcinagglbkbmkaaGreatDoor
namespace Go.Proofs.YtcinagglbkbmkaaGreatDoor
set_option linter.unusedSimpArgs false
set_option linter.unusedVariables false
open Go Go.RowKit
open Go.Maps Go.WideMaps

/-- Is a number among numbers? -/
theorem contains_ints {w : World} {a : Option Addr} {n c : Nat} {zs : List Int} (h : Ints w (.slice a n c) zs) (hn : zs.length ≤ 1000000000) (x : Int) :
    Calls Tryz.prog 90 #[.slice a n c, .int .i64 x] w fun e w' => e = .returned (.bool (zs.contains x)) ∧ w' = w := by
  obtain ⟨a', c', h1, h2⟩ := h
  simp only [Value.slice.injEq] at h1
  obtain ⟨rfl, rfl, rfl⟩ := h1
  cases zs with
  | nil => exact (Tryz.slices_Contains_int_empty a c x w).mono (by rintro e w' ⟨rfl, rfl⟩; exact ⟨rfl, rfl⟩)
  | cons y r =>
    obtain ⟨b, off, e0, _, _⟩ := h2 0 y rfl
    subst e0
    refine (Tryz.slices_Contains_int b off (y :: r).length c (y :: r) x w (Nat.le_refl _) (by omega) ?_).mono ?_
    · intro j hj
      obtain ⟨b', off', e1, _, e3⟩ := h2 j (y :: r)[j] (List.getElem?_eq_getElem hj)
      simp only [Option.some.injEq, Addr.mk.injEq, and_true] at e1
      obtain ⟨rfl, rfl⟩ := e1
      rw [e3, List.getD_eq_getElem?_getD, List.getElem?_eq_getElem hj]
      rfl
    · rintro e w' ⟨rfl, rfl⟩
      refine ⟨congrArg (fun b => Ending.returned (.bool b)) ?_, rfl⟩
      rw [List.take_of_length_le (Nat.le_refl _)]
theorem Ints.others {w w' : World} {own own' : Nat → Tag} {a : Option Addr} {n c : Nat} {l : List Int} (h : Ints w (.slice a n c) l) (hot : ∀ p, a = some p → own p.block = .other) (ho : Others own own' w w') : Ints w' (.slice a n c) l := by
  obtain ⟨a', c', h1, h2⟩ := h
  refine ⟨a', c', h1, fun i x hi => ?_⟩
  simp only [Value.slice.injEq] at h1
  obtain ⟨b, off, e, h3, h4⟩ := h2 i x hi
  obtain ⟨k1, k2⟩ := ho.2 b h3 (hot ⟨b, off, none⟩ (by rw [h1.1, e]))
  exact ⟨b, off, e, Nat.lt_of_lt_of_le h3 ho.1, by rw [World.cell?_of_block k2]; exact h4⟩
theorem OpPost.keep_ {own : Nat → Tag} {w w2 wr : World} (hb : Below w.heap.size w w2) (hk : Kept own (· ≠ .other) w2 wr) : Kept own (· ≠ .other) w wr := (kept_below hb).trans hk
theorem OpPost.end_ {base B : Nat} {st : Fs.St} {V : FsV} {own own' : Nat → Tag} {w w2 wr : World} (hb : Below w.heap.size w w2) (h : FsOK base B st V own' wr) (ho : ∀ b, b < w2.heap.size → own' b = own b) (hk : Kept own (· ≠ .other) w2 wr) : OpPost base B st own w wr :=
  ⟨V, own', h, fun b hb2 => ho b (Nat.lt_of_lt_of_le hb2 hb.size), OpPost.keep_ hb hk⟩
set_option maxHeartbeats 1000000 in
set_option maxRecDepth 100000 in
theorem clean_any (base B : Nat) (st : Fs.St) (V : FsV) (own : Nat → Tag) (ver : Int) (sv : Value) (l : List Int) (w : World) (h : FsOK base B st V own w) (hE : SgEnv base w) (hbase : base ≤ w.heap.size) (k : Nat) (hS : Fs.Sound st k) (hk : k ≤ 200000) (hP : Fs.PlanOK st)
    (hN : Nums w sv l) (hl : l.length ≤ 1000000000) (hot : ∀ p n c, sv = .slice (some p) n c → own p.block = .other) :
    Calls Tryz.prog 32 #[.pointer (some ⟨B, 0, none⟩), .agg #[.int .i64 ver, sv]] w fun e w' => e = .returned (.tuple #[.int .i64 ((Fs.clean st ver l).2.1 : Nat), .int .i64 (Fs.clean st ver l).2.2]) ∧ OpPost base B (Fs.clean st ver l).1 own w w' := by
  obtain ⟨sa, sc, rfl⟩ := hN.form
  have hb0 : Below w.heap.size w (w.alloc (.cells #[.int .i64 ver, .slice sa l.length sc] 24)) := (Below.refl _ _).alloc (Nat.le_refl _) _
  have hr0 := heap_new w (.cells #[.int .i64 ver, .slice sa l.length sc] 24)
  have y0 := root_cell hr0 0 _ rfl
  have y1 := root_cell hr0 1 _ rfl
  have H := Lib.hid h
  have HE := Lib.hid hE
  have HN := Lib.hid hN
  have HB0 := Lib.hid hb0
  have HR0 := Lib.hid hr0
  have HOT : Hid (∀ p, sa = some p → own p.block = .other) := Lib.hid fun p hp => hot p _ _ (by rw [hp])
  have hnd := hS.ndir
  clear h hE hN hb0 hr0 hot
  go_enter Tryz.func32, Tryz.ntmps32
  go_wp2_with fail
  refine (check_any ver _ l _ (HN.out.below HB0.out) hl).mono ?_
  rintro e w1 ⟨rfl, hb1⟩
  have HB1 := Lib.hid (HB0.out.trans (hb1.mono HB0.out.size))
  have H1 := Lib.hid (H.out.kept (kept_below HB1.out))
  have HR1 : Hid (w1.heap[w.heap.size]? = _) := Lib.hid ((hb1.block _ (heap_lt HR0.out)).trans HR0.out)
  clear hb1 y0 y1
  cases hg : Mf.good ver l
  · have HE : Hid (Fs.clean st ver l = (st, 0, 1)) := by unfold Fs.clean; rw [if_pos hg]; exact Lib.hid rfl
    have HC : Hid (Mf.chk ver l = 1) := by unfold Mf.chk; rw [hg]; exact Lib.hid rfl
    rw [HC.out]
    clear hg
    go_wp2_with fail
    refine bodyPost_ret (v := .tuple #[.int .i64 0, .int .i64 1]) (by simp [results, Tryz.results32, go_sem]) rfl ?_
    rw [HE.out]
    exact ⟨rfl, OpPost.of H.out HB1.out⟩
  · have HCL : Hid (Fs.clean st ver l = Fs.cleanGo l (Fs.keys st.dir) st 0) := by unfold Fs.clean; rw [if_neg (by rw [hg]; simp)]; exact Lib.hid rfl
    have HC : Hid (Mf.chk ver l = 0) := by unfold Mf.chk; rw [hg]; exact Lib.hid rfl
    rw [HC.out]
    clear hg HC
    go_wp2_with fail
    refine (list_any base B st V own w1 H1.out (by omega)).mono ?_
    rintro e w2 ⟨v, rfl, hStr, hvo, hb2⟩
    obtain ⟨la, lc, hv⟩ := hStr.form
    subst hv
    have HB2 := Lib.hid (HB1.out.trans (hb2.mono HB1.out.size))
    have HB12 := Lib.hid hb2
    have H2 := Lib.hid (H.out.kept (kept_below HB2.out))
    have hr2 := (hb2.block _ (heap_lt HR1.out)).trans HR1.out
    have HR2 := Lib.hid hr2
    have hz2 : w.heap.size < w2.heap.size := heap_lt hr2
    have HSTR := Lib.hid hStr
    have HLO : Hid (∀ p, la = some p → own p.block = .other) := Lib.hid fun p hp => H.out.fresh _ (by
      have := hvo p.block (by rw [hp]; rfl)
      exact Nat.le_trans HB1.out.size this)
    have hNN : (strsOf (Fs.keys st.dir)).length ≤ 200000 := by rw [strsOf_len]; omega
    have HKL : Hid ((strsOf (Fs.keys st.dir)).length = (Fs.keys st.dir).length) := Lib.hid (by unfold strsOf; rw [List.length_map])
    obtain ⟨N, hN⟩ : ∃ N, N = (strsOf (Fs.keys st.dir)).length := ⟨_, rfl⟩
    rw [← hN] at hNN HKL HSTR ⊢
    clear hStr hvo hb2 hr2 hN
    go_wp2_with fail
    go_loopg [7, 21] N (fun k' s7 s21 wr => ∃ (j n : Nat) (st' : Fs.St) (V' : FsV) (own' : Nat → Tag), j ≤ N ∧ n ≤ j ∧ k' = N - j ∧ s21 = .int .i64 (j : Nat) ∧ s7 = .int .i64 (n : Nat) ∧ FsOK base B st' V' own' wr ∧ Fs.Sound st' (k + 2 * j) ∧
      (∀ b, b < w2.heap.size → own' b = own b) ∧ Kept own (· ≠ .other) w2 wr ∧ Fs.cleanGo l ((Fs.keys st.dir).drop j) st' n = Fs.clean st ver l)
    case atStart => exact ⟨0, 0, st, V, own, Nat.zero_le _, Nat.le_refl _, rfl, rfl, rfl, H2.out, hS, fun _ _ => rfl, Kept.refl _ _ _, HCL.out.symm⟩
    case round =>
      obtain ⟨j, n, st', V', own', hj, hnj, hk', rfl, rfl, hok, hso, hown, hkept, hgo⟩ := hrel
      have HK := Lib.hid hk'
      have HOK := Lib.hid hok
      have HSO := Lib.hid hso
      have HOWN := Lib.hid hown
      have HKEPT := Lib.hid hkept
      have HGO := Lib.hid hgo
      have hn1 := hso.ndir
      have hn2 := hso.nf
      have hn3 := hso.nc
      clear hk' hok hso hown hkept hgo
      have hj0 : (0 : Int) ≤ (j : Int) := Int.natCast_nonneg _
      have hn0 : (0 : Int) ≤ (n : Int) := Int.natCast_nonneg _
      by_cases hjn : j < N
      · have hjn1 : (j : Int) < (N : Int) := by omega
        obtain ⟨x, hx⟩ : ∃ x, (Fs.keys st.dir)[j]? = some x := ⟨_, List.getElem?_eq_getElem (by rw [← HKL.out]; exact hjn)⟩
        have hxs : (strsOf (Fs.keys st.dir))[j]? = some ⟨x.toArray⟩ := by unfold strsOf; rw [List.getElem?_map, hx]; rfl
        obtain ⟨b, off, rfl, hlt, hcell⟩ : ∃ b off, la = some ⟨b, off, none⟩ ∧ b < w2.heap.size ∧ w2.cell? ⟨b, off + j, none⟩ = some (.string ⟨x.toArray⟩) := by
          obtain ⟨a', c', h1, h2⟩ := HSTR.out
          obtain ⟨b, off, e1, e2, e3⟩ := h2 j _ hxs
          simp only [Value.slice.injEq] at h1
          exact ⟨b, off, by rw [h1.1, e1], e2, e3⟩
        have hOth : Others own own' w2 wr := ⟨HKEPT.out.size, fun b hb h1 => ⟨(HOWN.out b hb).trans h1, HKEPT.out.block b hb (by rw [h1]; simp)⟩⟩
        have hcr : wr.cell? ⟨b, off + j, none⟩ = some (.string ⟨x.toArray⟩) := by
          rw [World.cell?_of_block (hOth.2 b hlt (HLO.out _ rfl)).2]; exact hcell
        have hrr : wr.heap[w.heap.size]? = some (.cells #[.int .i64 ver, .slice sa l.length sc] 24 (0, 0)) := ((hOth.2 _ hz2 (H.out.fresh _ (Nat.le_refl _))).2).trans HR2.out
        have HINT := Lib.hid ((HN.out.ints.below HB2.out).others HOT.out hOth)
        have HRR := Lib.hid hrr
        have hxg : x.length ≤ 20 := by
          obtain ⟨p, hp, e⟩ := Fs.mhas_mem.1 (Fs.keys_mem.1 (List.mem_of_getElem? hx))
          rw [← e]; exact Fs.good_len (hS.dir p hp).2
        obtain ⟨s, hs, hsx⟩ : ∃ s : ByteArray, s = ⟨x.toArray⟩ ∧ s.data.toList = x := ⟨_, rfl, by simp⟩
        have hss : s.size ≤ 1000000 := by rw [hs]; show x.toArray.size ≤ _; simp; omega
        rw [← hs] at hcr
        have HD : Hid (Fs.clean st ver l = if Fs.keepN l x then Fs.cleanGo l ((Fs.keys st.dir).drop (j + 1)) st' n else if (Fs.remove st' x).2 ≠ 0 then ((Fs.remove st' x).1, n, (Fs.remove st' x).2) else Fs.cleanGo l ((Fs.keys st.dir).drop (j + 1)) (Fs.remove st' x).1 (n + 1)) := by
          rw [← HGO.out]
          obtain ⟨h1, h2⟩ := List.getElem?_eq_some_iff.1 hx
          rw [List.drop_eq_getElem_cons h1, h2, Fs.cleanGo]
          exact Lib.hid rfl
        have hsz : w2.heap.size ≤ wr.heap.size := HKEPT.out.size
        have hbw : base ≤ wr.heap.size := by omega
        have HEr := Lib.hid (HE.out.below (B := base) (by
          refine ⟨HKEPT.out.os.trans HB2.out.os, HKEPT.out.tape.trans HB2.out.tape, HKEPT.out.output.trans HB2.out.output, by omega, fun b hb => ?_⟩
          rw [HKEPT.out.block b (by omega) (by rw [H.out.old b hb]; simp), HB2.out.block b (by omega)]))
        rw [← hsx] at HD
        clear hx hxs hcell hrr hlt hs hxg hsx
        go_wp2_with fail
        refine (id_any _ wr base HEr.out hbw hss).mono ?_
        rintro e w3 ⟨rfl, hb3⟩
        have HB3 := Lib.hid hb3
        have hz3 := hb3.size
        have e1 : w3.cell? ⟨w.heap.size, 1, none⟩ = some (.slice sa l.length sc) := root_cell ((hb3.block _ (heap_lt HRR.out)).trans HRR.out) 1 _ rfl
        have HIN3 := Lib.hid (HINT.out.below hb3)
        have H3 := Lib.hid (HOK.out.kept (kept_below hb3))
        have HO3 : Hid (Others own own' w2 w3) := Lib.hid (hOth.next (fun _ _ => rfl) (kept_below hb3))
        clear hb3 hcr hOth
        by_cases hf : s.data.toList = Mf.final
        · have hsf : s = ⟨#[109, 97, 110, 105, 102, 101, 115, 116]⟩ := by
            apply ByteArray.ext
            apply Array.ext'
            exact hf
          subst hsf
          have HDD : Hid (Fs.clean st ver l = Fs.cleanGo l ((Fs.keys st.dir).drop (j + 1)) st' n) := by
            rw [HD.out, if_pos (by unfold Fs.keepN; rw [decide_eq_true hf]; rfl)]; exact Lib.hid rfl
          clear hf
          go_wp2_with fail
          go_roundg (N - (j + 1))
          case measure => rw [HK.out]; omega
          case rel => exact ⟨j + 1, n, st', V', own', by omega, by omega, rfl, by simp, rfl, H3.out, HSO.out.mono (by omega), HOWN.out, HKEPT.out.trans (kept_below HB3.out), HDD.out.symm⟩
        · have hne : (s.toList == [109, 97, 110, 105, 102, 101, 115, 116]) = false := by
            rw [beq_eq_false_iff_ne]
            intro e
            rw [ByteArray.toList_eq] at e
            exact hf e
          go_wp2_with fail
          refine (contains_ints HIN3.out hl _).mono ?_
          rintro e w4 ⟨rfl, hw4⟩
          subst hw4
          obtain ⟨q, hq⟩ : ∃ q, q = l.contains (Sg.idOf s.data.toList) := ⟨_, rfl⟩
          rw [← hq]
          cases q
          · have HDD : Hid (Fs.clean st ver l = if (Fs.remove st' s.data.toList).2 ≠ 0 then ((Fs.remove st' s.data.toList).1, n, (Fs.remove st' s.data.toList).2) else Fs.cleanGo l ((Fs.keys st.dir).drop (j + 1)) (Fs.remove st' s.data.toList).1 (n + 1)) := by
              rw [HD.out, if_neg (by unfold Fs.keepN; rw [decide_eq_false hf, ← hq]; simp)]; exact Lib.hid rfl
            clear hf hne hq
            go_wp2_with fail
            refine (remove_any base B st' V' own' s w4 H3.out (by omega) hss (by omega) (by omega) (by omega)).mono ?_
            rintro e w5 ⟨rfl, hp⟩
            obtain ⟨V5, own5, h5, ho5, hk5⟩ := hp
            have HOW5 : Hid (∀ b, b < w2.heap.size → own5 b = own b) := Lib.hid fun b hb => (ho5 b (by omega)).trans (HOWN.out b hb)
            have HK5 : Hid (Kept own (· ≠ .other) w2 w5) := by
              refine Lib.hid ⟨hk5.os.trans (HB3.out.os.trans HKEPT.out.os), hk5.tape.trans (HB3.out.tape.trans HKEPT.out.tape), hk5.output.trans (HB3.out.output.trans HKEPT.out.output), by have := hk5.size; omega, fun b hb ht => ?_⟩
              rw [hk5.block b (by omega) (by rw [HOWN.out b hb]; exact ht), HB3.out.block b (by omega)]
              exact HKEPT.out.block b hb ht
            have H5 := Lib.hid h5
            have HS5 := Lib.hid (HSO.out.remove s.data.toList)
            obtain ⟨C, hC⟩ : ∃ C, C = (Fs.remove st' s.data.toList).2 := ⟨_, rfl⟩
            rw [← hC]
            have HCC := Lib.hid hC
            clear hC h5 ho5 hk5
            by_cases hC0 : C = 0
            · subst hC0
              have HE5 : Hid (Fs.cleanGo l ((Fs.keys st.dir).drop (j + 1)) (Fs.remove st' s.data.toList).1 (n + 1) = Fs.clean st ver l) := by
                rw [HDD.out, if_neg (by rw [← HCC.out]; simp)]; exact Lib.hid rfl
              go_wp2_with fail
              go_roundg (N - (j + 1))
              case measure => rw [HK.out]; omega
              case rel => exact ⟨j + 1, n + 1, _, V5, own5, by omega, by omega, rfl, by simp, by simp, H5.out, HS5.out.mono (by omega), HOW5.out, HK5.out, HE5.out⟩
            · have hte : (C != 0) = true := by rw [bne_iff_ne]; exact hC0
              have hte2 : (C == 0) = false := by rw [beq_eq_false_iff_ne]; exact hC0
              have HE5 : Hid (Fs.clean st ver l = ((Fs.remove st' s.data.toList).1, n, C)) := by
                rw [HDD.out, if_pos (by rw [← HCC.out]; exact hC0), ← HCC.out]; exact Lib.hid rfl
              clear hC0
              go_wp2_with fail
              refine bodyPost_ret (v := .tuple #[.int .i64 (n : Nat), .int .i64 C]) (by simp [results, Tryz.results32, go_sem]) rfl ?_
              rw [HE5.out]
              exact ⟨rfl, OpPost.end_ HB2.out H5.out HOW5.out HK5.out⟩
          · have HDD : Hid (Fs.clean st ver l = Fs.cleanGo l ((Fs.keys st.dir).drop (j + 1)) st' n) := by
              rw [HD.out, if_pos (by unfold Fs.keepN; rw [← hq]; simp)]; exact Lib.hid rfl
            clear hf hq
            go_wp2_with fail
            go_roundg (N - (j + 1))
            case measure => rw [HK.out]; omega
            case rel => exact ⟨j + 1, n, st', V', own', by omega, by omega, rfl, by simp, rfl, H3.out, HSO.out.mono (by omega), HOWN.out, HKEPT.out.trans (kept_below HB3.out), HDD.out.symm⟩
      · have hjn1 : (N : Int) ≤ (j : Int) := by omega
        have HD : Hid (Fs.clean st ver l = if n = 0 then (st', 0, 0) else ((Fs.syncDir st').1, n, (Fs.syncDir st').2)) := by
          rw [← HGO.out, List.drop_of_length_le (by rw [← HKL.out]; omega), Fs.cleanGo]
          exact Lib.hid rfl
        by_cases hn : n = 0
        · subst hn
          have HE5 : Hid (Fs.clean st ver l = (st', 0, 0)) := by rw [HD.out, if_pos rfl]; exact Lib.hid rfl
          go_wp2_with fail
          refine bodyPost_ret (v := .tuple #[.int .i64 0, .int .i64 0]) (by simp [results, Tryz.results32, go_sem]) rfl ?_
          rw [HE5.out]
          exact ⟨rfl, OpPost.end_ HB2.out HOK.out HOWN.out HKEPT.out⟩
        · have hte : ((n : Int) == 0) = false := by rw [beq_eq_false_iff_ne]; omega
          have hn' : 0 < (n : Int) := by omega
          have HE5 : Hid (Fs.clean st ver l = ((Fs.syncDir st').1, n, (Fs.syncDir st').2)) := by rw [HD.out, if_neg hn]; exact Lib.hid rfl
          clear hn
          go_wp2_with fail
          refine (syncDir_any base B st' V' own' wr HOK.out).mono ?_
          rintro e w5 ⟨rfl, hp⟩
          have HPP := Lib.hid (OpPost.step (OpPost.keep_ HB2.out HKEPT.out) (fun b hb => (HOWN.out b (by omega))) hp)
          clear hp
          go_wp2_with fail
          refine bodyPost_ret (v := .tuple #[.int .i64 (n : Nat), .int .i64 (Fs.syncDir st').2]) (by simp [results, Tryz.results32, go_sem]) rfl ?_
          rw [HE5.out]
          exact ⟨rfl, HPP.out⟩
end Go.Proofs.YtcinagglbkbmkaaGreatDoor
namespace Go.Proofs.YtcinagglbkbmkaaGreatDoor
set_option linter.unusedSimpArgs false
set_option linter.unusedVariables false
open Go Go.RowKit
namespace Fs
/-- The bytes in use, by a bound for every name. -/
theorem used_w {st : St} (hi : Inv st) {W : List UInt8 → Nat} (hW : ∀ n b, look st n = some b → b.length ≤ W n) : used st ≤ (st.dir.map fun p => W p.1).sum := by
  have : ∀ l : Names, (∀ p ∈ l, p ∈ st.dir) → usedL st l ≤ (l.map fun p => W p.1).sum := by
    intro l
    induction l with
    | nil => intro _; exact Nat.zero_le _
    | cons p l ih =>
      intro h
      have h1 := ih (fun q hq => h q (List.mem_cons_of_mem _ hq))
      have hp := h p List.mem_cons_self
      have hh : mhas st.dir p.1 = true := mhas_mem.2 ⟨p, hp, rfl⟩
      obtain ⟨f, f1, f2, f3⟩ := hi.idx hh
      have e : mget st.dir p.1 = p.2 := mget_of (fun a ha b hb e => by
        by_cases hab : a = b
        · rw [hab]
        · have := hi.nd
          rcases List.mem_iff_getElem.1 ha with ⟨i, hi1, rfl⟩
          rcases List.mem_iff_getElem.1 hb with ⟨j, hj1, rfl⟩
          rw [List.pairwise_iff_getElem] at this
          rcases Nat.lt_trichotomy i j with h | h | h
          · exact absurd e (this i j hi1 hj1 h)
          · subst h; rfl
          · exact absurd e.symm (this j i hj1 hi1 h)) (show (p.1, p.2) ∈ st.dir from hp)
      have h2 : lenAt st p.2 ≤ W p.1 := by
        have : lenAt st p.2 = f.1.length := by
          unfold lenAt
          unfold Fs.idx at f1
          rw [e] at f1
          rw [f1]
        rw [this]
        exact hW p.1 f.1 (by unfold look; rw [if_pos hh, f2])
      unfold usedL at h1 ⊢
      simp only [List.map_cons, List.sum_cons]
      omega
  exact this st.dir (fun p hp => hp)
theorem sum_w : ∀ {d : Names}, d.Pairwise (fun p q => p.1 ≠ q.1) → (d.map fun p => if p.1 = Mf.final then 800 else 20).sum ≤ 800 + 20 * d.length
  | [], _ => by simp
  | x :: d, h => by
    rw [List.pairwise_cons] at h
    simp only [List.map_cons, List.sum_cons, List.length_cons]
    split
    · rename_i hx
      have : (d.map fun p => if p.1 = Mf.final then 800 else 20).sum = 20 * d.length := by
        have h1 := h.1
        clear h
        induction d with
        | nil => rfl
        | cons y d ih =>
          have := ih (fun q hq => h1 q (List.mem_cons_of_mem _ hq))
          have hy : y.1 ≠ Mf.final := fun e => h1 y List.mem_cons_self (hx.trans e.symm)
          simp only [List.map_cons, List.sum_cons, List.length_cons]
          rw [if_neg hy, this]
          omega
      omega
    · have := sum_w h.2
      omega
/-- What holds ahead of round j of the creating. -/
structure CleansInv (v : Int) (l : List Int) (j : Nat) (st : St) : Prop where
  calm : Calm st
  inv : Inv st
  sound : Sound st (12 + 2 * j)
  room : st.room = 20000
  dir : st.dir.length ≤ 1 + j
  fin : look st Mf.final = some (Mf.enc v l)
  own : ∀ n b, look st n = some b → n ≠ Mf.final → b = n
section
variable {v : Int} {l : List Int}
theorem CleansInv.plan {j : Nat} {st : St} (h : CleansInv v l j st) : PlanOK st := fun z hz => by rw [h.calm.2] at hz; cases hz
theorem CleansInv.new (hg : Mf.good v l = true) : (Mf.save (Fs.new 20000) v l).2 = 0 ∧ CleansInv v l 0 (Mf.save (Fs.new 20000) v l).1 := by
  obtain ⟨h1, h2, h3, _, _, h6⟩ := Mf.save_calm (st := Fs.new 20000) ⟨rfl, rfl⟩ (Inv.new _) hg (by decide) (M := 0) (fun n b h => by rw [look_new] at h; cases h) (by decide) (fun f hf => by cases hf)
  obtain ⟨s1, _⟩ := save_sound (st := Fs.new 20000) (k := 0) (Sound.new ⟨by decide, by decide⟩ 0) (fun z hz => by cases hz) v l
  refine ⟨h1, h2.calm, h2.inv, s1.mono (by omega), h2.room, h3, by rw [h6, if_pos rfl], fun n b hb hn => ?_⟩
  rw [h6, if_neg hn] at hb
  split at hb
  · cases hb
  · rw [look_new] at hb; cases hb
theorem CleansInv.next {j : Nat} {st : St} (h : CleansInv v l j st) : CleansInv v l (j + 1) st :=
  ⟨h.calm, h.inv, h.sound.mono (by omega), h.room, by have := h.dir; omega, h.fin, h.own⟩
/-- A name's file: not created, or created and filled. -/
theorem CleansInv.make {j : Nat} {st : St} (h : CleansInv v l j st) (hg : Mf.good v l = true) (hj : j < 60) (n : List UInt8) :
    ((create st n).2 ≠ 0 ∧ (create st n).1 = st) ∨ ((create st n).2 = 0 ∧ Sound (create st n).1 (14 + 2 * j) ∧ PlanOK (create st n).1 ∧ (append (create st n).1 n n).2 = 0 ∧ CleansInv v l (j + 1) (append (create st n).1 n n).1) := by
  have hd := h.dir
  cases hgn : Fs.good n
  · exact .inl (by unfold create; rw [if_pos hgn]; exact ⟨show (7 : Int) ≠ 0 by decide, rfl⟩)
  cases hh : mhas st.dir n
  · obtain ⟨a1, a2, a3, a4⟩ := calm_create h.calm h.inv hgn hh (by omega)
    have hs1 := h.sound.create n
    have hnf : n ≠ Mf.final := fun e => by
      have := (look_some h.fin).1
      rw [← e, hh] at this; cases this
    have hlen : ∀ m b, look (create st n).1 m = some b → b.length ≤ if m = Mf.final then 800 else 20 := by
      intro m b hb
      rw [a4] at hb
      by_cases hm : m = n
      · rw [if_pos hm] at hb; have e : [] = b := Option.some.inj hb; rw [← e]; exact Nat.zero_le _
      · rw [if_neg hm] at hb
        by_cases hf : m = Mf.final
        · rw [if_pos hf]
          rw [hf, h.fin] at hb
          have e : Mf.enc v l = b := Option.some.inj hb
          rw [← e]; exact Mf.enc_len hg
        · rw [if_neg hf, h.own m b hb hf]
          obtain ⟨p, hp, e⟩ := mhas_mem.1 (look_some hb).1
          rw [← e]; exact good_len (h.inv.gd p hp)
    have hu := used_w a2.inv hlen
    have hu2 := sum_w a2.inv.nd
    have hn20 := good_len hgn
    obtain ⟨b1, b2, b3, _, b5⟩ := calm_append (n := n) (b := n) (old := []) a2.calm a2.inv hgn (by rw [a4, if_pos rfl]) (by simp; omega) (by rw [a2.room, h.room]; omega)
    refine .inr ⟨a1, hs1.mono (by omega), h.plan.of (plan_create st n), b1, b2.calm, b2.inv, (hs1.append n n).mono (by omega), b2.room.trans (a2.room.trans h.room), by rw [b3, a3]; omega, ?_, fun m b hb hm => ?_⟩
    · rw [b5, if_neg (fun e => hnf e.symm), a4, if_neg (fun e => hnf e.symm)]; exact h.fin
    · rw [b5] at hb
      by_cases hmn : m = n
      · rw [if_pos hmn] at hb
        have e : [] ++ n = b := Option.some.inj hb
        rw [← e, hmn]; rfl
      · rw [if_neg hmn, a4, if_neg hmn] at hb; exact h.own m b hb hm
  · exact .inl (by unfold create; rw [if_neg (by rw [hgn]; simp), if_pos hh]; exact ⟨show (4 : Int) ≠ 0 by decide, rfl⟩)
/-- Behind the cleaning. -/
structure Cleaned (v : Int) (l : List Int) (k : Nat) (st : St) : Prop where
  sound : Sound st k
  inv : Inv st
  fin : look st Mf.final = some (Mf.enc v l)
  rest : ∀ n, mhas st.dir n = true → n = Mf.final ∨ ((∃ x ∈ l, [115, 101, 103, 45] ++ Lib.itoa x = n) ∧ look st n = some n ∧ n ≠ Mf.final)
theorem CleansInv.clean {j : Nat} {st : St} (h : CleansInv v l j st) (hg : Mf.good v l = true) (hj : j ≤ 60) :
    (clean st v l).2.2 = 0 ∧ (clean st v l).2.1 + (clean st v l).1.dir.length = st.dir.length ∧ Cleaned v l 500 (clean st v l).1 := by
  obtain ⟨h1, h2, h3, h4, h5, h6⟩ := clean_calm h.calm h.inv hg
  obtain ⟨s1, _⟩ := clean_sound h.sound h.plan v l
  refine ⟨h1, h5, s1.mono (by omega), h3, by rw [h6, if_pos (by unfold keepN; rw [decide_eq_true rfl]; rfl)]; exact h.fin, fun n hn => ?_⟩
  by_cases hf : n = Mf.final
  · exact .inl hf
  · obtain ⟨b, hb⟩ := has_some.1 hn
    have hk : keepN l n = true := by
      cases hk : keepN l n
      · rw [h6, hk, if_neg (by simp)] at hb; cases hb
      · rfl
    have hb2 := hb
    rw [h6, if_pos hk] at hb2
    have e := h.own n b hb2 hf
    unfold keepN at hk
    rw [decide_eq_false hf, Bool.false_or, List.contains_iff_mem] at hk
    have hpos := Mf.good_all hg
    have hx : Sg.idOf n ≠ 0 := by
      have := (Mf.incr_pos (Int.le_refl 0) (Mf.good_out hg).2.2 _ hk).1
      omega
    obtain ⟨g1, g2⟩ := idOf_name rfl hx
    refine .inr ⟨⟨_, hk, ?_⟩, by rw [hb, e], hf⟩
    unfold Sg.nameE at g2
    unfold Sg.nameB at g1
    split at g2
    · cases g2
    · rename_i hc; rw [if_neg hc] at g1; exact g1
theorem Cleaned.load {k : Nat} {st : St} (h : Cleaned v l k st) (hg : Mf.good v l = true) : Mf.load st = ((v, l), 0) := Mf.load_look hg h.fin
end
end Fs
end Go.Proofs.YtcinagglbkbmkaaGreatDoor
