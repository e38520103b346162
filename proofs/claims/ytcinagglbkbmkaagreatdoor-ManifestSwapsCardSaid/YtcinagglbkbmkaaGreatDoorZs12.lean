/-
  Manifests: Save, walked. Manifests: Save, walked (whole). 'ManifestSwaps': what holds from round to round (plain). 'ManifestLast': what holds from round to round (plain). Manifests: Clean, walked. 'ManifestCleans': what holds from round to round (plain).
-/
import Derived.Test.YtcinagglbkbmkaaGreatDoorZs10
import Derived.Lib.SlicesS
import Derived.Test.YtcinagglbkbmkaaGreatDoorZs9
namespace Go.Proofs.YtcinagglbkbmkaaGreatDoor
set_option linter.unusedSimpArgs false
set_option linter.unusedVariables false
open Go Go.RowKit
open Go.Maps Go.WideMaps

namespace Fs
/-- What is planned are numbers of the machine's. -/
def PlanOK (st : St) : Prop := ∀ z ∈ st.plan, z ≤ 9223372036854775807
section
variable {st : St} (h : PlanOK st)
include h
theorem PlanOK.of {st' : St} (e : st'.plan = st.plan ∨ st'.plan = st.plan.tail) : PlanOK st' := fun z hz => by
  rcases e with e | e
  · rw [e] at hz; exact h z hz
  · rw [e] at hz; exact h z (List.mem_of_mem_tail hz)
theorem PlanOK.how : (step st).2.1 ≤ 9223372036854775807 := by
  unfold step
  split
  · show (0 : Int) ≤ _; omega
  · show st.plan.headD 0 ≤ _
    cases hp : st.plan with
    | nil => show (0 : Int) ≤ _; omega
    | cons z r => exact h z (by rw [hp]; exact List.mem_cons_self)
end
theorem plan_step (st : St) : (step st).1.plan = st.plan ∨ (step st).1.plan = st.plan.tail := by
  unfold step
  split
  · exact .inl rfl
  · exact .inr rfl
theorem plan_create (st : St) (n : List UInt8) : (create st n).1.plan = st.plan ∨ (create st n).1.plan = st.plan.tail := by
  unfold create
  split
  · exact .inl rfl
  split
  · exact .inl rfl
  split
  · exact .inl rfl
  split
  · exact plan_step st
  · exact plan_step st
theorem plan_append (st : St) (n b : List UInt8) : (append st n b).1.plan = st.plan ∨ (append st n b).1.plan = st.plan.tail := by
  unfold append
  split
  · exact .inl rfl
  split
  · exact .inl rfl
  split
  · split
    · exact plan_step st
    · exact plan_step st
  split
  · exact plan_step st
  · exact plan_step st
theorem plan_sync (st : St) (n : List UInt8) : (sync st n).1.plan = st.plan ∨ (sync st n).1.plan = st.plan.tail := by
  unfold sync
  split
  · exact .inl rfl
  split
  · exact plan_step st
  · exact plan_step st
theorem plan_syncDir (st : St) : (syncDir st).1.plan = st.plan ∨ (syncDir st).1.plan = st.plan.tail := by
  unfold syncDir
  split
  · exact plan_step st
  · exact plan_step st
theorem plan_remove (st : St) (n : List UInt8) : (remove st n).1.plan = st.plan ∨ (remove st n).1.plan = st.plan.tail := by
  unfold remove
  split
  · exact .inl rfl
  split
  · exact plan_step st
  · exact plan_step st
theorem plan_rename (st : St) (a b : List UInt8) : (rename st a b).1.plan = st.plan ∨ (rename st a b).1.plan = st.plan.tail := by
  unfold rename
  split
  · exact .inl rfl
  split
  · exact .inl rfl
  split
  · exact plan_step st
  · exact plan_step st
end Fs
/-- Is a text among texts? -/
theorem contains_strs {w : World} {a : Option Addr} {n c : Nat} {ls : List ByteArray} (h : Strs w (.slice a n c) ls) (hn : n ≤ 1000000) (x : ByteArray) :
    Calls Tryz.prog 71 #[.slice a n c, .string x] w fun e w' => e = .returned (.bool (Lib.containsS ls x)) ∧ w' = w := by
  obtain ⟨a', c', h1, h2⟩ := h
  simp only [Value.slice.injEq] at h1
  obtain ⟨rfl, rfl, rfl⟩ := h1
  cases ls with
  | nil => exact (Tryz.slices_Contains_string_empty a c x w).mono (by rintro e w' ⟨rfl, rfl⟩; exact ⟨rfl, rfl⟩)
  | cons y r =>
    obtain ⟨b, off, e0, _, _⟩ := h2 0 y rfl
    subst e0
    refine (Tryz.slices_Contains_string b off (y :: r).length c (y :: r) x w (Nat.le_refl _) (by omega) ?_).mono ?_
    · intro j hj
      obtain ⟨b', off', e1, _, e3⟩ := h2 j (y :: r)[j] (List.getElem?_eq_getElem hj)
      simp only [Option.some.injEq, Addr.mk.injEq, and_true] at e1
      obtain ⟨rfl, rfl⟩ := e1
      rw [e3, List.getD_eq_getElem?_getD, List.getElem?_eq_getElem hj]
      rfl
    · rintro e w' ⟨rfl, rfl⟩
      refine ⟨congrArg (fun b => Ending.returned (.bool b)) ?_, rfl⟩
      rw [List.take_of_length_le (Nat.le_refl _)]
theorem mem_keys {d : Fs.Names} {n : List UInt8} : Lib.containsS (strsOf (Fs.keys d)) (⟨n.toArray⟩ : ByteArray) = Fs.mhas d n := by
  rw [Bool.eq_iff_iff, Lib.containsS_iff, ← Fs.keys_mem]
  unfold strsOf
  rw [List.mem_map]
  constructor
  · rintro ⟨x, hx, e⟩
    have : x = n := by
      have := congrArg (fun b : ByteArray => b.data.toList) e
      simpa using this
    rw [← this]; exact hx
  · exact fun h => ⟨n, h, rfl⟩
def draftB : ByteArray := ⟨#[109, 97, 110, 105, 102, 101, 115, 116, 46, 116, 109, 112]⟩
def finalB : ByteArray := ⟨#[109, 97, 110, 105, 102, 101, 115, 116]⟩
theorem Strs.len {w : World} {a : Option Addr} {n c : Nat} {ls : List ByteArray} (h : Strs w (.slice a n c) ls) : n = ls.length := by
  obtain ⟨a', c', h1, h2⟩ := h
  simp only [Value.slice.injEq] at h1
  exact h1.2.1
theorem strsOf_len (d : Fs.Names) : (strsOf (Fs.keys d)).length = d.length := by unfold strsOf; rw [List.length_map, Fs.keys_len]

section
variable (base B : Nat) (st : Fs.St) (V : FsV) (own : Nat → Tag) (w : World) (h : FsOK base B st V own w) (hbase : base ≤ w.heap.size) (k : Nat) (hS : Fs.Sound st k) (hk : k ≤ 700000) (fb : Nat) (hf : w.cell? ⟨fb, 0, none⟩ = some (.pointer (some ⟨B, 0, none⟩)))
include h hbase hS hk hf
set_option linter.unusedSectionVars false
set_option maxHeartbeats 1000000
set_option maxRecDepth 100000
theorem save1_any : Calls Tryz.prog 70 #[.pointer (some ⟨fb, 0, none⟩)] w fun e w' => e = .returned (.int .i64 (Mf.clear st).2) ∧ OpPost base B (Mf.clear st).1 own w w' := by
  have H := Lib.hid h
  have hnd := hS.ndir
  have hnf := hS.nf
  have hnc := hS.nc
  have hfl := cellLt hf
  clear h
  go_enter Tryz.func70, Tryz.ntmps70
  go_wp2_with fail
  refine (list_any base B st V own w H.out (by omega)).mono ?_
  rintro e w1 ⟨v, rfl, hStr, _, hb1⟩
  obtain ⟨a, c, hv⟩ := hStr.form
  subst hv
  have H1 := Lib.hid (H.out.kept (kept_below hb1))
  have HB1 := Lib.hid hb1
  have hf1 : w1.cell? ⟨fb, 0, none⟩ = some (.pointer (some ⟨B, 0, none⟩)) := by rw [hb1.cell hfl]; exact hf
  have hz1 := hb1.size
  have HST := Lib.hid hStr
  obtain ⟨N, hN⟩ : ∃ N, N = (strsOf (Fs.keys st.dir)).length := ⟨_, rfl⟩
  have hNk : N ≤ 1000000 := by rw [hN, strsOf_len]; omega
  rw [← hN] at HST ⊢
  clear hb1 hN hStr
  go_wp2_with fail
  refine (contains_strs HST.out hNk _).mono ?_
  rintro e w2 ⟨rfl, hw2⟩
  subst hw2
  rw [show (⟨#[109, 97, 110, 105, 102, 101, 115, 116, 46, 116, 109, 112]⟩ : ByteArray) = ⟨Mf.draft.toArray⟩ from rfl, mem_keys]
  cases hh : Fs.mhas st.dir Mf.draft
  · have HE : Hid (Mf.clear st = (st, 0)) := by unfold Mf.clear; rw [hh]; exact Lib.hid rfl
    clear hh
    go_wp2_with fail
    go_ret
    rw [HE.out]
    exact ⟨rfl, OpPost.of H.out HB1.out⟩
  · have HE : Hid (Mf.clear st = Fs.remove st Mf.draft) := by unfold Mf.clear; rw [if_pos hh]; exact Lib.hid rfl
    clear hh
    go_wp2_with fail
    refine (remove_any base B st V own draftB w2 H1.out (by omega) (by decide) (by omega) (by omega) (by omega)).mono ?_
    rintro e w3 ⟨rfl, hp⟩
    have HP := Lib.hid hp
    clear hp
    go_wp2_with fail
    go_ret
    rw [HE.out]
    exact ⟨rfl, OpPost.step (kept_below HB1.out) (fun _ _ => rfl) HP.out⟩
theorem save2_any : Calls Tryz.prog 72 #[.pointer (some ⟨fb, 0, none⟩)] w fun e w' => e = .returned (.int .i64 (Fs.create st Mf.draft).2) ∧ OpPost base B (Fs.create st Mf.draft).1 own w w' := by
  have hnd := hS.ndir
  have hnf := hS.nf
  have hnc := hS.nc
  go_enter Tryz.func72, Tryz.ntmps72
  go_wp2_with fail
  refine (create_any base B st V own draftB w h (by decide) (by omega) (by omega) (by omega)).mono ?_
  rintro e w3 ⟨rfl, hp⟩
  have HP := Lib.hid hp
  clear hp
  go_wp2_with fail
  go_ret
  exact ⟨rfl, HP.out⟩
theorem save4_any : Calls Tryz.prog 74 #[.pointer (some ⟨fb, 0, none⟩)] w fun e w' => e = .returned (.int .i64 (Fs.sync st Mf.draft).2) ∧ OpPost base B (Fs.sync st Mf.draft).1 own w w' := by
  go_enter Tryz.func74, Tryz.ntmps74
  go_wp2_with fail
  refine (sync_any base B st V own draftB w h (by decide)).mono ?_
  rintro e w3 ⟨rfl, hp⟩
  have HP := Lib.hid hp
  clear hp
  go_wp2_with fail
  go_ret
  exact ⟨rfl, HP.out⟩
theorem save5_any : Calls Tryz.prog 76 #[.pointer (some ⟨fb, 0, none⟩)] w fun e w' => e = .returned (.int .i64 (Fs.rename st Mf.draft Mf.final).2) ∧ OpPost base B (Fs.rename st Mf.draft Mf.final).1 own w w' := by
  have hnd := hS.ndir
  have hnf := hS.nf
  have hnc := hS.nc
  go_enter Tryz.func76, Tryz.ntmps76
  go_wp2_with fail
  refine (rename_any base B st V own draftB finalB w h hbase (by decide) (by decide) (by omega) (by omega) (by omega)).mono ?_
  rintro e w3 ⟨rfl, hp⟩
  have HP := Lib.hid hp
  clear hp
  go_wp2_with fail
  go_ret
  exact ⟨rfl, HP.out⟩
theorem save3_any (bb : Nat) (bv : Value) (b : List UInt8) (hbv : BytesIn w own bv b) (hc : w.cell? ⟨bb, 0, none⟩ = some bv) (hl : b.length ≤ 1000000) (hp : Fs.PlanOK st) :
    Calls Tryz.prog 73 #[.pointer (some ⟨fb, 0, none⟩), .pointer (some ⟨bb, 0, none⟩)] w fun e w' => e = .returned (.int .i64 (Fs.append st Mf.draft b).2) ∧ OpPost base B (Fs.append st Mf.draft b).1 own w w' := by
  have hnd := hS.ndir
  have hnf := hS.nf
  have hnc := hS.nc
  have HBV := Lib.hid hbv
  obtain ⟨g, o, c, rfl, _⟩ := hbv
  go_enter Tryz.func73, Tryz.ntmps73
  go_wp2_with fail
  refine (append_any base B st V own draftB _ b w h HBV.out (by decide) (fun f hf => (hS.full f hf).2) hl (by omega) (by omega) hS.room hp.how hbase).mono ?_
  rintro e w3 ⟨rfl, hp⟩
  have HP := Lib.hid hp
  clear hp
  go_wp2_with fail
  go_ret
  exact ⟨rfl, HP.out⟩
end
end Go.Proofs.YtcinagglbkbmkaaGreatDoor
namespace Go.Proofs.YtcinagglbkbmkaaGreatDoor
set_option linter.unusedSimpArgs false
set_option linter.unusedVariables false
open Go Go.RowKit
open Go.Maps Go.WideMaps

theorem OwnB.bytesIn {w : World} {base : Nat} {own : Nat → Tag} {v : Value} {l : List UInt8} (h : OwnB w base v l) (hl : 0 < l.length) (ho : ∀ k, base ≤ k → own k = .other) : BytesIn w own v l := by
  obtain ⟨g, c, hv⟩ := row_form h hl
  subst hv
  have hlt := h.lt g rfl
  obtain ⟨_, c9, e9, hc9⟩ := h.byts.form
  have hcap : l.length ≤ c := by simp only [Value.slice.injEq] at e9; omega
  refine ⟨g, 0, c, rfl, hcap, hlt.2, ho g hlt.1, fun i x hx => ?_⟩
  obtain ⟨b, off, e1, e2, e3⟩ := h.byts.at hx
  cases e1
  exact e3
theorem BytesIn.others {w w' : World} {own own' : Nat → Tag} {v : Value} {l : List UInt8} (h : BytesIn w own v l) (ho : Others own own' w w') : BytesIn w' own' v l := by
  obtain ⟨g, o, c, h1, hc, h2, h3, h4⟩ := h
  obtain ⟨k1, k2⟩ := ho.2 g h2 h3
  exact ⟨g, o, c, h1, hc, Nat.lt_of_lt_of_le h2 ho.1, k1, fun i x hi => by rw [World.cell?_of_block k2]; exact h4 i x hi⟩
theorem enters_S1 (cap : Array Value) (w : World) : Sem.run Tryz.prog (callFunc 70 cap) w = .ok (.enter 70 cap) w := by kernel_rfl
theorem enters_S2 (cap : Array Value) (w : World) : Sem.run Tryz.prog (callFunc 72 cap) w = .ok (.enter 72 cap) w := by kernel_rfl
theorem enters_S3 (cap : Array Value) (w : World) : Sem.run Tryz.prog (callFunc 73 cap) w = .ok (.enter 73 cap) w := by kernel_rfl
theorem enters_S4 (cap : Array Value) (w : World) : Sem.run Tryz.prog (callFunc 74 cap) w = .ok (.enter 74 cap) w := by kernel_rfl
theorem enters_S5 (cap : Array Value) (w : World) : Sem.run Tryz.prog (callFunc 76 cap) w = .ok (.enter 76 cap) w := by kernel_rfl
theorem enters_S6 (cap : Array Value) (w : World) : Sem.run Tryz.prog (callFunc 78 cap) w = .ok (.enter 78 cap) w := by kernel_rfl
def saveVs (B fb bb : Nat) : List FnV :=
  [⟨.func (.func 70) #[] #[.pointer (some ⟨fb, 0, none⟩)], 70, #[], #[.pointer (some ⟨fb, 0, none⟩)]⟩,
   ⟨.func (.func 72) #[] #[.pointer (some ⟨fb, 0, none⟩)], 72, #[], #[.pointer (some ⟨fb, 0, none⟩)]⟩,
   ⟨.func (.func 73) #[] #[.pointer (some ⟨fb, 0, none⟩), .pointer (some ⟨bb, 0, none⟩)], 73, #[], #[.pointer (some ⟨fb, 0, none⟩), .pointer (some ⟨bb, 0, none⟩)]⟩,
   ⟨.func (.func 74) #[] #[.pointer (some ⟨fb, 0, none⟩)], 74, #[], #[.pointer (some ⟨fb, 0, none⟩)]⟩,
   ⟨.func (.func 76) #[] #[.pointer (some ⟨fb, 0, none⟩)], 76, #[], #[.pointer (some ⟨fb, 0, none⟩)]⟩,
   ⟨.func (.func 78) #[.pointer (some ⟨B, 0, none⟩)] #[], 78, #[.pointer (some ⟨B, 0, none⟩)], #[]⟩]
theorem saveVs_run (B fb bb : Nat) : ∀ (j : Nat) x, (saveVs B fb bb)[j]? = some x → x.val = .func (.func x.k) x.fst x.cap ∧ ∀ w, Sem.run Tryz.prog (callFunc x.k (x.fst ++ x.cap)) w = .ok (.enter x.k (x.fst ++ x.cap)) w
  | 0, x, h => by simp [saveVs] at h; subst h; exact ⟨rfl, fun w => enters_S1 _ w⟩
  | 1, x, h => by simp [saveVs] at h; subst h; exact ⟨rfl, fun w => enters_S2 _ w⟩
  | 2, x, h => by simp [saveVs] at h; subst h; exact ⟨rfl, fun w => enters_S3 _ w⟩
  | 3, x, h => by simp [saveVs] at h; subst h; exact ⟨rfl, fun w => enters_S4 _ w⟩
  | 4, x, h => by simp [saveVs] at h; subst h; exact ⟨rfl, fun w => enters_S5 _ w⟩
  | 5, x, h => by simp [saveVs] at h; subst h; exact ⟨rfl, fun w => enters_S6 _ w⟩
  | j + 6, x, h => by simp [saveVs] at h
/-- What stands between the steps. -/
def SaveJ (k j : Nat) (st : Fs.St) : Prop := Fs.Sound st (k + 2 * j) ∧ Fs.PlanOK st
theorem saveJ_next (k : Nat) (b : List UInt8) : ∀ (j : Nat) f st, (Mf.steps b)[j]? = some f → SaveJ k j st → SaveJ k (j + 1) (f st).1
  | 0, f, st, h, hj => by
    simp [Mf.steps] at h; subst h
    unfold Mf.clear
    split
    · exact ⟨hj.1.remove _, hj.2.of (Fs.plan_remove _ _)⟩
    · exact ⟨hj.1.mono (by omega), hj.2⟩
  | 1, f, st, h, hj => by simp [Mf.steps] at h; subst h; exact ⟨hj.1.create _, hj.2.of (Fs.plan_create _ _)⟩
  | 2, f, st, h, hj => by simp [Mf.steps] at h; subst h; exact ⟨(hj.1.append _ _).mono (by omega), hj.2.of (Fs.plan_append _ _ _)⟩
  | 3, f, st, h, hj => by simp [Mf.steps] at h; subst h; exact ⟨(hj.1.sync _).mono (by omega), hj.2.of (Fs.plan_sync _ _)⟩
  | 4, f, st, h, hj => by simp [Mf.steps] at h; subst h; exact ⟨hj.1.rename _ _, hj.2.of (Fs.plan_rename _ _ _)⟩
  | 5, f, st, h, hj => by simp [Mf.steps] at h; subst h; exact ⟨hj.1.syncDir.mono (by omega), hj.2.of (Fs.plan_syncDir _)⟩
  | j + 6, f, st, h, hj => by simp [Mf.steps] at h
theorem first_sound {k n : Nat} : ∀ (fs : List (Fs.St → Fs.St × Int)) (j : Nat) (st : Fs.St), (∀ (i : Nat) f st, fs[i]? = some f → SaveJ k (j + i) st → SaveJ k (j + i + 1) (f st).1) → j + fs.length ≤ n → SaveJ k j st → SaveJ k n (Fs.first fs st).1
  | [], j, st, _, hn, h => ⟨h.1.mono (by simp at hn; omega), h.2⟩
  | f :: r, j, st, hf, hn, h => by
    have h1 := hf 0 f st rfl h
    rw [Fs.first]
    rw [List.length_cons] at hn
    split
    · exact ⟨h1.1.mono (by omega), h1.2⟩
    · exact first_sound r (j + 1) _ (fun i g s hg hs => by
        have := hf (i + 1) g s (by simpa using hg) (by rw [show j + (i + 1) = j + 1 + i by omega]; exact hs)
        rw [show j + (i + 1) + 1 = j + 1 + i + 1 by omega] at this
        exact this) (by omega) h1
theorem save_sound {st : Fs.St} {k : Nat} (hS : Fs.Sound st k) (hP : Fs.PlanOK st) (v : Int) (l : List Int) : Fs.Sound (Mf.save st v l).1 (k + 12) ∧ Fs.PlanOK (Mf.save st v l).1 := by
  unfold Mf.save
  split
  · exact ⟨hS.mono (by omega), hP⟩
  · exact first_sound (n := 6) _ 0 st (fun i f s hf hs => by
      rw [Nat.zero_add] at hs ⊢
      exact saveJ_next k _ i f s hf hs) (by simp [Mf.steps]) ⟨hS, hP⟩
theorem enc_pos (v : Int) (l : List Int) : 0 < (Mf.enc v l).length := by unfold Mf.enc; rw [Fr.bytes_len]; omega
set_option maxHeartbeats 1000000 in
set_option maxRecDepth 100000 in
theorem save_any (base B : Nat) (st : Fs.St) (V : FsV) (own : Nat → Tag) (ver : Int) (sv : Value) (l : List Int) (w : World) (h : FsOK base B st V own w) (hE : SgEnv base w) (hbase : base ≤ w.heap.size) (k : Nat) (hS : Fs.Sound st k) (hk : k ≤ 600000) (hP : Fs.PlanOK st)
    (hN : Nums w sv l) (hl : l.length ≤ 1000000000) :
    Calls Tryz.prog 23 #[.pointer (some ⟨B, 0, none⟩), .agg #[.int .i64 ver, sv]] w fun e w' => e = .returned (.int .i64 (Mf.save st ver l).2) ∧ OpPost base B (Mf.save st ver l).1 own w w' := by
  obtain ⟨sa, sc, rfl⟩ := hN.form
  have e1 : (w.alloc (.cells #[.pointer (some ⟨B, 0, none⟩)] 43)).heap.size = w.heap.size + 1 := by simp
  have hb0 : Below w.heap.size w ((w.alloc (.cells #[.pointer (some ⟨B, 0, none⟩)] 43)).alloc (.cells #[.int .i64 ver, .slice sa l.length sc] 24)) := ((Below.refl _ _).alloc (Nat.le_refl _) _).alloc (by simp) _
  have hr0 := heap_new (w.alloc (.cells #[.pointer (some ⟨B, 0, none⟩)] 43)) (.cells #[.int .i64 ver, .slice sa l.length sc] 24)
  rw [e1] at hr0
  have hf0 : ((w.alloc (.cells #[.pointer (some ⟨B, 0, none⟩)] 43)).alloc (.cells #[.int .i64 ver, .slice sa l.length sc] 24)).cell? ⟨w.heap.size, 0, none⟩ = some (.pointer (some ⟨B, 0, none⟩)) := by
    rw [World.cell?_of_block (Lib.alloc_old _ _ _ (by simp))]
    exact cell_new w _ _ 0 _ rfl
  have y0 : ((w.alloc (.cells #[.pointer (some ⟨B, 0, none⟩)] 43)).alloc (.cells #[.int .i64 ver, .slice sa l.length sc] 24)).cell? ⟨w.heap.size + 1, 0, none⟩ = some (.int .i64 ver) := root_cell hr0 0 _ rfl
  have y1 : ((w.alloc (.cells #[.pointer (some ⟨B, 0, none⟩)] 43)).alloc (.cells #[.int .i64 ver, .slice sa l.length sc] 24)).cell? ⟨w.heap.size + 1, 1, none⟩ = some (.slice sa l.length sc) := root_cell hr0 1 _ rfl
  have H := Lib.hid h
  have HE := Lib.hid hE
  have HN := Lib.hid hN
  have HB0 := Lib.hid hb0
  have HF0 := Lib.hid hf0
  clear h hE hN hb0 hr0 e1 hf0
  go_enter Tryz.func23, Tryz.ntmps23
  go_wp2_with fail
  refine (mencode_any ver _ l _ base (HE.out.below (HB0.out.mono hbase)) (Nat.le_trans hbase HB0.out.size) (HN.out.below HB0.out) hl).mono ?_
  rintro e w1 ⟨hb1, hres⟩
  have HB1 := Lib.hid (HB0.out.trans (hb1.mono HB0.out.size))
  have H1 := Lib.hid (H.out.kept (kept_below HB1.out))
  have hf1 : w1.cell? ⟨w.heap.size, 0, none⟩ = some (.pointer (some ⟨B, 0, none⟩)) := by rw [hb1.cell (cellLt HF0.out)]; exact HF0.out
  have hz1 : w.heap.size + 2 ≤ w1.heap.size := by have := hb1.size; simp at this; omega
  clear hb1 y0 y1
  rcases hres with ⟨hg, b, rfl, hob⟩ | ⟨hg, rfl⟩
  · obtain ⟨ba, bn, bc, hbv, HBN⟩ := OwnB.form3 hob
    subst hbv
    have HOB := Lib.hid hob
    have HG := Lib.hid hg
    clear hg hob
    have hf2 : (w1.alloc (.cells #[.slice ba bn bc] 25)).cell? ⟨w.heap.size, 0, none⟩ = some (.pointer (some ⟨B, 0, none⟩)) := by rw [World.cell?_of_block (Lib.alloc_old _ _ _ (show w.heap.size < w1.heap.size by omega))]; exact hf1
    have hbb2 : (w1.alloc (.cells #[.slice ba bn bc] 25)).cell? ⟨w1.heap.size, 0, none⟩ = some (.slice ba bn bc) := cell_new _ _ _ 0 _ rfl
    have hb12 : Below w1.heap.size w1 ((w1.alloc (.cells #[.slice ba bn bc] 25)).alloc (.cells ((saveVs B w.heap.size w1.heap.size).map (·.val)).toArray 33)) := ((Below.refl _ _).alloc (Nat.le_refl _) _).alloc (by simp) _
    have HK12 := Lib.hid (H1.out.kept (kept_below hb12))
    have hcell : ∀ (j : Nat) x, (saveVs B w.heap.size w1.heap.size)[j]? = some x → ((w1.alloc (.cells #[.slice ba bn bc] 25)).alloc (.cells ((saveVs B w.heap.size w1.heap.size).map (·.val)).toArray 33)).cell? ⟨w1.heap.size + 1, j, none⟩ = some x.val ∧ x.val = .func (.func x.k) x.fst x.cap ∧ ∀ w, Sem.run Tryz.prog (callFunc x.k (x.fst ++ x.cap)) w = .ok (.enter x.k (x.fst ++ x.cap)) w := fun j x hx => by
      refine ⟨?_, saveVs_run B _ _ j x hx⟩
      have e2 : (w1.alloc (.cells #[.slice ba bn bc] 25)).heap.size = w1.heap.size + 1 := by simp
      rw [← e2]
      exact cell_new _ _ _ j _ (by simp [hx])
    have HBY : Hid (BytesIn ((w1.alloc (.cells #[.slice ba bn bc] 25)).alloc (.cells ((saveVs B w.heap.size w1.heap.size).map (·.val)).toArray 33)) own (.slice ba bn bc) (Mf.enc ver l)) :=
      Lib.hid (((HOB.out.bytesIn (enc_pos ver l) (fun k hk => H.out.fresh k (by simp at hk; omega))).kept (kept_below (T := (· ≠ .other)) hb12) (by simp)))
    have HFB : Hid (((w1.alloc (.cells #[.slice ba bn bc] 25)).alloc (.cells ((saveVs B w.heap.size w1.heap.size).map (·.val)).toArray 33)).cell? ⟨w.heap.size, 0, none⟩ = some (.pointer (some ⟨B, 0, none⟩))) := by
      rw [World.cell?_of_block (Lib.alloc_old _ _ _ (by simp; omega))]; exact Lib.hid hf2
    have HBB : Hid (((w1.alloc (.cells #[.slice ba bn bc] 25)).alloc (.cells ((saveVs B w.heap.size w1.heap.size).map (·.val)).toArray 33)).cell? ⟨w1.heap.size, 0, none⟩ = some (.slice ba bn bc)) := by
      rw [World.cell?_of_block (Lib.alloc_old _ _ _ (by simp))]; exact Lib.hid hbb2
    have HFIRST := Lib.hid (first_any base B (Mf.steps (Mf.enc ver l)) (saveVs B w.heap.size w1.heap.size) (w1.heap.size + 1) (SaveJ k) st V own _ HK12.out ⟨hS, hP⟩ rfl (by simp [Mf.steps]) (by simp; try omega) (H.out.fresh _ (by omega)) hcell
      (by
        intro j f x hf hx st' V' own' w' hok hJ hO
        have hfb : w'.cell? ⟨w.heap.size, 0, none⟩ = some (.pointer (some ⟨B, 0, none⟩)) := by
          rw [World.cell?_of_block (hO.2 w.heap.size (by simp; omega) (H.out.fresh _ (Nat.le_refl _))).2]; exact HFB.out
        have hbb : w'.cell? ⟨w1.heap.size, 0, none⟩ = some (.slice ba bn bc) := by
          rw [World.cell?_of_block (hO.2 w1.heap.size (by simp; omega) (H.out.fresh _ (by omega))).2]; exact HBB.out
        have hbw : base ≤ w'.heap.size := by have := hO.1; simp at this; omega
        match j, hf, hx with
        | 0, hf, hx => simp [Mf.steps] at hf; simp [saveVs] at hx; subst hf hx; exact save1_any base B st' V' own' w' hok hbw _ hJ.1 (by omega) _ hfb
        | 1, hf, hx => simp [Mf.steps] at hf; simp [saveVs] at hx; subst hf hx; exact save2_any base B st' V' own' w' hok hbw _ hJ.1 (by omega) _ hfb
        | 2, hf, hx =>
          simp [Mf.steps] at hf; simp [saveVs] at hx; subst hf hx
          exact save3_any base B st' V' own' w' hok hbw _ hJ.1 (by omega) _ hfb _ _ _ (HBY.out.others hO) hbb (by have := Mf.enc_len HG.out; omega) hJ.2
        | 3, hf, hx => simp [Mf.steps] at hf; simp [saveVs] at hx; subst hf hx; exact save4_any base B st' V' own' w' hok hbw _ hJ.1 (by omega) _ hfb
        | 4, hf, hx => simp [Mf.steps] at hf; simp [saveVs] at hx; subst hf hx; exact save5_any base B st' V' own' w' hok hbw _ hJ.1 (by omega) _ hfb
        | 5, hf, hx => simp [Mf.steps] at hf; simp [saveVs] at hx; subst hf hx; exact syncDir_any base B st' V' own' w' hok
        | j + 6, hf, hx => simp [Mf.steps] at hf)
      (fun j f s hf hs _ => saveJ_next k _ j f s hf hs))
    have HB12 := Lib.hid (HB1.out.trans (hb12.mono HB1.out.size))
    have HSV : Hid (Mf.save st ver l = Fs.first (Mf.steps (Mf.enc ver l)) st) := by unfold Mf.save; rw [if_neg (by rw [HG.out]; simp)]; exact Lib.hid rfl
    clear hcell hb12 hbb2
    go_wp2_with fail
    refine HFIRST.out.mono ?_
    rintro e w3 ⟨rfl, hp⟩
    have HP := Lib.hid hp
    clear hp
    go_wp2_with fail
    go_ret
    rw [HSV.out]
    exact ⟨rfl, OpPost.step (kept_below HB12.out) (fun _ _ => rfl) HP.out⟩
  · have HSV : Hid (Mf.save st ver l = (st, 1)) := by unfold Mf.save; rw [if_pos hg]; exact Lib.hid rfl
    clear hg
    go_wp2_with fail
    go_ret
    rw [HSV.out]
    exact ⟨rfl, OpPost.of H.out (HB1.out.trans (((Below.refl _ _).alloc (Nat.le_refl _) _).mono HB1.out.size))⟩
end Go.Proofs.YtcinagglbkbmkaaGreatDoor
namespace Go.Proofs.YtcinagglbkbmkaaGreatDoor
set_option linter.unusedSimpArgs false
set_option linter.unusedVariables false
open Go Go.RowKit
namespace Fs
theorem room_step (st : St) : (step st).1.room = st.room := by
  obtain ⟨s, l, p, e⟩ := step_eq st
  rw [e]
theorem room_create (st : St) (n : List UInt8) : (create st n).1.room = st.room := by
  unfold create
  split
  · rfl
  split
  · rfl
  split
  · rfl
  split
  · exact room_step st
  · exact room_step st
theorem room_append (st : St) (n b : List UInt8) : (append st n b).1.room = st.room := by
  unfold append
  split
  · rfl
  split
  · rfl
  split
  · split
    · exact room_step st
    · exact room_step st
  split
  · exact room_step st
  · exact room_step st
theorem room_sync (st : St) (n : List UInt8) : (sync st n).1.room = st.room := by
  unfold sync
  split
  · rfl
  split
  · exact room_step st
  · exact room_step st
theorem room_syncDir (st : St) : (syncDir st).1.room = st.room := by
  unfold syncDir
  split
  · exact room_step st
  · exact room_step st
theorem room_remove (st : St) (n : List UInt8) : (remove st n).1.room = st.room := by
  unfold remove
  split
  · rfl
  split
  · exact room_step st
  · exact room_step st
theorem room_rename (st : St) (a b : List UInt8) : (rename st a b).1.room = st.room := by
  unfold rename
  split
  · rfl
  split
  · rfl
  split
  · exact room_step st
  · exact room_step st
theorem room_first : ∀ (fs : List (St → St × Int)) (st : St), (∀ f ∈ fs, ∀ s, (f s).1.room = s.room) → (first fs st).1.room = st.room
  | [], st, _ => rfl
  | f :: r, st, h => by
    rw [first]
    split
    · exact h f List.mem_cons_self st
    · rw [room_first r _ (fun g hg => h g (List.mem_cons_of_mem _ hg))]
      exact h f List.mem_cons_self st
theorem room_save (st : St) (v : Int) (l : List Int) : (Mf.save st v l).1.room = st.room := by
  unfold Mf.save
  split
  · rfl
  · refine room_first _ _ (fun f hf s => ?_)
    simp only [Mf.steps, List.mem_cons, List.not_mem_nil, or_false] at hf
    rcases hf with rfl | rfl | rfl | rfl | rfl | rfl
    · unfold Mf.clear
      split
      · exact room_remove _ _
      · rfl
    · exact room_create _ _
    · exact room_append _ _ _
    · exact room_sync _ _
    · exact room_rename _ _ _
    · exact room_syncDir _
/-- What holds ahead of a round: a manifest is there, or none. -/
structure SwapInv (st : St) (there : Bool) (now : Int × List Int) : Prop where
  rnd : Mf.Round st (if there then some (Mf.enc now.1 now.2) else none)
  gd : there = true → Mf.good now.1 now.2 = true
  room : st.room = 20000
  left : st.left = -1
  plan : st.plan = []
theorem SwapInv.new : SwapInv (Fs.new 20000) false (0, []) := ⟨Mf.Round.new ⟨by decide, by decide⟩, fun h => (by cases h), rfl, rfl, rfl⟩
/-- The power, set for a round. -/
def powered (st : St) (p : List Int) (n : Int) : St := { st with left := n, plan := p }
theorem SwapInv.arm {st : St} {there : Bool} {now : Int × List Int} (h : SwapInv st there now) (p : List Int) {n : Int} (hn : 0 ≤ n) : arm (planned st p) n = (powered st p n, 0) ∧ arm st n = (powered st [] n, 0) := by
  constructor
  · unfold Fs.arm planned
    rw [if_neg (by omega), if_neg (by show ¬ st.left = 0; rw [h.left]; decide)]
    rfl
  · unfold Fs.arm
    rw [if_neg (by omega), if_neg (by rw [h.left]; decide)]
    unfold powered
    rw [← h.plan]
theorem SwapInv.sound {st : St} {there : Bool} {now : Int × List Int} (h : SwapInv st there now) (p : List Int) (n : Int) : Sound (powered st p n) 2 := h.rnd.sound.power st.steps n p
/-- A round. -/
theorem SwapInv.round {st : St} {there : Bool} {now : Int × List Int} (h : SwapInv st there now) (p : List Int) (hp : ∀ z ∈ p, z ≤ 9223372036854775807) (n : Int) {v : Int} {l : List Int} (hg : Mf.good v l = true) (dirs : Int) (tails : List Int) :
    Sound (Mf.save (powered st p n) v l).1 14 ∧ (Mf.save (powered st p n) v l).1.room = 20000 ∧ ∀ st', st' = crash (Mf.save (powered st p n) v l).1 dirs tails → Sound st' 14 ∧
      ((Mf.load st' = ((v, l), 0) ∧ SwapInv st' true (v, l)) ∨
        ((Mf.save (powered st p n) v l).2 ≠ 0 ∧ SwapInv st' there now ∧ Mf.load st' = if there then (now, 0) else ((0, []), 3))) := by
  obtain ⟨s1, _⟩ := save_sound (h.sound p n) (show PlanOK (powered st p n) from hp) v l
  have hrm : (Mf.save (powered st p n) v l).1.room = 20000 := (room_save _ _ _).trans h.room
  refine ⟨s1, hrm, fun st' e => ?_⟩
  have hsw := Mf.save_sw h.rnd hg (powered st p n) ⟨st.steps, n, p, rfl⟩
  obtain ⟨cur', hr', hc⟩ := Mf.crash_round s1 hsw dirs tails
  rw [← e] at hr'
  have hl : st'.left = -1 := by rw [e]; rfl
  have hpl : st'.plan = [] := by rw [e]; rfl
  have hr2 : st'.room = 20000 := by rw [e]; exact hrm
  refine ⟨hr'.sound.mono (by omega), ?_⟩
  rcases hc with ⟨hc, hx⟩ | hc
  · refine .inr ⟨hx, ⟨by rw [← hc]; exact hr', h.gd, hr2, hl, hpl⟩, ?_⟩
    obtain ⟨k1, k2⟩ := hr'.load
    cases there
    · exact k1 hc
    · exact k2 now.1 now.2 (h.gd rfl) hc
  · refine .inl ⟨hr'.load.2 v l hg hc, ⟨by rw [hc] at hr'; exact hr', fun _ => hg, hr2, hl, hpl⟩⟩
end Fs
end Go.Proofs.YtcinagglbkbmkaaGreatDoor
namespace Go.Proofs.YtcinagglbkbmkaaGreatDoor
set_option linter.unusedSimpArgs false
set_option linter.unusedVariables false
open Go Go.RowKit
namespace Fs
/-- What holds ahead of round i. -/
structure LastInv (i : Nat) (st : St) (last : Int × List Int) : Prop where
  calm : Calm st
  inv : Inv st
  sound : Sound st (20 * i)
  room : st.room = 60000
  len : ∀ n b, look st n = some b → b.length ≤ 800 + i
  dir : st.dir.length ≤ i + (if mhas st.dir Mf.final then 1 else 0)
  zero : last.1 = 0 → look st Mf.final = none
  cur : last.1 ≠ 0 → Mf.good last.1 last.2 = true ∧ look st Mf.final = some (Mf.enc last.1 last.2)
theorem LastInv.new : LastInv 0 (Fs.new 60000) (0, []) :=
  ⟨⟨rfl, rfl⟩, Inv.new _, Sound.new ⟨by decide, by decide⟩ _, rfl, fun n b h => (by rw [look_new] at h; cases h), Nat.zero_le _, fun _ => rfl, fun h => absurd rfl h⟩
theorem LastInv.next {i : Nat} {st : St} {last : Int × List Int} (h : LastInv i st last) : LastInv (i + 1) st last :=
  ⟨h.calm, h.inv, h.sound.mono (by omega), h.room, fun n b hb => by have := h.len n b hb; omega, by have := h.dir; omega, h.zero, h.cur⟩
theorem LastInv.plan {i : Nat} {st : St} {last : Int × List Int} (h : LastInv i st last) : PlanOK st := fun z hz => by rw [h.calm.2] at hz; cases hz
theorem has_look {st : St} {n : List UInt8} : mhas st.dir n = (look st n).isSome := by
  unfold look
  cases mhas st.dir n <;> rfl
/-- A Mf.save. -/
theorem LastInv.save {i : Nat} {st : St} {last : Int × List Int} (h : LastInv i st last) (hi : i < 20) (v : Int) (l : List Int) :
    (Mf.good v l = true ∧ (Mf.save st v l).2 = 0 ∧ LastInv i { st with } last ∧ ∀ k, k = i → (Calm (Mf.save st v l).1 ∧ Inv (Mf.save st v l).1 ∧ Sound (Mf.save st v l).1 (20 * i + 12) ∧ (Mf.save st v l).1.room = 60000 ∧ (∀ n b, look (Mf.save st v l).1 n = some b → b.length ≤ 800 + i) ∧
      (Mf.save st v l).1.dir.length ≤ i + 1 ∧ look (Mf.save st v l).1 Mf.final = some (Mf.enc v l))) ∨ (Mf.good v l = false ∧ Mf.save st v l = (st, 1)) := by
  cases hg : Mf.good v l
  · exact .inr ⟨rfl, by unfold Mf.save; rw [if_pos hg]⟩
  · have hd : st.dir.length ≤ i + 1 := by have := h.dir; split at this <;> omega
    have hm : (st.dir.length + 1) * (800 + i) ≤ 22 * 820 := Nat.mul_le_mul (by omega) (by omega)
    obtain ⟨h1, h2, h3, h4, h5, h6⟩ := Mf.save_calm h.calm h.inv hg (by omega) (M := 800 + i) h.len (by rw [h.room]; omega) (fun f hf => (h.sound.full f hf).2)
    obtain ⟨s1, s2⟩ := save_sound h.sound h.plan v l
    refine .inl ⟨rfl, h1, h, fun k _ => ⟨h2.calm, h2.inv, s1, h2.room.trans h.room, fun n b hb => ?_, ?_, by rw [h6, if_pos rfl]⟩⟩
    · rw [h6] at hb
      by_cases hn : n = Mf.final
      · rw [if_pos hn] at hb
        have := Mf.enc_len hg
        have e : Mf.enc v l = b := Option.some.inj hb
        rw [← e]; omega
      · rw [if_neg hn] at hb
        by_cases hn2 : n = Mf.draft
        · rw [if_pos hn2] at hb; cases hb
        · rw [if_neg hn2] at hb; exact h.len n b hb
    · cases hf : mhas st.dir Mf.final
      · have := h.dir
        rw [hf] at this
        simp at this
        omega
      · have h7 := h4 hf
        have := h.dir
        rw [hf] at this
        simp at this
        omega
/-- Behind the Mf.save. -/
structure LastMid (i : Nat) (st : St) (last : Int × List Int) : Prop where
  calm : Calm st
  inv : Inv st
  sound : Sound st (20 * i + 12)
  room : st.room = 60000
  len : ∀ n b, look st n = some b → b.length ≤ 800 + i
  dir : st.dir.length ≤ i + (if mhas st.dir Mf.final then 1 else 0)
  zero : last.1 = 0 → look st Mf.final = none
  cur : last.1 ≠ 0 → Mf.good last.1 last.2 = true ∧ look st Mf.final = some (Mf.enc last.1 last.2)
theorem LastMid.next {i : Nat} {st : St} {last : Int × List Int} (h : LastMid i st last) : LastInv (i + 1) st last :=
  ⟨h.calm, h.inv, h.sound.mono (by omega), h.room, fun n b hb => by have := h.len n b hb; omega, by have := h.dir; omega, h.zero, h.cur⟩
theorem LastMid.plan {i : Nat} {st : St} {last : Int × List Int} (h : LastMid i st last) : PlanOK st := fun z hz => by rw [h.calm.2] at hz; cases hz
/-- Another file: created, written to, perhaps removed. -/
def other (st : St) (s : List UInt8) (rm : Bool) : St :=
  if rm then (remove (append (create st s).1 s [1]).1 s).1 else (append (create st s).1 s [1]).1
theorem other_bad {st : St} {s : List UInt8} (hg : Fs.good s = false) (rm : Bool) : other st s rm = st := by

  have h1 : (create st s).1 = st := by unfold create; rw [if_pos hg]
  have h2 : openE st s ≠ 0 := by unfold openE; rw [if_pos hg]; decide
  have h3 : (append st s [1]).1 = st := by unfold append; rw [if_pos h2]
  have h4 : (remove st s).1 = st := by unfold remove; rw [if_pos h2]
  unfold other
  rw [h1, h3, h4]
  split <;> rfl
theorem LastMid.other {i : Nat} {st : St} {last : Int × List Int} (h : LastMid i st last) (hi : i < 20) {s : List UInt8} (hs : s ≠ Mf.final) (rm : Bool) : LastInv (i + 1) (other st s rm) last ∧ Sound (create st s).1 (20 * i + 14) ∧ PlanOK (create st s).1 ∧ Sound (append (create st s).1 s [1]).1 (20 * i + 14) := by
  have hs1 := h.sound.create s
  have hs2 := hs1.append s [1]
  have hp1 := h.plan.of (plan_create st s)
  refine ⟨?_, hs1, hp1, hs2⟩
  cases hg : Fs.good s
  · rw [other_bad hg]; exact h.next
  have hd : st.dir.length ≤ i + 1 := by have := h.dir; split at this <;> omega
  -- the file is there
  obtain ⟨s1, e1, c1, i1, r1, l1, d1, ⟨old, o1, o2⟩, k1⟩ : ∃ s1, (create st s).1 = s1 ∧ Calm s1 ∧ Inv s1 ∧ s1.room = 60000 ∧ (∀ n b, look s1 n = some b → b.length ≤ 800 + i) ∧ s1.dir.length ≤ st.dir.length + 1 ∧
      (∃ old, look s1 s = some old ∧ old.length ≤ 800 + i) ∧ ∀ m, m ≠ s → look s1 m = look st m := by
    cases hh : mhas st.dir s
    · obtain ⟨a1, a2, a3, a4⟩ := calm_create h.calm h.inv hg hh (by omega)
      refine ⟨_, rfl, a2.calm, a2.inv, a2.room.trans h.room, fun n b hb => ?_, by omega, ⟨[], by rw [a4, if_pos rfl], by simp⟩, fun m hm => by rw [a4, if_neg hm]⟩
      rw [a4] at hb
      by_cases hn : n = s
      · rw [if_pos hn] at hb; have e : [] = b := Option.some.inj hb; rw [← e]; simp
      · rw [if_neg hn] at hb; exact h.len n b hb
    · have e : (create st s).1 = st := by unfold create; rw [if_neg (by rw [hg]; simp), if_pos hh]
      refine ⟨st, e, h.calm, h.inv, h.room, h.len, Nat.le_succ _, ?_, fun m _ => rfl⟩
      have : look st s = some (fileAt st s) := by unfold look; rw [if_pos hh]
      exact ⟨_, this, h.len s _ this⟩
  have hu : used s1 ≤ s1.dir.length * (800 + i) := used_look i1 l1
  have hu2 : s1.dir.length * (800 + i) ≤ 22 * 820 := Nat.mul_le_mul (by omega) (by omega)
  obtain ⟨b1, b2, b3, _, b4⟩ := calm_append (b := [1]) c1 i1 hg o1 (by simp; omega) (by rw [r1]; simp; omega)
  have hdir : ∀ (s' : St), s'.dir.length ≤ s1.dir.length → (mhas s'.dir Mf.final = mhas st.dir Mf.final) → s'.dir.length ≤ (i + 1) + (if mhas s'.dir Mf.final then 1 else 0) := by
    intro s' h1 h2
    rw [h2]
    have := h.dir
    omega
  have hfin : mhas (append s1 s [1]).1.dir Mf.final = mhas st.dir Mf.final := by
    rw [has_look, b4, if_neg (fun e => hs e.symm), k1 Mf.final (fun e => hs e.symm), ← has_look]
  have hlk : look (append s1 s [1]).1 Mf.final = look st Mf.final := by rw [b4, if_neg (fun e => hs e.symm), k1 Mf.final (fun e => hs e.symm)]
  have hlen : ∀ n b, look (append s1 s [1]).1 n = some b → b.length ≤ 800 + (i + 1) := by
    intro n b hb
    rw [b4] at hb
    by_cases hn : n = s
    · rw [if_pos hn] at hb; have e : old ++ [1] = b := Option.some.inj hb; rw [← e]; simp; omega
    · rw [if_neg hn] at hb; have := l1 n b hb; omega
  unfold Fs.other
  rw [e1] at hs2 ⊢
  cases rm
  · rw [if_neg (by simp)]
    refine ⟨b2.calm, b2.inv, hs2.mono (by omega), b2.room.trans r1, hlen, hdir _ (by rw [b3]; exact Nat.le_refl _) hfin, fun e => by rw [hlk]; exact h.zero e, fun e => by rw [hlk]; exact h.cur e⟩
  · rw [if_pos rfl]
    have hh2 : mhas (append s1 s [1]).1.dir s = true := by rw [has_look, b4, if_pos rfl]; rfl
    obtain ⟨g1, g2, g3, _, g5⟩ := calm_remove b2.calm b2.inv hg hh2
    have hfin2 : mhas (remove (append s1 s [1]).1 s).1.dir Mf.final = mhas st.dir Mf.final := by
      rw [has_look, g5, if_neg (fun e => hs e.symm), ← has_look]; exact hfin
    have hlk2 : look (remove (append s1 s [1]).1 s).1 Mf.final = look st Mf.final := by rw [g5, if_neg (fun e => hs e.symm)]; exact hlk
    refine ⟨g2.calm, g2.inv, (hs2.remove s).mono (by omega), g2.room.trans (b2.room.trans r1), fun n b hb => ?_, hdir _ (by rw [g3, b3]; exact mdel_len _ _) hfin2, fun e => ?_, fun e => ?_⟩
    · rw [g5] at hb
      by_cases hn : n = s
      · rw [if_pos hn] at hb; cases hb
      · rw [if_neg hn] at hb; exact hlen n b hb
    · show look (remove (append s1 s [1]).1 s).1 Mf.final = none
      rw [hlk2]; exact h.zero e
    · show _ ∧ look (remove (append s1 s [1]).1 s).1 Mf.final = _
      rw [hlk2]; exact h.cur e
theorem LastInv.load {i : Nat} {st : St} {last : Int × List Int} (h : LastInv i st last) : (last.1 = 0 → Mf.load st = ((0, []), 3)) ∧ (last.1 ≠ 0 → Mf.load st = (last, 0)) :=
  ⟨fun e => Mf.load_none (h.zero e), fun e => Mf.load_look (h.cur e).1 (h.cur e).2⟩
end Fs
end Go.Proofs.YtcinagglbkbmkaaGreatDoor
namespace Go.Proofs.YtcinagglbkbmkaaGreatDoor
set_option linter.unusedSimpArgs false
set_option linter.unusedVariables false
open Go Go.RowKit
open Go.Maps Go.WideMaps

theorem Ints.others {w w' : World} {own own' : Nat → Tag} {a : Option Addr} {n c : Nat} {l : List Int} (h : Ints w (.slice a n c) l) (hot : ∀ p, a = some p → own p.block = .other) (ho : Others own own' w w') : Ints w' (.slice a n c) l := by
  obtain ⟨a', c', h1, h2⟩ := h
  refine ⟨a', c', h1, fun i x hi => ?_⟩
  simp only [Value.slice.injEq] at h1
  obtain ⟨b, off, e, h3, h4⟩ := h2 i x hi
  obtain ⟨k1, k2⟩ := ho.2 b h3 (hot ⟨b, off, none⟩ (by rw [h1.1, e]))
  exact ⟨b, off, e, Nat.lt_of_lt_of_le h3 ho.1, by rw [World.cell?_of_block k2]; exact h4⟩
end Go.Proofs.YtcinagglbkbmkaaGreatDoor
namespace Go.Proofs.YtcinagglbkbmkaaGreatDoor
set_option linter.unusedSimpArgs false
set_option linter.unusedVariables false
open Go Go.RowKit
namespace Fs
/-- What holds ahead of round j of the creating. -/
structure CleansInv (v : Int) (l : List Int) (j : Nat) (st : St) : Prop where
  calm : Calm st
  inv : Inv st
  sound : Sound st (12 + 2 * j)
  room : st.room = 20000
  dir : st.dir.length ≤ 1 + j
  fin : look st Mf.final = some (Mf.enc v l)
  own : ∀ n b, look st n = some b → n ≠ Mf.final → b = n
section
variable {v : Int} {l : List Int}
theorem CleansInv.plan {j : Nat} {st : St} (h : CleansInv v l j st) : PlanOK st := fun z hz => by rw [h.calm.2] at hz; cases hz
theorem CleansInv.new (hg : Mf.good v l = true) : (Mf.save (Fs.new 20000) v l).2 = 0 ∧ CleansInv v l 0 (Mf.save (Fs.new 20000) v l).1 := by
  obtain ⟨h1, h2, h3, _, _, h6⟩ := Mf.save_calm (st := Fs.new 20000) ⟨rfl, rfl⟩ (Inv.new _) hg (by decide) (M := 0) (fun n b h => by rw [look_new] at h; cases h) (by decide) (fun f hf => by cases hf)
  obtain ⟨s1, _⟩ := save_sound (st := Fs.new 20000) (k := 0) (Sound.new ⟨by decide, by decide⟩ 0) (fun z hz => by cases hz) v l
  refine ⟨h1, h2.calm, h2.inv, s1.mono (by omega), h2.room, h3, by rw [h6, if_pos rfl], fun n b hb hn => ?_⟩
  rw [h6, if_neg hn] at hb
  split at hb
  · cases hb
  · rw [look_new] at hb; cases hb
theorem CleansInv.next {j : Nat} {st : St} (h : CleansInv v l j st) : CleansInv v l (j + 1) st :=
  ⟨h.calm, h.inv, h.sound.mono (by omega), h.room, by have := h.dir; omega, h.fin, h.own⟩
/-- Behind the cleaning. -/
structure Cleaned (v : Int) (l : List Int) (k : Nat) (st : St) : Prop where
  sound : Sound st k
  inv : Inv st
  fin : look st Mf.final = some (Mf.enc v l)
  rest : ∀ n, mhas st.dir n = true → n = Mf.final ∨ ((∃ x ∈ l, [115, 101, 103, 45] ++ Lib.itoa x = n) ∧ look st n = some n ∧ n ≠ Mf.final)
theorem Cleaned.load {k : Nat} {st : St} (h : Cleaned v l k st) (hg : Mf.good v l = true) : Mf.load st = ((v, l), 0) := Mf.load_look hg h.fin
end
end Fs
end Go.Proofs.YtcinagglbkbmkaaGreatDoor
