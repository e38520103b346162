/-
  The file system: Used, walked (the directory comes in whatever order).
-/
import Derived.Test.YtcimobbppmpmgaaDoorFs10
import Derived.Maps.RangeWalk
import Derived.Sort.KeysCollected
namespace Go.Proofs.YtcimobbppmpmgaaDoor
set_option linter.unusedSimpArgs false
set_option linter.unusedVariables false
open Go Go.RowKit
open Go.Maps Go.WideMaps

namespace Fs
def lenAt (st : St) (i : Int) : Nat := match st.files[i.toNat]? with | some f => f.1.length | none => 0
def usedL (st : St) (l : Names) : Nat := (l.map fun p => lenAt st p.2).sum
def used (st : St) : Nat := usedL st st.dir
/-- What is still to come. -/
def leftL (left : Lit → Bool) (l : Names) : Names := l.filter fun p => left (.string p.1)
theorem left_all (l : Names) : leftL (Maps.has (datum l)) l = l := by
  unfold leftL
  rw [List.filter_eq_self]
  intro p hp
  rw [datum_has]
  unfold mhas
  rw [List.any_eq_true]
  exact ⟨p, hp, by simp⟩
theorem left_none (left : Lit → Bool) (h : ∀ kl, left kl = false) (l : Names) : leftL left l = [] := by
  unfold leftL
  rw [List.filter_eq_nil_iff]
  intro p _
  rw [h]
  simp
theorem left_step (st : St) (left : Lit → Bool) (x : List UInt8) (c : Int) : ∀ l : Names, l.Pairwise (fun p q => p.1 ≠ q.1) → (x, c) ∈ l → left (.string x) = true →
    usedL st (leftL left l) = lenAt st c + usedL st (leftL (fun z => left z && !z.sameKey (.string x)) l)
  | [], _, h, _ => by simp at h
  | p :: l, hnd, h, hl => by
    rw [List.pairwise_cons] at hnd
    have e : ∀ y : List UInt8, (fun z : Lit => left z && !z.sameKey (.string x)) (.string y) = (left (.string y) && !(y == x)) := fun y => rfl
    rcases List.mem_cons.1 h with h1 | h1
    · have hp1 : p.1 = x := by rw [← h1]
      have hp2 : p.2 = c := by rw [← h1]
      have hrest : leftL (fun z => left z && !z.sameKey (.string x)) l = leftL left l := by
        unfold leftL
        apply List.filter_congr
        intro q hq
        have hne : q.1 ≠ x := fun e2 => hnd.1 q hq (by rw [hp1, e2])
        show (left (.string q.1) && !(q.1 == x)) = left (.string q.1)
        simp [hne]
      have e1 : leftL left (p :: l) = p :: leftL left l := by
        unfold leftL
        rw [List.filter_cons, if_pos (by rw [hp1]; exact hl)]
      have e2 : leftL (fun z => left z && !z.sameKey (.string x)) (p :: l) = leftL (fun z => left z && !z.sameKey (.string x)) l := by
        unfold leftL
        rw [List.filter_cons, if_neg (by show ¬ (left (.string p.1) && !(p.1 == x)) = true; rw [hp1]; simp)]
      rw [e1, e2, hrest]
      unfold usedL
      rw [List.map_cons, List.sum_cons, hp2]
    · have hne : p.1 ≠ x := fun e2 => hnd.1 _ h1 e2
      have ih := left_step st left x c l hnd.2 h1 hl
      have hk : (fun z : Lit => left z && !z.sameKey (.string x)) (.string p.1) = left (.string p.1) := by
        show (left (.string p.1) && !(p.1 == x)) = left (.string p.1)
        simp [hne]
      cases hlp : left (.string p.1)
      · have e1 : leftL left (p :: l) = leftL left l := by unfold leftL; rw [List.filter_cons, if_neg (by rw [hlp]; simp)]
        have e2 : leftL (fun z => left z && !z.sameKey (.string x)) (p :: l) = leftL (fun z => left z && !z.sameKey (.string x)) l := by
          unfold leftL; rw [List.filter_cons, if_neg (by rw [hk, hlp]; simp)]
        rw [e1, e2]
        exact ih
      · have e1 : leftL left (p :: l) = p :: leftL left l := by unfold leftL; rw [List.filter_cons, if_pos hlp]
        have e2 : leftL (fun z => left z && !z.sameKey (.string x)) (p :: l) = p :: leftL (fun z => left z && !z.sameKey (.string x)) l := by
          unfold leftL; rw [List.filter_cons, if_pos (by rw [hk]; exact hlp)]
        rw [e1, e2]
        unfold usedL at ih ⊢
        rw [List.map_cons, List.sum_cons, List.map_cons, List.sum_cons, ih]
        omega
theorem at_mem {l : Names} {x : List UInt8} {c : Int} (h : ∀ zd, (datum l).atKey (.string x) zd = .lit (.int .i64 c)) : (x, c) ∈ l := by
  have h1 := h (.lit (.int .i64 c))
  unfold datum DataW.atKey at h h1
  simp only [List.find?_map] at h h1
  have e : ((fun p : Lit × DataW Unit => p.1.sameKey (.string x)) ∘ ent) = fun p => p.1 == x := rfl
  rw [e] at h
  cases hf : l.find? (fun p => p.1 == x) with
  | none =>
    have := h .nil
    rw [hf] at this
    cases this
  | some p =>
    have h2 := h .nil
    rw [hf] at h2
    simp only [Option.map_some, ent, DataW.lit.injEq, Lit.int.injEq, true_and] at h2
    have h3 := List.find?_some hf
    have h4 := List.mem_of_find?_eq_some hf
    have : p = (x, c) := by
      have : p.1 = x := by simpa using h3
      rw [← this, ← h2]
    rw [← this]
    exact h4
theorem sum_le (st : St) (M : Nat) (hM : ∀ f ∈ st.files, f.1.length ≤ M) : ∀ l : Names, usedL st l ≤ l.length * M
  | [] => Nat.zero_le _
  | p :: l => by
    have h1 := sum_le st M hM l
    have h2 : lenAt st p.2 ≤ M := by
      unfold lenAt
      cases hf : st.files[p.2.toNat]? with
      | none => exact Nat.zero_le _
      | some f => exact hM f (List.mem_of_getElem? hf)
    unfold usedL at h1 ⊢
    rw [List.map_cons, List.sum_cons, List.length_cons, Nat.succ_mul]
    omega
end Fs

set_option maxHeartbeats 1000000 in
set_option maxRecDepth 100000 in
theorem used_any (base B : Nat) (st : Fs.St) (V : FsV) (own : Nat → Tag) (w : World) (h : FsOK base B st V own w) (hlen : ∀ f ∈ st.files, f.1.length ≤ 1000000) (hdl : st.dir.length ≤ 900000) (hfl : st.files.length ≤ 900000) :
    Calls Tryd.prog 30 #[.pointer (some ⟨B, 0, none⟩)] w fun e w' => e = .returned (.int .i64 (Fs.used st)) ∧ Below w.heap.size w w' := by
  have x5 : w.cell? ⟨B, 5, none⟩ = some (.map (some V.md)) := root_cell h.at_.root 5 _ rfl
  have x4 : w.cell? ⟨B, 4, none⟩ = some V.fv := root_cell h.at_.root 4 _ rfl
  have HM := Lib.hid h.at_.dir
  have hlt := h.at_.dir.lt
  have hBlt := heap_lt h.at_.root
  have HND := Lib.hid h.at_.dir.nodup
  have H := Lib.hid h
  have hful : Fs.used st ≤ 900000 * 1000000 := by
    have h1 := Fs.sum_le st 1000000 hlen st.dir
    have h2 := Nat.mul_le_mul_right 1000000 hdl
    exact Nat.le_trans h1 h2
  have hful2 : Fs.used st ≤ 1000000000000 := Nat.le_trans hful (by decide)
  clear h hful
  go_enter Tryd.func30, Tryd.ntmps30
  go_wp2_with (first | (at_range; refine wpList_range_own _ rfl _ 54 rfl 9 3 strKeyed Tryd.underlying54 _ V.md _ _ rfl HM.out ?_; intro w0 hrg0 hg0 hs0) | fail)
  go_frame
  go_loopg [3] (Maps.size (Fs.datum st.dir)) (fun k s3 wr => ∃ (left : Lit → Bool) (n : Nat), wr.ranges Tryd.prog 9 (plainElem (H := Unit) Tryd.prog 3) V.md w.heap.size st.dir.length (Fs.datum st.dir) left k ∧ s3 = .int .i64 (n : Nat) ∧
    n + Fs.usedL st (Fs.leftL left st.dir) = Fs.used st ∧ Below w.heap.size w wr)
  case atStart =>
    refine ⟨_, 0, hrg0, rfl, ?_, ?_⟩
    · rw [Fs.left_all]; simp [Fs.used]
    · exact (Below.refl _ _).grown hg0 (Nat.le_refl _) (fun k hk => by cases hk)
  case round =>
    obtain ⟨left, n, hrg, rfl, hsum, hB⟩ := hrel
    have HSUM := Lib.hid hsum
    have hnle : n ≤ 1000000000000 := by omega
    clear hsum hs0 hg0 hrg0
    go_wp2_with (first | (at_next; refine wpList_next_ranges _ rfl _ rfl 9 strKeyed (plainElem (H := Unit) Tryd.prog 3) encStr (Value.int .i64) (fun key kl hk => by obtain ⟨x, hx, _⟩ := Maps.keyOf_str Tryd.underlying9 hk; exact ⟨x, hx⟩) (fun v y hv => by obtain ⟨c, rfl, _⟩ := plainElem_int_inv Tryd.underlying3 hv; exact ⟨c, rfl⟩) V.md w.heap.size _ _ _ _ rfl hrg ?_ ?_) | fail)
    · intro _ hl0
      have hn : n = Fs.used st := by
        rw [← HSUM.out, Fs.left_none left hl0]
        rfl
      clear hrg hl0
      subst hn
      go_wp2
      go_ret
      exact ⟨rfl, hB⟩
    · intro x c kl yd yp w2 cnt2 hkey hlk hv hat hrg2 hlt2 hg2 hs2 hen
      obtain ⟨x', ex, rfl, _⟩ := Maps.keyOf_str Tryd.underlying9 hkey
      obtain rfl : x = x' := encStr_inj ex
      obtain ⟨c', ec, hv2, _⟩ := plainElem_int_inv Tryd.underlying3 hv
      simp only [Value.int.injEq, true_and] at ec
      subst ec
      simp only [Prod.mk.injEq] at hv2
      obtain ⟨rfl, -⟩ := hv2
      have hmem := Fs.at_mem hat
      obtain ⟨hc0, hcn⟩ := H.out.at_.known _ hmem
      obtain ⟨i, rfl⟩ : ∃ i : Nat, c = (i : Int) := ⟨c.toNat, by simp at hc0; omega⟩
      have hin : i < st.files.length := by simp at hcn; exact hcn
      have HST := Lib.hid (Fs.left_step st left x (i : Int) st.dir HND.out hmem hlk)
      have hB2 : Below w.heap.size w w2 := hB.grown hg2 hB.size (fun k hk => by cases hk; exact Nat.le_refl _)
      obtain ⟨f, hf⟩ : ∃ f, st.files[i]? = some f := ⟨_, List.getElem?_eq_getElem hin⟩
      obtain ⟨b, hb⟩ : ∃ b, V.fb[i]? = some b := ⟨_, List.getElem?_eq_getElem (by rw [H.out.at_.nfb]; exact hin)⟩
      obtain ⟨d, hd⟩ : ∃ d, V.dv[i]? = some d := ⟨_, List.getElem?_eq_getElem (by rw [H.out.at_.ndv]; exact hin)⟩
      have HF := H.out.at_.file i f b d hf hb hd
      obtain ⟨g, cap, hfv, hgc⟩ : ∃ g cap, V.fv = .slice (some ⟨g, 0, none⟩) st.files.length cap ∧ w.cell? ⟨g, i, none⟩ = some (.pointer (some ⟨b, 0, none⟩)) := by
        rcases H.out.at_.files.2 with ⟨h1, h2⟩ | ⟨g, cap, cur, h1, _⟩
        · omega
        · exact ⟨g, cap, h1, by rw [← addr_add]; exact World.ownsRow.cells H.out.at_.files (by rw [h1]; rfl) _ _ (ptr_cells _ _ _ hb)⟩
      obtain ⟨da, dc, hdv⟩ : ∃ a c, d = .slice a f.1.length c := by
        rcases HF.row.2 with ⟨e1, e2⟩ | ⟨g, cap, cur, e1, _⟩
        · exact ⟨none, 0, by rw [e1, e2]⟩
        · exact ⟨_, _, e1⟩
      have y0 : w.cell? ⟨b, 0, none⟩ = some (.slice da f.1.length dc) := by rw [← hdv]; exact root_cell HF.blk 0 _ rfl
      have hfl1 := hlen f (List.mem_of_getElem? hf)
      rw [hfv] at x4
      have z4 : w2.cell? ⟨B, 4, none⟩ = some (.slice (some ⟨g, 0, none⟩) st.files.length cap) := by rw [hB2.cell hBlt]; exact x4
      have zg : w2.cell? ⟨g, i, none⟩ = some (.pointer (some ⟨b, 0, none⟩)) := by rw [hB2.cell (cellLt hgc)]; exact hgc
      have zb : w2.cell? ⟨b, 0, none⟩ = some (.slice da f.1.length dc) := by rw [hB2.cell (cellLt y0)]; exact y0
      have hla : Fs.lenAt st (i : Int) = f.1.length := by unfold Fs.lenAt; simp [hf]
      have hi0 : (0 : Int) ≤ (i : Int) := Int.natCast_nonneg _
      have hi1 : (i : Int) < (st.files.length : Int) := by omega
      have HLA := Lib.hid hla
      have HRG := Lib.hid hrg2
      clear hs2 hmem hkey hat hv hla hfv hdv hrg hrg2 HF hf hb hd hg2 y0 hgc x4 hc0 hcn hlk
      go_wp2
      go_roundg cnt2
      case measure => exact hlt2
      case rel =>
        refine ⟨_, n + f.1.length, HRG.out, ?_, ?_, hB2⟩
        · go_num
        · have h1 := HSUM.out
          rw [HST.out, HLA.out] at h1
          omega
end Go.Proofs.YtcimobbppmpmgaaDoor
