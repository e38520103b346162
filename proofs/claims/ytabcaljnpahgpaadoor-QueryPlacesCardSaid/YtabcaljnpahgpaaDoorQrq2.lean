/-
  Places that rise are places as the law asks them (no program in sight).
-/
import Derived.Test.YtabcaljnpahgpaaDoorQrq
namespace Go.Proofs.YtabcaljnpahgpaaDoor
set_option linter.unusedSimpArgs false
set_option linter.unusedVariables false
open Go Go.RowKit
namespace Qr
open Rd
/-- Arguments behind a place, ahead of another. -/
def chainA : Int → Int → List A → Prop
  | _, _, [] => True
  | last, e, x :: r => last < x.at_ ∧ (x.at_ : Int) < e ∧ x.at_ < x.v.at_ ∧ chainA x.at_ e r
def lastA : Int → List A → Int
  | last, [] => last
  | _, x :: r => lastA x.at_ r
def chainD : Int → Int → List Dir → Prop
  | _, _, [] => True
  | last, e, x :: r => last < x.at_ ∧ (x.at_ : Int) < e ∧ chainD x.at_ e r
/-- Where the next one begins, or the end. -/
def nextOf (to : Int) : List Sel → Int
  | [] => to
  | x :: _ => x.at_
mutual
def Sel.okP : Sel → Int → Int → Prop
  | .mk _ _ _ ar ds ss a, f, e => f ≤ a ∧ (a : Int) < e ∧ Sel.okPs ss ((a : Int) + 1) e ∧ chainA ((a : Int) - 1) e ar ∧ chainD (lastA ((a : Int) - 1) ar) e ds
def Sel.okPs : List Sel → Int → Int → Prop
  | [], _, _ => True
  | x :: r, f, to => Sel.okP x f (nextOf to r) ∧ Sel.okPs r ((x.at_ : Int) + 1) to
end
/-- Places that rise. -/
def Up (ps : List Pl) : Prop := ps.Pairwise fun p q => p.1 < q.1
theorem rise_up {s : ByteArray} : ∀ {ps : List Pl} {last : Int}, Rise s last ps → Up ps ∧ ∀ p ∈ ps, last < p.1 ∧ p.1 < s.size
  | [], _, _ => ⟨List.Pairwise.nil, fun p hp => absurd hp (by simp)⟩
  | (a, x) :: r, last, h => by
    unfold Rise at h
    obtain ⟨h1, h2, h3, h4⟩ := h
    obtain ⟨k1, k2⟩ := rise_up h4
    refine ⟨List.pairwise_cons.2 ⟨fun q hq => ?_, k1⟩, fun p hp => ?_⟩
    · have := (k2 q hq).1; show a < q.1; omega
    · rcases List.mem_cons.1 hp with rfl | hp
      · exact ⟨h1, h2⟩
      · have := k2 p hp; exact ⟨by omega, this.2⟩
theorem chainA_of {e : Int} : ∀ {ar : List A} {last : Int}, Up (ar.flatMap Ap) → (∀ p ∈ ar.flatMap Ap, last < p.1 ∧ (p.1 : Int) < e) → chainA last e ar ∧ (last ≤ lastA last ar) ∧ (lastA last ar < e ∨ lastA last ar = last) ∧ (∀ q : Int, last < q → (∀ p ∈ ar.flatMap Ap, (p.1 : Int) < q) → lastA last ar < q)
  | [], last, _, _ => ⟨trivial, Int.le_refl _, .inr rfl, fun q h _ => h⟩
  | x :: r, last, hu, hb => by
    have hu2 : Up ((x.at_, some x.name) :: (x.v.at_, none) :: r.flatMap Ap) := hu
    have h1 := List.pairwise_cons.1 hu2
    have h2 := List.pairwise_cons.1 h1.2
    have b1 := hb (x.at_, some x.name) (by simp [Ap])
    have b2 : x.at_ < x.v.at_ := h1.1 (x.v.at_, none) (by simp)
    obtain ⟨k1, k2, k3, k4⟩ := chainA_of (e := e) (last := (x.at_ : Int)) h2.2 (fun p hp => ⟨by have := h1.1 p (List.mem_cons_of_mem _ hp); simp only at this; omega, (hb p (by rw [List.flatMap_cons]; exact List.mem_append_right _ hp)).2⟩)
    simp only at b1
    refine ⟨⟨b1.1, b1.2, b2, k1⟩, by show last ≤ lastA x.at_ r; omega, ?_, fun q hq hp => ?_⟩
    · show lastA x.at_ r < e ∨ _
      rcases k3 with k3 | k3
      · exact .inl k3
      · exact .inl (by rw [k3]; exact b1.2)
    · show lastA x.at_ r < q
      exact k4 q (hp (x.at_, some x.name) (by simp [Ap])) (fun p hp2 => hp p (by rw [List.flatMap_cons]; exact List.mem_append_right _ hp2))
theorem chainD_of {e : Int} : ∀ {ds : List Dir} {last : Int}, Up (ds.flatMap Dir.pl) → (∀ p ∈ ds.flatMap Dir.pl, last < p.1 ∧ (p.1 : Int) < e) → chainD last e ds
  | [], last, _, _ => trivial
  | x :: r, last, hu, hb => by
    have hu2 : Up ((x.at_, none) :: r.flatMap Dir.pl) := hu
    have h1 := List.pairwise_cons.1 hu2
    have b1 := hb (x.at_, none) (by simp [Dir.pl])
    exact ⟨b1.1, b1.2, chainD_of h1.2 (fun p hp => ⟨by have := h1.1 p hp; simp only at this; omega, (hb p (by rw [List.flatMap_cons]; exact List.mem_append_right _ hp)).2⟩)⟩
theorem pl_head (x : Sel) : ∃ r, x.pl = (x.at_, none) :: r := by
  cases x
  exact ⟨_, by unfold Sel.pl Sel.at_; rfl⟩
mutual
theorem okP_of : ∀ (x : Sel) (f e : Int), Up x.pl → (∀ p ∈ x.pl, f ≤ p.1 ∧ (p.1 : Int) < e) → x.okP f e
  | .mk k al nm ar ds ss a, f, e, hu, hb => by
    unfold Sel.pl at hu hb
    unfold Sel.okP
    have h1 := List.pairwise_cons.1 hu
    have h2 := List.pairwise_append.1 h1.2
    have h3 := List.pairwise_append.1 h2.2.1
    have b0 := hb (a, none) List.mem_cons_self
    have hlt : ∀ p ∈ ar.flatMap Ap ++ (ds.flatMap Dir.pl ++ Sel.pls ss), a < p.1 ∧ (p.1 : Int) < e := fun p hp => ⟨h1.1 p hp, (hb p (List.mem_cons_of_mem _ hp)).2⟩
    obtain ⟨k1, k2, k3, k4⟩ := chainA_of (e := e) (last := (a : Int) - 1) h2.1 (fun p hp => by have := hlt p (List.mem_append_left _ hp); exact ⟨by omega, this.2⟩)
    refine ⟨b0.1, b0.2, okPs_of ss _ _ h3.2.1 (fun p hp => by have := hlt p (List.mem_append_right _ (List.mem_append_right _ hp)); exact ⟨by omega, this.2⟩), k1, chainD_of h3.1 (fun p hp => ?_)⟩
    have h5 := hlt p (List.mem_append_right _ (List.mem_append_left _ hp))
    exact ⟨k4 p.1 (by omega) (fun q hq => by have := h2.2.2 q hq p (List.mem_append_left _ hp); omega), h5.2⟩
theorem okPs_of : ∀ (l : List Sel) (f to : Int), Up (Sel.pls l) → (∀ p ∈ Sel.pls l, f ≤ p.1 ∧ (p.1 : Int) < to) → Sel.okPs l f to
  | [], _, _, _, _ => by unfold Sel.okPs; trivial
  | x :: r, f, to, hu, hb => by
    unfold Sel.pls at hu hb
    unfold Sel.okPs
    have h1 := List.pairwise_append.1 hu
    obtain ⟨q, hq⟩ := pl_head x
    refine ⟨okP_of x f _ h1.1 (fun p hp => ⟨(hb p (List.mem_append_left _ hp)).1, ?_⟩), okPs_of r _ _ h1.2.1 (fun p hp => ⟨?_, (hb p (List.mem_append_right _ hp)).2⟩)⟩
    · cases r with
      | nil => exact (hb p (List.mem_append_left _ hp)).2
      | cons y r =>
        obtain ⟨q2, hq2⟩ := pl_head y
        have := h1.2.2 p hp (y.at_, none) (by rw [Sel.pls, hq2]; exact List.mem_append_left _ List.mem_cons_self)
        show (p.1 : Int) < (y.at_ : Int)
        simp only at this
        omega
    · have := h1.2.2 (x.at_, none) (by rw [hq]; exact List.mem_cons_self) p hp
      simp only at this
      omega
end
/-- An operation in its place. -/
structure OpIn (s : ByteArray) (last : Int) (o : Op) : Prop where
  lo : last < o.at_
  hi : o.at_ < s.size
  vars : Rise s o.at_ (o.vars.flatMap Vd.pl)
  sels : Sel.okPs o.sels ((o.at_ : Int) + 1) s.size
structure FrIn (s : ByteArray) (last : Int) (o : Fr) : Prop where
  lo : last < o.at_
  hi : o.at_ < s.size
  sels : Sel.okPs o.sels ((o.at_ : Int) + 1) s.size
theorem rise_pre {s : ByteArray} : ∀ {ps qs : List Pl} {last : Int}, Rise s last (ps ++ qs) → Rise s last ps ∧ Rise s last qs
  | [], qs, last, h => ⟨by unfold Rise; trivial, h⟩
  | (a, x) :: ps, qs, last, h => by
    rw [List.cons_append] at h
    unfold Rise at h
    obtain ⟨h1, h2, h3, h4⟩ := h
    obtain ⟨k1, k2⟩ := rise_pre h4
    refine ⟨by unfold Rise; exact ⟨h1, h2, h3, k1⟩, ?_⟩
    cases qs with
    | nil => unfold Rise; trivial
    | cons q qs =>
      obtain ⟨b, y⟩ := q
      unfold Rise at k2 ⊢
      exact ⟨by omega, k2.2⟩
theorem op_in {s : ByteArray} {last : Int} {o : Op} {R : List Pl} (h : Rise s last (o.pl ++ R)) : OpIn s last o ∧ Rise s o.at_ R := by
  unfold Op.pl at h
  rw [List.cons_append] at h
  unfold Rise at h
  obtain ⟨h1, h2, -, h4⟩ := h
  rw [List.append_assoc, List.append_assoc] at h4
  obtain ⟨k1, k2⟩ := rise_pre h4
  obtain ⟨-, k3⟩ := rise_pre k2
  obtain ⟨k4, k5⟩ := rise_pre k3
  obtain ⟨u1, u2⟩ := rise_up k4
  exact ⟨⟨h1, h2, k1, okPs_of _ _ _ (by rw [Sel.pls_map]; exact u1) (fun p hp => by rw [Sel.pls_map] at hp; have := u2 p hp; exact ⟨by omega, by omega⟩)⟩, k5⟩
theorem fr_in {s : ByteArray} {last : Int} {o : Fr} {R : List Pl} (h : Rise s last (o.pl ++ R)) : FrIn s last o ∧ Rise s o.at_ R := by
  unfold Fr.pl at h
  rw [List.cons_append] at h
  unfold Rise at h
  obtain ⟨h1, h2, -, h4⟩ := h
  rw [List.append_assoc] at h4
  obtain ⟨-, k3⟩ := rise_pre h4
  obtain ⟨k4, k5⟩ := rise_pre k3
  obtain ⟨u1, u2⟩ := rise_up k4
  exact ⟨⟨h1, h2, okPs_of _ _ _ (by rw [Sel.pls_map]; exact u1) (fun p hp => by rw [Sel.pls_map] at hp; have := u2 p hp; exact ⟨by omega, by omega⟩)⟩, k5⟩
end Qr
end Go.Proofs.YtabcaljnpahgpaaDoor
