/-
  Segments: whose name a text is.
-/
import Derived.Test.YtcimobbppmpmgaaDoorSg1
namespace Go.Proofs.YtcimobbppmpmgaaDoor
set_option linter.unusedSimpArgs false
set_option linter.unusedVariables false
open Go Go.RowKit
open Go.Maps Go.WideMaps

namespace Sg
def seg : List UInt8 := [115, 101, 103, 45]
def isDig (c : UInt8) : Bool := decide (48 ≤ c.toNat) && decide (c.toNat ≤ 57)
def dval (l : List UInt8) : Nat := l.foldl (fun n c => n * 10 + (c.toNat - 48)) 0
/-- The document's answer. -/
def refId (l : List UInt8) : Int :=
  if l.length < 5 ∨ 14 < l.length ∨ l.take 4 ≠ seg then 0
  else if (l.drop 4).all isDig = false then 0
  else if nameE (dval (l.drop 4)) ≠ 0 ∨ nameB (dval (l.drop 4)) ≠ l then 0
  else dval (l.drop 4)
/-- The program's. -/
def idOf (l : List UInt8) : Int :=
  match Lib.atoiAll (Lib.trimPrefix l seg) with
  | .ok v => if Lib.hasPrefix l seg = true ∧ nameE v = 0 ∧ nameB v = l then v else 0
  | _ => 0
end Sg

theorem take_ext (s : ByteArray) : (s.extract 0 4).toList = s.data.toList.take 4 := by
  rw [ByteArray.toList_eq]
  simp
theorem dval_more (s : ByteArray) (a : Nat) (h : a < s.size) (h4 : 4 ≤ a) :
    Sg.dval ((s.data.toList.drop 4).take (a + 1 - 4)) = Sg.dval ((s.data.toList.drop 4).take (a - 4)) * 10 + ((bt s a).toNat - 48) ∧
    ((s.data.toList.drop 4).take (a + 1 - 4)).all Sg.isDig = (((s.data.toList.drop 4).take (a - 4)).all Sg.isDig && Sg.isDig (bt s a)) := by
  have hx : s.data.toList[a]? = some (bt s a) := by
    unfold bt
    rw [List.getD_eq_getElem?_getD, List.getElem?_eq_getElem (by simpa using h)]
    rfl
  have hd : (s.data.toList.drop 4)[a - 4]? = some (bt s a) := by rw [List.getElem?_drop, show 4 + (a - 4) = a by omega]; exact hx
  have ht : (s.data.toList.drop 4).take (a + 1 - 4) = (s.data.toList.drop 4).take (a - 4) ++ [bt s a] := by
    rw [show a + 1 - 4 = (a - 4) + 1 by omega, List.take_add_one, hd]
    rfl
  rw [ht]
  constructor
  · unfold Sg.dval; rw [List.foldl_append]; rfl
  · rw [List.all_append]; simp
theorem dval_all (s : ByteArray) (a : Nat) (h : a = s.size) : (s.data.toList.drop 4).take (a - 4) = s.data.toList.drop 4 := by
  subst h
  exact List.take_of_length_le (by simp)
theorem dval_bad (s : ByteArray) (a : Nat) (h : a < s.size) (h4 : 4 ≤ a) (hb : Sg.isDig (bt s a) = false) : (s.data.toList.drop 4).all Sg.isDig = false := by
  have h1 := (dval_more s a h h4).2
  rw [hb, Bool.and_false] at h1
  cases hh : (s.data.toList.drop 4).all Sg.isDig with
  | false => rfl
  | true =>
    have : ((s.data.toList.drop 4).take (a + 1 - 4)).all Sg.isDig = true := List.all_eq_true.2 fun x hx => List.all_eq_true.1 hh x (List.mem_of_mem_take hx)
    rw [this] at h1
    cases h1
theorem dval_lt : ∀ (k : Nat) (l : List UInt8) (n : Nat), l.length ≤ k → l.all Sg.isDig = true → (l.foldl (fun n c => n * 10 + (c.toNat - 48)) n) < (n + 1) * 10 ^ k
  | k, [], n, _, _ => by
    have := Nat.one_le_pow k 10 (by omega)
    have h2 : (n + 1) * 1 ≤ (n + 1) * 10 ^ k := Nat.mul_le_mul_left _ this
    simp only [List.foldl_nil]
    omega
  | 0, c :: l, n, h, _ => by simp at h
  | k + 1, c :: l, n, h, ha => by
    simp only [List.all_cons, Bool.and_eq_true] at ha
    have h1 := dval_lt k l (n * 10 + (c.toNat - 48)) (by simpa using h) ha.2
    have hc := ha.1
    unfold Sg.isDig at hc
    simp only [Bool.and_eq_true, decide_eq_true_eq] at hc
    rw [List.foldl_cons, Nat.pow_succ]
    have h2 : (n * 10 + (c.toNat - 48) + 1) * 10 ^ k ≤ ((n + 1) * 10) * 10 ^ k := Nat.mul_le_mul_right _ (by omega)
    have h3 : ((n + 1) * 10) * 10 ^ k = (n + 1) * (10 ^ k * 10) := by rw [Nat.mul_assoc, Nat.mul_comm 10]
    omega
set_option maxHeartbeats 1000000 in
set_option maxRecDepth 100000 in
theorem refId_any (s : ByteArray) (w : World) (hs : s.size ≤ 1000000) :
    Calls Tryd.prog 10 #[.string s] w fun e w' => e = .returned (.int .i64 (Sg.refId s.data.toList)) ∧ Below w.heap.size w w' := by
  have hs0 : (0 : Int) ≤ (s.size : Int) := Int.natCast_nonneg _
  have hs1 : (s.size : Int) ≤ 1000000 := by omega
  by_cases h5 : s.size < 5
  · have HE : Hid (Sg.refId s.data.toList = 0) := by unfold Sg.refId; rw [if_pos (.inl (by simpa using h5))]; exact Lib.hid rfl
    have h1 : (s.size : Int) < 5 := by omega
    clear h5
    go_enter Tryd.func10, Tryd.ntmps10
    go_wp2_with fail
    go_ret
    exact ⟨by rw [HE.out]; rfl, Below.refl _ _⟩
  · have h1 : 5 ≤ (s.size : Int) := by omega
    by_cases h14 : 14 < s.size
    · have HE : Hid (Sg.refId s.data.toList = 0) := by unfold Sg.refId; rw [if_pos (.inr (.inl (by simpa using h14)))]; exact Lib.hid rfl
      have h2 : 14 < (s.size : Int) := by omega
      clear h5 h14
      go_enter Tryd.func10, Tryd.ntmps10
      go_wp2_with fail
      go_ret
      exact ⟨by rw [HE.out]; rfl, Below.refl _ _⟩
    · have h2 : (s.size : Int) ≤ 14 := by omega
      have h4 : (4 : Int) ≤ (s.size : Int) := by omega
      by_cases hp : s.data.toList.take 4 = Sg.seg
      · have hpre : ((s.extract 0 4).toList == [115, 101, 103, 45]) = true := by rw [take_ext, hp]; rfl
        have HP := Lib.hid hp
        have H14 := Lib.hid h14
        have H5 := Lib.hid h5
        have HOK : Hid (¬ (s.data.toList.length < 5 ∨ 14 < s.data.toList.length ∨ s.data.toList.take 4 ≠ Sg.seg)) := by
          have h6 : s.data.toList.length = s.size := by simp
          refine Lib.hid ?_
          rw [h6]
          rintro (h | h | h)
          · exact h5 h
          · exact h14 h
          · exact h hp
        clear hp h14 h5
        go_enter Tryd.func10, Tryd.ntmps10
        go_wp2_with fail
        go_loopg [3, 4] (s.size - 4) (fun k s3 s4 wr => ∃ (a n : Nat), 4 ≤ a ∧ a ≤ s.size ∧ k = s.size - a ∧ s4 = .int .i64 (a : Nat) ∧ s3 = .int .i64 (n : Nat) ∧ n = Sg.dval ((s.data.toList.drop 4).take (a - 4)) ∧ ((s.data.toList.drop 4).take (a - 4)).all Sg.isDig = true ∧ wr = w)
        case atStart => exact ⟨4, 0, Nat.le_refl _, by omega, by have := H5.out; omega, rfl, rfl, rfl, rfl, rfl⟩
        case round =>
          obtain ⟨a, n, ha4, ha, hk, rfl, rfl, hn, had, hwr⟩ := hrel
          subst hwr
          have HK := Lib.hid hk
          have HN := Lib.hid hn
          have HAD := Lib.hid had
          have hnb : n < 10000000000 := by
            have h1 := dval_lt 10 ((s.data.toList.drop 4).take (a - 4)) 0 (by rw [List.length_take]; omega) had
            rw [hn]
            unfold Sg.dval
            omega
          have hn0 : (0 : Int) ≤ (n : Int) := Int.natCast_nonneg _
          have hn1 : (n : Int) < 10000000000 := by omega
          have ha0 : (0 : Int) ≤ (a : Int) := Int.natCast_nonneg _
          clear hk hn had hnb
          by_cases hlt : a < s.size
          · have hlt1 : (a : Int) < (s.size : Int) := by omega
            have HM := Lib.hid (dval_more s a hlt ha4)
            have hb0 : (0 : Int) ≤ ((bt s a).toNat : Int) := Int.natCast_nonneg _
            have hb1 : ((bt s a).toNat : Int) ≤ 255 := by have : (bt s a).toNat < 256 := UInt8.toNat_lt _; omega
            by_cases hd : Sg.isDig (bt s a) = true
            · have hd1 : 48 ≤ ((bt s a).toNat : Int) ∧ ((bt s a).toNat : Int) ≤ 57 := by
                unfold Sg.isDig at hd
                simp only [Bool.and_eq_true, decide_eq_true_eq] at hd
                omega
              obtain ⟨hd2, hd3⟩ := hd1
              have hsub : (((bt s a).toNat : Int) - 48) % 256 = ((bt s a).toNat : Int) - 48 := by omega
              have HD := Lib.hid hd
              have hx1 : (n : Int) * 10 + (((bt s a).toNat : Int) - 48) ≤ 9223372036854775807 := by omega
              have hx2 : -9223372036854775808 ≤ (n : Int) * 10 + (((bt s a).toNat : Int) - 48) := by omega
              have hx3 : (n : Int) * 10 ≤ 9223372036854775807 := by omega
              have hx4 : -9223372036854775808 ≤ (n : Int) * 10 := by omega
              clear hd hn1 hn0
              go_wp2_with fail
              go_roundg (s.size - (a + 1))
              case measure => rw [HK.out]; omega
              case rel => exact ⟨a + 1, n * 10 + ((bt s a).toNat - 48), by omega, by omega, rfl, by simp, by congr 1; omega, by rw [HM.out.1, HN.out], by rw [HM.out.2, HAD.out, HD.out]; rfl, rfl⟩
            · have HE : Hid (Sg.refId s.data.toList = 0) := by
                unfold Sg.refId
                rw [if_neg HOK.out, if_pos (dval_bad s a hlt ha4 (by simpa using hd))]
                exact Lib.hid rfl
              have hd1 : ((bt s a).toNat : Int) < 48 ∨ 57 < ((bt s a).toNat : Int) := by
                unfold Sg.isDig at hd
                simp only [Bool.and_eq_true, decide_eq_true_eq] at hd
                omega
              clear hd
              rcases hd1 with hd1 | hd1
              · go_wp2_with fail
                go_ret
                exact ⟨by rw [HE.out]; rfl, Below.refl _ _⟩
              · have hd2 : 48 ≤ ((bt s a).toNat : Int) := by omega
                go_wp2_with fail
                go_ret
                exact ⟨by rw [HE.out]; rfl, Below.refl _ _⟩
          · have hge : (s.size : Int) ≤ (a : Int) := by omega
            have hdv := dval_all s a (by omega)
            have HND : Hid (n = Sg.dval (s.data.toList.drop 4)) := by rw [← hdv]; exact HN
            have HALL : Hid ((s.data.toList.drop 4).all Sg.isDig = true) := by rw [← hdv]; exact HAD
            clear hdv
            go_wp2_with fail
            refine (refName_any (n : Int) _).mono ?_
            rintro e w1 ⟨rfl, hb1⟩
            have HB1 := Lib.hid hb1
            clear hb1
            obtain ⟨E, hE⟩ : ∃ E, E = Sg.nameE (n : Int) := ⟨_, rfl⟩
            rw [← hE]
            have HEE := Lib.hid hE
            clear hE
            obtain ⟨sn, hsn⟩ : ∃ t : ByteArray, t = ⟨(Sg.nameB (n : Int)).toArray⟩ := ⟨_, rfl⟩
            rw [← hsn]
            have HSN := Lib.hid hsn
            clear hsn
            by_cases hE0 : E = 0
            · subst hE0
              by_cases heq : sn = s
              · subst heq
                have HE : Hid (Sg.refId sn.data.toList = (n : Int)) := by
                  unfold Sg.refId
                  rw [if_neg HOK.out, if_neg (by rw [HALL.out]; simp), ← HND.out, if_neg (by rw [← HEE.out, HSN.out]; simp)]
                  exact Lib.hid rfl
                have hte : (sn.toList == sn.toList) = true := by simp
                go_wp2_with fail
                go_ret
                exact ⟨by rw [HE.out]; rfl, HB1.out⟩
              · have HE : Hid (Sg.refId s.data.toList = 0) := by
                  unfold Sg.refId
                  rw [if_neg HOK.out, if_neg (by rw [HALL.out]; simp), ← HND.out, if_pos (.inr (fun h => heq (by rw [HSN.out, h])))]
                  exact Lib.hid rfl
                have hte : (sn.toList == s.toList) = false := by
                  rw [beq_eq_false_iff_ne, ByteArray.toList_eq, ByteArray.toList_eq]
                  exact fun h => heq (ByteArray.ext (Array.toList_inj.1 h))
                clear heq
                go_wp2_with fail
                go_ret
                exact ⟨by rw [HE.out]; rfl, HB1.out⟩
            · have HE : Hid (Sg.refId s.data.toList = 0) := by
                unfold Sg.refId
                rw [if_neg HOK.out, if_neg (by rw [HALL.out]; simp), ← HND.out, if_pos (.inl (by rw [← HEE.out]; exact hE0))]
                exact Lib.hid rfl
              have hte : (E != 0) = true := by rw [bne_iff_ne]; exact hE0
              have hte2 : (E == 0) = false := by rw [beq_eq_false_iff_ne]; exact hE0
              clear hE0
              go_wp2_with fail
              go_ret
              exact ⟨by rw [HE.out]; rfl, HB1.out⟩
      · have hpre : ((s.extract 0 4).toList == [115, 101, 103, 45]) = false := by rw [take_ext, beq_eq_false_iff_ne]; exact hp
        have HE : Hid (Sg.refId s.data.toList = 0) := by unfold Sg.refId; rw [if_pos (.inr (.inr hp))]; exact Lib.hid rfl
        clear hp
        go_enter Tryd.func10, Tryd.ntmps10
        go_wp2_with fail
        go_ret
        exact ⟨by rw [HE.out]; rfl, Below.refl _ _⟩
end Go.Proofs.YtcimobbppmpmgaaDoor
