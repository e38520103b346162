/-
  'One' of the document's reader of values, walked. The document's 'Good' of values, walked. What the listed variables give; a world for the witnesses. The shower of values: value, inner, walked.
-/
import Derived.Test.YtefjgpkpplkkgaaGreatDoorZa21
import Derived.Test.YtefjgpkpplkkgaaGreatDoorZa3
import Derived.Test.YtefjgpkpplkkgaaGreatDoorZa11
import Derived.Test.YtefjgpkpplkkgaaGreatDoorZa13
import Derived.Test.YtefjgpkpplkkgaaGreatDoorZa5
import Derived.Test.YtefjgpkpplkkgaaGreatDoorZa18
import Derived.Test.YtefjgpkpplkkgaaGreatDoorCards
import Derived.Test.YtefjgpkpplkkgaaGreatDoorTie
import Derived.Test.YtefjgpkpplkkgaaGreatDoorZa8
import Derived.WalkKit
import Derived.ProofKit
import Derived.OpenShut
import Derived.Deep.DeepHandedRow
import Derived.Lib.LaidTab
import Derived.Lib.LaidIn
import Derived.Lib.LaidU8T
import Derived.Test.YtefjgpkpplkkgaaGreatDoorZa9
import Derived.Test.YtefjgpkpplkkgaaGreatDoorZa20
import Derived.Test.YtefjgpkpplkkgaaGreatDoorZa14
namespace Go.Proofs.YtefjgpkpplkkgaaGreatDoor
set_option linter.unusedSimpArgs false
set_option linter.unusedVariables false
open Go Go.RowKit

set_option maxHeartbeats 4000000 in
set_option maxRecDepth 100000 in
theorem refOne8_any (t : ByteArray) (k : Nat) (w : World) (hk : k = 2 ∨ k = 3) (hs : t.size ≤ 9223372036854775807) :
    Calls Tryz.prog 35 #[.string t, .int .i64 k] w fun e w' => e = .returned (.bool (Vl.one t.data.toList k)) ∧ Below w.heap.size w w' := by
  go_enter Tryz.func35, Tryz.ntmps35
  go_wp2_with fail
  refine (refLex_any t w hs).mono ?_
  rintro r w9 ⟨v, x, rfl, hb9, hF⟩
  rw [sfx_all] at hF ⊢
  have HB9 := Lib.hid hb9
  clear hb9
  cases hR : Lx.lex t.data.toList with
  | err a c =>
    have HO : Hid (Vl.one t.data.toList k = false) := Lib.hid (by unfold Vl.one; rw [hR])
    have hc0 := Lx.lex_err hR
    have e0 := eqF (n := c) (k := 0) (by omega)
    have e1 : lexC (.err a c) = c := rfl
    rw [e1]
    clear hF hR hc0 e1
    go_wp2_with fail
    go_ret
    exact ⟨by rw [HO.out]; rfl, HB9.out⟩
  | ok ts =>
    obtain ⟨a, cap, rfl, hx⟩ := hF ts hR
    have e1 : lexC (.ok ts) = 0 := rfl
    rw [e1]
    clear hF e1
    by_cases h2 : ts.length = 2
    · obtain ⟨y, z, rfl⟩ : ∃ y z, ts = [y, z] := by
        match ts, h2 with
        | [y, z], _ => exact ⟨y, z, rfl⟩
      obtain ⟨g, T, rfl, k0, k1, hT⟩ := hx y [z] rfl
      have hone : Vl.one t.data.toList k = (decide (y.kind = k) && decide (y.text = t.data.toList)) := by unfold Vl.one; rw [hR]
      by_cases hy : y.kind = k
      · have hT2 := hT (by omega)
        subst hT2
        have HO : Hid (Vl.one t.data.toList k = decide (y.text = t.data.toList)) := Lib.hid (by rw [hone, decide_eq_true hy, Bool.true_and])
        rw [hy] at k0
        clear hone hR h2 hx hy hT
        go_wp2_with fail
        go_ret
        refine ⟨?_, HB9.out⟩
        rw [HO.out]
        show Ending.returned (Value.bool (y.text == t.toList)) = _
        rw [Lib.toList_data, Bool.beq_eq_decide_eq]
      · have HO : Hid (Vl.one t.data.toList k = false) := Lib.hid (by rw [hone, decide_eq_false hy, Bool.false_and])
        have ek : ((y.kind : Int) == (k : Int)) = false := eqF (by omega)
        clear hone hR h2 hx hT
        go_wp2_with fail
        go_ret
        exact ⟨by rw [HO.out]; rfl, HB9.out⟩
    · have HO : Hid (Vl.one t.data.toList k = false) := Lib.hid (by
        unfold Vl.one
        rw [hR]
        match ts, h2 with
        | [], _ => rfl
        | [_], _ => rfl
        | _ :: _ :: _ :: _, _ => rfl)
      have e2 := eqF (n := ts.length) (k := 2) (by omega)
      clear hR hx
      go_wp2_with fail
      go_ret
      exact ⟨by rw [HO.out]; rfl, HB9.out⟩
end Go.Proofs.YtefjgpkpplkkgaaGreatDoor
namespace Go.Proofs.YtefjgpkpplkkgaaGreatDoor
set_option linter.unusedSimpArgs false
set_option linter.unusedVariables false
open Go Go.RowKit

/-- 'Good', of values no greater than N. -/
def GoodC (N : Nat) : Prop := ∀ (z : Vl.Z), z.n ≤ N → z.cost ≤ 1500000 → ∀ (deep : Nat) (D : Int), deep ≤ 16 → D = deep → ∀ (a1 a2 : Option Addr) (c1 c2 : Nat) (w : World) (P : Nat → Prop),
  Reads w P z.d [.int .i64 z.kind, .string ⟨z.text.toArray⟩, .slice a1 z.items.length c1, .slice a2 z.fields.length c2, .int .i64 z.at_] →
  Calls Tryz.prog 11 #[.agg #[.int .i64 z.kind, .string ⟨z.text.toArray⟩, .slice a1 z.items.length c1, .slice a2 z.fields.length c2, .int .i64 z.at_], .int .i64 D] w (fun r w' => r = .returned (.bool (z.good deep)) ∧ Below w.heap.size w w')
theorem below_box (w : World) (cs : Array Value) (T : TypeId) : Below w.heap.size w (w.alloc (.cells cs T)) := (Below.refl _ _).alloc (Nat.le_refl _) _
set_option maxHeartbeats 2000000 in
set_option maxRecDepth 100000 in
theorem gdBad (z : Vl.Z) (hc : z.cost ≤ 1500000) (deep : Nat) (D : Int) (hd : deep ≤ 16) (hD : D = deep) (a1 a2 : Option Addr) (c1 c2 : Nat) (w : World) (hp : Vl.parts z.kind z.items.length z.fields.length = false) :
    Calls Tryz.prog 11 #[.agg #[.int .i64 z.kind, .string ⟨z.text.toArray⟩, .slice a1 z.items.length c1, .slice a2 z.fields.length c2, .int .i64 z.at_], .int .i64 D] w (fun r w' => r = .returned (.bool (z.good deep)) ∧ Below w.heap.size w w') := by
  have HG : Hid (z.good deep = false) := Lib.hid (by rw [Vl.Z.good_eq, hp]; rfl)
  have HB := Lib.hid (below_box w #[.int .i64 z.kind, .string ⟨z.text.toArray⟩, .slice a1 z.items.length c1, .slice a2 z.fields.length c2, .int .i64 z.at_] 25)
  have hcost := Vl.Z.cost_eq z
  have hi0 := Vl.Z.n_cost z
  have hi1 := Vl.Z.n_eq z
  have hi2 := Vl.Z.ns_len z.items
  have hi3 := Vl.ZA.ns_len z.fields
  have hz : z.items.length ≤ 1500000 := by omega
  have hy : z.fields.length ≤ 1500000 := by omega
  clear hi0 hi1 hi2 hi3
  unfold Vl.parts at hp
  by_cases h8 : z.kind = 8
  · have q8 : (z.kind == 8) = true := by rw [beq_iff_eq]; exact h8
    have q9 : (z.kind == 9) = false := by rw [beq_eq_false_iff_ne]; omega
    have hfl : 0 < z.fields.length := by
      rw [h8] at hp
      simp at hp
      exact List.length_pos_iff.2 hp
    have hf : decide ((0 : Int) < (z.fields.length : Int)) = true := decide_eq_true (by omega)
    have hf2 : decide (0 < z.fields.length) = true := decide_eq_true hfl
    rw [h8]
    clear hp h8 q8 q9
    go_enter Tryz.func11, Tryz.ntmps11
    go_wp2_with fail
    go_ret
    exact ⟨by rw [HG.out]; rfl, below_box _ _ _⟩
  have q8 : (z.kind == 8) = false := by rw [beq_eq_false_iff_ne]; exact h8
  have r8 : (z.kind != 8) = true := by simp [h8]
  by_cases hi : z.items.length = 0
  · have ei : decide ((0 : Int) < (z.items.length : Int)) = false := decide_eq_false (by omega)
    have q9 : (z.kind == 9) = false := by rw [beq_eq_false_iff_ne]; intro h; rw [decide_eq_true hi, decide_eq_true h] at hp; simp at hp
    have r9 : (z.kind != 9) = true := by rw [beq_eq_false_iff_ne] at q9; simp [q9]
    have hfl : 0 < z.fields.length := by
      rw [decide_eq_true hi] at hp
      simp at hp
      exact List.length_pos_iff.2 hp.2
    have hf : decide ((0 : Int) < (z.fields.length : Int)) = true := decide_eq_true (by omega)
    have hf2 : decide (0 < z.fields.length) = true := decide_eq_true hfl
    have hi2 : decide (0 < z.items.length) = false := decide_eq_false (by omega)
    clear hp h8 hi
    go_enter Tryz.func11, Tryz.ntmps11
    go_wp2_with fail
    go_ret
    exact ⟨by rw [HG.out]; rfl, HB.out⟩
  · have ei : decide ((0 : Int) < (z.items.length : Int)) = true := decide_eq_true (by omega)
    have hi2 : decide (0 < z.items.length) = true := decide_eq_true (by omega)
    clear hp h8 hi
    go_enter Tryz.func11, Tryz.ntmps11
    go_wp2_with fail
    go_ret
    exact ⟨by rw [HG.out]; rfl, HB.out⟩
set_option maxHeartbeats 2000000 in
set_option maxRecDepth 100000 in
theorem gdLeaf1 (z : Vl.Z) (hc : z.cost ≤ 1500000) (deep : Nat) (D : Int) (hd : deep ≤ 16) (hD : D = deep) (a1 a2 : Option Addr) (c1 c2 : Nat) (w : World) (hp : Vl.parts z.kind z.items.length z.fields.length = true) (hk : z.kind = 1) :
    Calls Tryz.prog 11 #[.agg #[.int .i64 z.kind, .string ⟨z.text.toArray⟩, .slice a1 z.items.length c1, .slice a2 z.fields.length c2, .int .i64 z.at_], .int .i64 D] w (fun r w' => r = .returned (.bool (z.good deep)) ∧ Below w.heap.size w w') := by
  have hcost := Vl.Z.cost_eq z
  have hz : z.text.length ≤ 300000 := by omega
  have HB := Lib.hid (below_box w #[.int .i64 z.kind, .string ⟨z.text.toArray⟩, .slice a1 0 c1, .slice a2 0 c2, .int .i64 z.at_] 25)
  have q1 : (z.kind == 1) = true := by rw [beq_iff_eq]; exact hk
  have q2 : (z.kind == 2) = false := by rw [beq_eq_false_iff_ne]; omega
  have q3 : (z.kind == 3) = false := by rw [beq_eq_false_iff_ne]; omega
  have q4 : (z.kind == 4) = false := by rw [beq_eq_false_iff_ne]; omega
  have q5 : (z.kind == 5) = false := by rw [beq_eq_false_iff_ne]; omega
  have q6 : (z.kind == 6) = false := by rw [beq_eq_false_iff_ne]; omega
  have q7 : (z.kind == 7) = false := by rw [beq_eq_false_iff_ne]; omega
  have q8 : (z.kind == 8) = false := by rw [beq_eq_false_iff_ne]; omega
  have q9 : (z.kind == 9) = false := by rw [beq_eq_false_iff_ne]; omega
  have r8 : (z.kind != 8) = true := by rw [beq_eq_false_iff_ne] at q8; simp [q8]
  have r9 : (z.kind != 9) = true := by rw [beq_eq_false_iff_ne] at q9; simp [q9]
  have hif : z.items.length = 0 ∧ z.fields.length = 0 := by
    unfold Vl.parts at hp
    rw [decide_eq_false (show ¬ z.kind = 8 by omega), decide_eq_false (show ¬ z.kind = 9 by omega)] at hp
    simpa using hp
  have HG : Hid (z.good deep = Lx.isName z.text) := Lib.hid (by
    rw [Vl.Z.good_eq, hp, Bool.true_and]
    rw [if_pos (by omega), hk]; rfl)
  rw [hif.1, hif.2]
  clear hk hif hp hcost
  go_enter Tryz.func11, Tryz.ntmps11
  go_wp2_with fail
  refine (refName_any ⟨z.text.toArray⟩ _ (by show z.text.length ≤ _; omega)).mono ?_
  rintro e w' ⟨rfl, hw'⟩
  obtain rfl := hw'.symm
  clear hw'
  go_wp2_with fail
  go_ret
  exact ⟨by rw [HG.out]; rfl, HB.out⟩
set_option maxHeartbeats 2000000 in
set_option maxRecDepth 100000 in
theorem gdLeaf2 (z : Vl.Z) (hc : z.cost ≤ 1500000) (deep : Nat) (D : Int) (hd : deep ≤ 16) (hD : D = deep) (a1 a2 : Option Addr) (c1 c2 : Nat) (w : World) (hp : Vl.parts z.kind z.items.length z.fields.length = true) (hk : z.kind = 2) :
    Calls Tryz.prog 11 #[.agg #[.int .i64 z.kind, .string ⟨z.text.toArray⟩, .slice a1 z.items.length c1, .slice a2 z.fields.length c2, .int .i64 z.at_], .int .i64 D] w (fun r w' => r = .returned (.bool (z.good deep)) ∧ Below w.heap.size w w') := by
  have hcost := Vl.Z.cost_eq z
  have hz : z.text.length ≤ 300000 := by omega
  have HB := Lib.hid (below_box w #[.int .i64 z.kind, .string ⟨z.text.toArray⟩, .slice a1 0 c1, .slice a2 0 c2, .int .i64 z.at_] 25)
  have q1 : (z.kind == 1) = false := by rw [beq_eq_false_iff_ne]; omega
  have q2 : (z.kind == 2) = true := by rw [beq_iff_eq]; exact hk
  have q3 : (z.kind == 3) = false := by rw [beq_eq_false_iff_ne]; omega
  have q4 : (z.kind == 4) = false := by rw [beq_eq_false_iff_ne]; omega
  have q5 : (z.kind == 5) = false := by rw [beq_eq_false_iff_ne]; omega
  have q6 : (z.kind == 6) = false := by rw [beq_eq_false_iff_ne]; omega
  have q7 : (z.kind == 7) = false := by rw [beq_eq_false_iff_ne]; omega
  have q8 : (z.kind == 8) = false := by rw [beq_eq_false_iff_ne]; omega
  have q9 : (z.kind == 9) = false := by rw [beq_eq_false_iff_ne]; omega
  have r8 : (z.kind != 8) = true := by rw [beq_eq_false_iff_ne] at q8; simp [q8]
  have r9 : (z.kind != 9) = true := by rw [beq_eq_false_iff_ne] at q9; simp [q9]
  have hif : z.items.length = 0 ∧ z.fields.length = 0 := by
    unfold Vl.parts at hp
    rw [decide_eq_false (show ¬ z.kind = 8 by omega), decide_eq_false (show ¬ z.kind = 9 by omega)] at hp
    simpa using hp
  have HG : Hid (z.good deep = Vl.one z.text 2) := Lib.hid (by
    rw [Vl.Z.good_eq, hp, Bool.true_and]
    rw [if_pos (by omega), hk]; rfl)
  rw [hif.1, hif.2]
  clear hk hif hp hcost
  have HK : Hid (z.kind = 2) := Lib.hid (by rw [beq_iff_eq] at q2; exact q2)
  go_enter Tryz.func11, Tryz.ntmps11
  go_wp2_with fail
  rw [HK.out]
  refine (refOne8_any ⟨z.text.toArray⟩ 2 _ (.inl rfl) (by show z.text.length ≤ _; omega)).mono ?_
  rintro e w1 ⟨rfl, hb1⟩
  rw [HK.out] at HB
  have HB1 := Lib.hid (HB.out.trans (hb1.mono HB.out.size))
  clear hb1
  go_wp2_with fail
  go_ret
  exact ⟨by rw [HG.out]; rfl, HB1.out⟩
set_option maxHeartbeats 2000000 in
set_option maxRecDepth 100000 in
theorem gdLeaf3 (z : Vl.Z) (hc : z.cost ≤ 1500000) (deep : Nat) (D : Int) (hd : deep ≤ 16) (hD : D = deep) (a1 a2 : Option Addr) (c1 c2 : Nat) (w : World) (hp : Vl.parts z.kind z.items.length z.fields.length = true) (hk : z.kind = 3) :
    Calls Tryz.prog 11 #[.agg #[.int .i64 z.kind, .string ⟨z.text.toArray⟩, .slice a1 z.items.length c1, .slice a2 z.fields.length c2, .int .i64 z.at_], .int .i64 D] w (fun r w' => r = .returned (.bool (z.good deep)) ∧ Below w.heap.size w w') := by
  have hcost := Vl.Z.cost_eq z
  have hz : z.text.length ≤ 300000 := by omega
  have HB := Lib.hid (below_box w #[.int .i64 z.kind, .string ⟨z.text.toArray⟩, .slice a1 0 c1, .slice a2 0 c2, .int .i64 z.at_] 25)
  have q1 : (z.kind == 1) = false := by rw [beq_eq_false_iff_ne]; omega
  have q2 : (z.kind == 2) = false := by rw [beq_eq_false_iff_ne]; omega
  have q3 : (z.kind == 3) = true := by rw [beq_iff_eq]; exact hk
  have q4 : (z.kind == 4) = false := by rw [beq_eq_false_iff_ne]; omega
  have q5 : (z.kind == 5) = false := by rw [beq_eq_false_iff_ne]; omega
  have q6 : (z.kind == 6) = false := by rw [beq_eq_false_iff_ne]; omega
  have q7 : (z.kind == 7) = false := by rw [beq_eq_false_iff_ne]; omega
  have q8 : (z.kind == 8) = false := by rw [beq_eq_false_iff_ne]; omega
  have q9 : (z.kind == 9) = false := by rw [beq_eq_false_iff_ne]; omega
  have r8 : (z.kind != 8) = true := by rw [beq_eq_false_iff_ne] at q8; simp [q8]
  have r9 : (z.kind != 9) = true := by rw [beq_eq_false_iff_ne] at q9; simp [q9]
  have hif : z.items.length = 0 ∧ z.fields.length = 0 := by
    unfold Vl.parts at hp
    rw [decide_eq_false (show ¬ z.kind = 8 by omega), decide_eq_false (show ¬ z.kind = 9 by omega)] at hp
    simpa using hp
  have HG : Hid (z.good deep = Vl.one z.text 3) := Lib.hid (by
    rw [Vl.Z.good_eq, hp, Bool.true_and]
    rw [if_pos (by omega), hk]; rfl)
  rw [hif.1, hif.2]
  clear hk hif hp hcost
  have HK : Hid (z.kind = 3) := Lib.hid (by rw [beq_iff_eq] at q3; exact q3)
  go_enter Tryz.func11, Tryz.ntmps11
  go_wp2_with fail
  rw [HK.out]
  refine (refOne8_any ⟨z.text.toArray⟩ 3 _ (.inr rfl) (by show z.text.length ≤ _; omega)).mono ?_
  rintro e w1 ⟨rfl, hb1⟩
  rw [HK.out] at HB
  have HB1 := Lib.hid (HB.out.trans (hb1.mono HB.out.size))
  clear hb1
  go_wp2_with fail
  go_ret
  exact ⟨by rw [HG.out]; rfl, HB1.out⟩
set_option maxHeartbeats 2000000 in
set_option maxRecDepth 100000 in
theorem gdLeaf4 (z : Vl.Z) (hc : z.cost ≤ 1500000) (deep : Nat) (D : Int) (hd : deep ≤ 16) (hD : D = deep) (a1 a2 : Option Addr) (c1 c2 : Nat) (w : World) (hp : Vl.parts z.kind z.items.length z.fields.length = true) (hk : z.kind = 4) :
    Calls Tryz.prog 11 #[.agg #[.int .i64 z.kind, .string ⟨z.text.toArray⟩, .slice a1 z.items.length c1, .slice a2 z.fields.length c2, .int .i64 z.at_], .int .i64 D] w (fun r w' => r = .returned (.bool (z.good deep)) ∧ Below w.heap.size w w') := by
  have hcost := Vl.Z.cost_eq z
  have hz : z.text.length ≤ 300000 := by omega
  have HB := Lib.hid (below_box w #[.int .i64 z.kind, .string ⟨z.text.toArray⟩, .slice a1 0 c1, .slice a2 0 c2, .int .i64 z.at_] 25)
  have q1 : (z.kind == 1) = false := by rw [beq_eq_false_iff_ne]; omega
  have q2 : (z.kind == 2) = false := by rw [beq_eq_false_iff_ne]; omega
  have q3 : (z.kind == 3) = false := by rw [beq_eq_false_iff_ne]; omega
  have q4 : (z.kind == 4) = true := by rw [beq_iff_eq]; exact hk
  have q5 : (z.kind == 5) = false := by rw [beq_eq_false_iff_ne]; omega
  have q6 : (z.kind == 6) = false := by rw [beq_eq_false_iff_ne]; omega
  have q7 : (z.kind == 7) = false := by rw [beq_eq_false_iff_ne]; omega
  have q8 : (z.kind == 8) = false := by rw [beq_eq_false_iff_ne]; omega
  have q9 : (z.kind == 9) = false := by rw [beq_eq_false_iff_ne]; omega
  have r8 : (z.kind != 8) = true := by rw [beq_eq_false_iff_ne] at q8; simp [q8]
  have r9 : (z.kind != 9) = true := by rw [beq_eq_false_iff_ne] at q9; simp [q9]
  have hif : z.items.length = 0 ∧ z.fields.length = 0 := by
    unfold Vl.parts at hp
    rw [decide_eq_false (show ¬ z.kind = 8 by omega), decide_eq_false (show ¬ z.kind = 9 by omega)] at hp
    simpa using hp
  have HG : Hid (z.good deep = Lx.valid z.text) := Lib.hid (by
    rw [Vl.Z.good_eq, hp, Bool.true_and]
    rw [if_pos (by omega), hk]; rfl)
  rw [hif.1, hif.2]
  clear hk hif hp hcost
  go_enter Tryz.func11, Tryz.ntmps11
  go_wp2_with fail
  refine (refUtf8_any ⟨z.text.toArray⟩ _ (by show z.text.length ≤ _; omega)).mono ?_
  rintro e w' ⟨rfl, hw'⟩
  obtain rfl := hw'.symm
  clear hw'
  go_wp2_with fail
  go_ret
  exact ⟨by rw [HG.out]; rfl, HB.out⟩
set_option maxHeartbeats 2000000 in
set_option maxRecDepth 100000 in
theorem gdLeaf5 (z : Vl.Z) (hc : z.cost ≤ 1500000) (deep : Nat) (D : Int) (hd : deep ≤ 16) (hD : D = deep) (a1 a2 : Option Addr) (c1 c2 : Nat) (w : World) (hp : Vl.parts z.kind z.items.length z.fields.length = true) (hk : z.kind = 5) :
    Calls Tryz.prog 11 #[.agg #[.int .i64 z.kind, .string ⟨z.text.toArray⟩, .slice a1 z.items.length c1, .slice a2 z.fields.length c2, .int .i64 z.at_], .int .i64 D] w (fun r w' => r = .returned (.bool (z.good deep)) ∧ Below w.heap.size w w') := by
  have hcost := Vl.Z.cost_eq z
  have hz : z.text.length ≤ 300000 := by omega
  have HB := Lib.hid (below_box w #[.int .i64 z.kind, .string ⟨z.text.toArray⟩, .slice a1 0 c1, .slice a2 0 c2, .int .i64 z.at_] 25)
  have q1 : (z.kind == 1) = false := by rw [beq_eq_false_iff_ne]; omega
  have q2 : (z.kind == 2) = false := by rw [beq_eq_false_iff_ne]; omega
  have q3 : (z.kind == 3) = false := by rw [beq_eq_false_iff_ne]; omega
  have q4 : (z.kind == 4) = false := by rw [beq_eq_false_iff_ne]; omega
  have q5 : (z.kind == 5) = true := by rw [beq_iff_eq]; exact hk
  have q6 : (z.kind == 6) = false := by rw [beq_eq_false_iff_ne]; omega
  have q7 : (z.kind == 7) = false := by rw [beq_eq_false_iff_ne]; omega
  have q8 : (z.kind == 8) = false := by rw [beq_eq_false_iff_ne]; omega
  have q9 : (z.kind == 9) = false := by rw [beq_eq_false_iff_ne]; omega
  have r8 : (z.kind != 8) = true := by rw [beq_eq_false_iff_ne] at q8; simp [q8]
  have r9 : (z.kind != 9) = true := by rw [beq_eq_false_iff_ne] at q9; simp [q9]
  have hif : z.items.length = 0 ∧ z.fields.length = 0 := by
    unfold Vl.parts at hp
    rw [decide_eq_false (show ¬ z.kind = 8 by omega), decide_eq_false (show ¬ z.kind = 9 by omega)] at hp
    simpa using hp
  have HG : Hid (z.good deep = (decide (z.text = Rd.sTrue) || decide (z.text = Rd.sFalse))) := Lib.hid (by
    rw [Vl.Z.good_eq, hp, Bool.true_and]
    rw [if_pos (by omega), hk]; rfl)
  rw [hif.1, hif.2]
  clear hk hif hp hcost
  by_cases h1 : z.text = Rd.sTrue
  · have e1 : (z.text == [116, 114, 117, 101]) = true := by rw [beq_iff_eq]; exact h1
    have HF : Hid (z.good deep = true) := Lib.hid (by rw [HG.out, decide_eq_true h1]; rfl)
    clear h1
    go_enter Tryz.func11, Tryz.ntmps11
    go_wp2_with fail
    go_ret
    exact ⟨by rw [HF.out]; rfl, HB.out⟩
  have e1 : (z.text == [116, 114, 117, 101]) = false := by rw [beq_eq_false_iff_ne]; exact h1
  by_cases h2 : z.text = Rd.sFalse
  · have e2 : (z.text == [102, 97, 108, 115, 101]) = true := by rw [beq_iff_eq]; exact h2
    have HF : Hid (z.good deep = true) := Lib.hid (by rw [HG.out, decide_eq_true h2, Bool.or_true])
    clear h1 h2
    go_enter Tryz.func11, Tryz.ntmps11
    go_wp2_with fail
    go_ret
    exact ⟨by rw [HF.out]; rfl, HB.out⟩
  have e2 : (z.text == [102, 97, 108, 115, 101]) = false := by rw [beq_eq_false_iff_ne]; exact h2
  have HF : Hid (z.good deep = false) := Lib.hid (by rw [HG.out, decide_eq_false h1, decide_eq_false h2]; rfl)
  clear h1 h2
  go_enter Tryz.func11, Tryz.ntmps11
  go_wp2_with fail
  go_ret
  exact ⟨by rw [HF.out]; rfl, HB.out⟩
set_option maxHeartbeats 2000000 in
set_option maxRecDepth 100000 in
theorem gdLeaf6 (z : Vl.Z) (hc : z.cost ≤ 1500000) (deep : Nat) (D : Int) (hd : deep ≤ 16) (hD : D = deep) (a1 a2 : Option Addr) (c1 c2 : Nat) (w : World) (hp : Vl.parts z.kind z.items.length z.fields.length = true) (hk : z.kind = 6) :
    Calls Tryz.prog 11 #[.agg #[.int .i64 z.kind, .string ⟨z.text.toArray⟩, .slice a1 z.items.length c1, .slice a2 z.fields.length c2, .int .i64 z.at_], .int .i64 D] w (fun r w' => r = .returned (.bool (z.good deep)) ∧ Below w.heap.size w w') := by
  have hcost := Vl.Z.cost_eq z
  have hz : z.text.length ≤ 300000 := by omega
  have HB := Lib.hid (below_box w #[.int .i64 z.kind, .string ⟨z.text.toArray⟩, .slice a1 0 c1, .slice a2 0 c2, .int .i64 z.at_] 25)
  have q1 : (z.kind == 1) = false := by rw [beq_eq_false_iff_ne]; omega
  have q2 : (z.kind == 2) = false := by rw [beq_eq_false_iff_ne]; omega
  have q3 : (z.kind == 3) = false := by rw [beq_eq_false_iff_ne]; omega
  have q4 : (z.kind == 4) = false := by rw [beq_eq_false_iff_ne]; omega
  have q5 : (z.kind == 5) = false := by rw [beq_eq_false_iff_ne]; omega
  have q6 : (z.kind == 6) = true := by rw [beq_iff_eq]; exact hk
  have q7 : (z.kind == 7) = false := by rw [beq_eq_false_iff_ne]; omega
  have q8 : (z.kind == 8) = false := by rw [beq_eq_false_iff_ne]; omega
  have q9 : (z.kind == 9) = false := by rw [beq_eq_false_iff_ne]; omega
  have r8 : (z.kind != 8) = true := by rw [beq_eq_false_iff_ne] at q8; simp [q8]
  have r9 : (z.kind != 9) = true := by rw [beq_eq_false_iff_ne] at q9; simp [q9]
  have hif : z.items.length = 0 ∧ z.fields.length = 0 := by
    unfold Vl.parts at hp
    rw [decide_eq_false (show ¬ z.kind = 8 by omega), decide_eq_false (show ¬ z.kind = 9 by omega)] at hp
    simpa using hp
  have HG : Hid (z.good deep = decide (z.text = [])) := Lib.hid (by
    rw [Vl.Z.good_eq, hp, Bool.true_and]
    rw [if_pos (by omega), hk]; rfl)
  rw [hif.1, hif.2]
  clear hk hif hp hcost
  have HF : Hid (z.good deep = z.text.isEmpty) := Lib.hid (by rw [HG.out]; cases z.text <;> rfl)
  go_enter Tryz.func11, Tryz.ntmps11
  go_wp2_with fail
  go_ret
  exact ⟨by rw [HF.out]; rfl, HB.out⟩
set_option maxHeartbeats 2000000 in
set_option maxRecDepth 100000 in
theorem gdLeaf7 (z : Vl.Z) (hc : z.cost ≤ 1500000) (deep : Nat) (D : Int) (hd : deep ≤ 16) (hD : D = deep) (a1 a2 : Option Addr) (c1 c2 : Nat) (w : World) (hp : Vl.parts z.kind z.items.length z.fields.length = true) (hk : z.kind = 7) :
    Calls Tryz.prog 11 #[.agg #[.int .i64 z.kind, .string ⟨z.text.toArray⟩, .slice a1 z.items.length c1, .slice a2 z.fields.length c2, .int .i64 z.at_], .int .i64 D] w (fun r w' => r = .returned (.bool (z.good deep)) ∧ Below w.heap.size w w') := by
  have hcost := Vl.Z.cost_eq z
  have hz : z.text.length ≤ 300000 := by omega
  have HB := Lib.hid (below_box w #[.int .i64 z.kind, .string ⟨z.text.toArray⟩, .slice a1 0 c1, .slice a2 0 c2, .int .i64 z.at_] 25)
  have q1 : (z.kind == 1) = false := by rw [beq_eq_false_iff_ne]; omega
  have q2 : (z.kind == 2) = false := by rw [beq_eq_false_iff_ne]; omega
  have q3 : (z.kind == 3) = false := by rw [beq_eq_false_iff_ne]; omega
  have q4 : (z.kind == 4) = false := by rw [beq_eq_false_iff_ne]; omega
  have q5 : (z.kind == 5) = false := by rw [beq_eq_false_iff_ne]; omega
  have q6 : (z.kind == 6) = false := by rw [beq_eq_false_iff_ne]; omega
  have q7 : (z.kind == 7) = true := by rw [beq_iff_eq]; exact hk
  have q8 : (z.kind == 8) = false := by rw [beq_eq_false_iff_ne]; omega
  have q9 : (z.kind == 9) = false := by rw [beq_eq_false_iff_ne]; omega
  have r8 : (z.kind != 8) = true := by rw [beq_eq_false_iff_ne] at q8; simp [q8]
  have r9 : (z.kind != 9) = true := by rw [beq_eq_false_iff_ne] at q9; simp [q9]
  have hif : z.items.length = 0 ∧ z.fields.length = 0 := by
    unfold Vl.parts at hp
    rw [decide_eq_false (show ¬ z.kind = 8 by omega), decide_eq_false (show ¬ z.kind = 9 by omega)] at hp
    simpa using hp
  have HG : Hid (z.good deep = (Lx.isName z.text && (decide (z.text ≠ Rd.sTrue) && (decide (z.text ≠ Rd.sFalse) && decide (z.text ≠ Rd.sNull))))) := Lib.hid (by
    rw [Vl.Z.good_eq, hp, Bool.true_and]
    rw [if_pos (by omega), hk]; rfl)
  rw [hif.1, hif.2]
  clear hk hif hp hcost
  obtain ⟨nm, hnm⟩ : ∃ ok, ok = Lx.isName z.text := ⟨_, rfl⟩
  rw [← hnm] at HG
  have HC : Hid (∀ w : World, Calls Tryz.prog 34 #[.string ⟨z.text.toArray⟩] w fun e w' => e = .returned (.bool nm) ∧ w' = w) := Lib.hid (fun w => (refName_any ⟨z.text.toArray⟩ w (by show z.text.length ≤ _; omega)).mono (by rintro e w' ⟨rfl, rfl⟩; exact ⟨by rw [hnm], rfl⟩))
  clear hnm
  cases nm
  · have HF : Hid (z.good deep = false) := Lib.hid (by rw [HG.out]; rfl)
    go_enter Tryz.func11, Tryz.ntmps11
    go_wp2_with fail
    refine (HC.out _).mono ?_
    rintro e w' ⟨rfl, hw'⟩
    obtain rfl := hw'.symm
    clear hw'
    go_wp2_with fail
    go_ret
    exact ⟨by rw [HF.out]; rfl, HB.out⟩
  by_cases h1 : z.text = Rd.sTrue
  · have e1 : (z.text == [116, 114, 117, 101]) = true := by rw [beq_iff_eq]; exact h1
    have HF : Hid (z.good deep = false) := Lib.hid (by rw [HG.out]; simp [h1])
    clear h1
    go_enter Tryz.func11, Tryz.ntmps11
    go_wp2_with fail
    refine (HC.out _).mono ?_
    rintro e w' ⟨rfl, hw'⟩
    obtain rfl := hw'.symm
    clear hw'
    go_wp2_with fail
    go_ret
    exact ⟨by rw [HF.out]; rfl, HB.out⟩
  have e1 : (z.text == [116, 114, 117, 101]) = false := by rw [beq_eq_false_iff_ne]; exact h1
  by_cases h2 : z.text = Rd.sFalse
  · have e2 : (z.text == [102, 97, 108, 115, 101]) = true := by rw [beq_iff_eq]; exact h2
    have HF : Hid (z.good deep = false) := Lib.hid (by rw [HG.out]; simp [h2])
    clear h1 h2
    go_enter Tryz.func11, Tryz.ntmps11
    go_wp2_with fail
    refine (HC.out _).mono ?_
    rintro e w' ⟨rfl, hw'⟩
    obtain rfl := hw'.symm
    clear hw'
    go_wp2_with fail
    go_ret
    exact ⟨by rw [HF.out]; rfl, HB.out⟩
  have e2 : (z.text == [102, 97, 108, 115, 101]) = false := by rw [beq_eq_false_iff_ne]; exact h2
  by_cases h3 : z.text = Rd.sNull
  · have e3 : (z.text == [110, 117, 108, 108]) = true := by rw [beq_iff_eq]; exact h3
    have HF : Hid (z.good deep = false) := Lib.hid (by rw [HG.out]; simp [h3])
    clear h1 h2 h3
    go_enter Tryz.func11, Tryz.ntmps11
    go_wp2_with fail
    refine (HC.out _).mono ?_
    rintro e w' ⟨rfl, hw'⟩
    obtain rfl := hw'.symm
    clear hw'
    go_wp2_with fail
    go_ret
    exact ⟨by rw [HF.out]; rfl, HB.out⟩
  have e3 : (z.text == [110, 117, 108, 108]) = false := by rw [beq_eq_false_iff_ne]; exact h3
  have HF : Hid (z.good deep = true) := Lib.hid (by rw [HG.out, decide_eq_true h1, decide_eq_true h2, decide_eq_true h3]; rfl)
  clear h1 h2 h3
  go_enter Tryz.func11, Tryz.ntmps11
  go_wp2_with fail
  refine (HC.out _).mono ?_
  rintro e w' ⟨rfl, hw'⟩
  obtain rfl := hw'.symm
  clear hw'
  go_wp2_with fail
  go_ret
  exact ⟨by rw [HF.out]; rfl, HB.out⟩
set_option maxHeartbeats 2000000 in
set_option maxRecDepth 100000 in
theorem gdLeaf0 (z : Vl.Z) (hc : z.cost ≤ 1500000) (deep : Nat) (D : Int) (hd : deep ≤ 16) (hD : D = deep) (a1 a2 : Option Addr) (c1 c2 : Nat) (w : World) (hp : Vl.parts z.kind z.items.length z.fields.length = true) (hk : ¬ (1 ≤ z.kind ∧ z.kind ≤ 9)) :
    Calls Tryz.prog 11 #[.agg #[.int .i64 z.kind, .string ⟨z.text.toArray⟩, .slice a1 z.items.length c1, .slice a2 z.fields.length c2, .int .i64 z.at_], .int .i64 D] w (fun r w' => r = .returned (.bool (z.good deep)) ∧ Below w.heap.size w w') := by
  have hcost := Vl.Z.cost_eq z
  have hz : z.text.length ≤ 300000 := by omega
  have HB := Lib.hid (below_box w #[.int .i64 z.kind, .string ⟨z.text.toArray⟩, .slice a1 0 c1, .slice a2 0 c2, .int .i64 z.at_] 25)
  have q1 : (z.kind == 1) = false := by rw [beq_eq_false_iff_ne]; omega
  have q2 : (z.kind == 2) = false := by rw [beq_eq_false_iff_ne]; omega
  have q3 : (z.kind == 3) = false := by rw [beq_eq_false_iff_ne]; omega
  have q4 : (z.kind == 4) = false := by rw [beq_eq_false_iff_ne]; omega
  have q5 : (z.kind == 5) = false := by rw [beq_eq_false_iff_ne]; omega
  have q6 : (z.kind == 6) = false := by rw [beq_eq_false_iff_ne]; omega
  have q7 : (z.kind == 7) = false := by rw [beq_eq_false_iff_ne]; omega
  have q8 : (z.kind == 8) = false := by rw [beq_eq_false_iff_ne]; omega
  have q9 : (z.kind == 9) = false := by rw [beq_eq_false_iff_ne]; omega
  have r8 : (z.kind != 8) = true := by rw [beq_eq_false_iff_ne] at q8; simp [q8]
  have r9 : (z.kind != 9) = true := by rw [beq_eq_false_iff_ne] at q9; simp [q9]
  have hif : z.items.length = 0 ∧ z.fields.length = 0 := by
    unfold Vl.parts at hp
    rw [decide_eq_false (show ¬ z.kind = 8 by omega), decide_eq_false (show ¬ z.kind = 9 by omega)] at hp
    simpa using hp
  have HG : Hid (z.good deep = false) := Lib.hid (by
    rw [Vl.Z.good_eq, hp, Bool.true_and]
    rw [if_neg (by omega), if_neg (by unfold Vl.many; omega)])
  rw [hif.1, hif.2]
  clear hk hif hp hcost
  go_enter Tryz.func11, Tryz.ntmps11
  go_wp2_with fail
  go_ret
  exact ⟨by rw [HG.out]; rfl, HB.out⟩
set_option maxHeartbeats 2000000 in
set_option maxRecDepth 100000 in
theorem gdMany8 (N : Nat) (IH : GoodC N) (z : Vl.Z) (hc : z.cost ≤ 1500000) (deep : Nat) (D : Int) (hd : deep ≤ 16) (hD : D = deep) (a1 a2 : Option Addr) (c1 c2 : Nat) (w : World) (hN : z.n ≤ N + 1) (P : Nat → Prop) (hR : Reads w P z.d [.int .i64 z.kind, .string ⟨z.text.toArray⟩, .slice a1 z.items.length c1, .slice a2 z.fields.length c2, .int .i64 z.at_]) (hp : Vl.parts z.kind z.items.length z.fields.length = true) (hk : z.kind = 8) :
    Calls Tryz.prog 11 #[.agg #[.int .i64 z.kind, .string ⟨z.text.toArray⟩, .slice a1 z.items.length c1, .slice a2 z.fields.length c2, .int .i64 z.at_], .int .i64 D] w (fun r w' => r = .returned (.bool (z.good deep)) ∧ Below w.heap.size w w') := by
  rw [hk] at hR ⊢
  have hcost := Vl.Z.cost_eq z
  have hnn := Vl.Z.n_eq z
  have hnc := Vl.Z.n_cost z
  have hl1 := Vl.Z.ns_len z.items
  have hl2 := Vl.ZA.ns_len z.fields
  obtain ⟨x1, x2, x3, x4, ex, hxi, hxf⟩ := Z_open hR
  obtain ⟨rfl, rfl, rfl, rfl⟩ : a1 = x1 ∧ c1 = x3 ∧ a2 = x2 ∧ c2 = x4 := by simpa [and_assoc, hk] using ex
  have hE : z.fields.length = 0 := by
    unfold Vl.parts at hp
    rw [decide_eq_true (show z.kind = 8 by omega), decide_eq_false (show ¬ z.kind = 9 by omega)] at hp
    simpa using hp
  have hEn : z.fields = [] := List.length_eq_zero_iff.1 hE
  have hz : z.items.length ≤ 1500000 := by omega
  have hy : z.fields.length ≤ 1500000 := by omega
  have HG : Hid (z.good deep = ((decide (z.text = []) && decide (deep < 16)) && Vl.Z.goods (deep + 1) z.items)) := Lib.hid (by
    rw [Vl.Z.good_eq, hp, Bool.true_and, if_neg (by omega), if_pos (by unfold Vl.many; omega), hEn]
    rw [Vl.ZA.goods, Bool.and_true])
  have HNI : Hid (∀ x ∈ z.items, x.n ≤ N ∧ x.cost ≤ 1500000) := Lib.hid (fun x hx => by
    have h1 := Vl.Z.ns_mem hx
    have h2 := Vl.costs_in hx
    exact ⟨by omega, by omega⟩)
  obtain ⟨wc, hwc⟩ : ∃ q, q = w.alloc (.cells #[.int .i64 8, .string ⟨z.text.toArray⟩, .slice a1 z.items.length c1, .slice a2 z.fields.length c2, .int .i64 z.at_] 25) := ⟨_, rfl⟩
  have hbc : Below w.heap.size w wc := by rw [hwc]; exact below_box _ _ _
  have hx0 : wc.heap[w.heap.size]? = some (.cells #[.int .i64 8, .string ⟨z.text.toArray⟩, .slice a1 z.items.length c1, .slice a2 z.fields.length c2, .int .i64 z.at_] 25 (0, 0)) := by rw [hwc]; exact heap_at_new _ _
  have HWC := Lib.hid hwc
  have HBC := Lib.hid hbc
  have HX0 := Lib.hid hx0
  have HXI := Lib.hid (hxi.to (Stands.below hbc))
  have HIH := Lib.hid IH
  have HHD := Lib.hid hd
  clear hR ex hxi hxf hbc hwc IH hx0 hnn hnc hl1 hl2 hp hk hcost hEn
  have eE : decide ((0 : Int) < (z.fields.length : Int)) = false := decide_eq_false (by omega)
  have eE2 : decide (0 < z.fields.length) = false := decide_eq_false (by omega)
  by_cases ht : z.text = []
  rotate_left
  · have e1 : z.text.isEmpty = false := by rw [List.isEmpty_eq_false_iff]; exact ht
    have HF : Hid (z.good deep = false) := Lib.hid (by rw [HG.out, decide_eq_false ht]; rfl)
    clear ht hE
    go_enter Tryz.func11, Tryz.ntmps11
    go_wp2_with fail
    go_ret
    exact ⟨by rw [HF.out]; rfl, by rw [← HWC.out]; exact HBC.out⟩
  have e1 : z.text.isEmpty = true := by rw [List.isEmpty_iff]; exact ht
  by_cases h16 : deep < 16
  rotate_left
  · have e2 : decide ((16 : Int) ≤ D) = true := decide_eq_true (by omega)
    have HF : Hid (z.good deep = false) := Lib.hid (by rw [HG.out, decide_eq_false h16, Bool.and_false]; rfl)
    clear ht hE hD
    go_enter Tryz.func11, Tryz.ntmps11
    go_wp2_with fail
    go_ret
    exact ⟨by rw [HF.out]; rfl, by rw [← HWC.out]; exact HBC.out⟩
  have e2 : decide ((16 : Int) ≤ D) = false := decide_eq_false (by omega)
  have hD0 : 0 ≤ D := by omega
  have hD1 : D ≤ 15 := by omega
  have HD := Lib.hid hD
  have HE := Lib.hid hE
  obtain ⟨S, hS⟩ : ∃ S, S = z.good deep := ⟨_, rfl⟩
  have HF : Hid (S = Vl.Z.goods (deep + 1) z.items) := Lib.hid (by rw [hS, HG.out, decide_eq_true ht, decide_eq_true h16]; rfl)
  rw [← hS]
  clear ht hE hD hS HG hd
  go_enter Tryz.func11, Tryz.ntmps11
  go_wp2_with fail
  rw [← HWC.out]
  go_loopg [95] (z.items.length + 1) (fun k i wr => ∃ (j : Nat), k = z.items.length + 1 - j ∧ j ≤ z.items.length ∧ i = .int .i64 j ∧ S = Vl.Z.goods (deep + 1) (z.items.drop j) ∧ Below wc.heap.size wc wr)
  case atStart => exact ⟨0, rfl, Nat.zero_le _, rfl, HF.out, Below.refl _ _⟩
  case round =>
    obtain ⟨j, hk, hj, rfl, hs, hbe⟩ := hrel
    have HK := Lib.hid hk
    have HS2 := Lib.hid hs
    have HBE := Lib.hid hbe
    have HX2 : Hid (wr.heap[w.heap.size]? = some (.cells #[.int .i64 8, .string ⟨z.text.toArray⟩, .slice a1 z.items.length c1, .slice a2 z.fields.length c2, .int .i64 z.at_] 25 (0, 0))) := Lib.hid ((hbe.block _ (block_lt HX0.out)).trans HX0.out)
    clear hk hs hbe
    by_cases hjl : j < z.items.length
    · have e5 : decide (j < z.items.length) = true := decide_eq_true hjl
      obtain ⟨p, hp⟩ : ∃ x, z.items[j]? = some x := ⟨z.items[j], List.getElem?_eq_getElem hjl⟩
      have hdx : z.items.drop j = p :: z.items.drop (j + 1) := by rw [List.drop_eq_getElem_cons hjl]; rw [List.getElem?_eq_getElem hjl] at hp; rw [Option.some.inj hp]
      have hnp := HNI.out p (List.mem_of_getElem? hp)
      obtain ⟨g, o, cs, ha, -, hgl, hlen, hcell, hd⟩ := HXI.out.el j p.d (by rw [List.getElem?_map, hp]; rfl)
      have HS3 : Hid (S = (p.good (deep + 1) && Vl.Z.goods (deep + 1) (z.items.drop (j + 1)))) := by have := HS2.out; rw [hdx, Vl.Z.goods] at this; exact Lib.hid this
      obtain ⟨p1, p2, u1, u2, rfl, -, -⟩ := Z_open hd
      have k0 : wr.cell? ⟨g, o + j * 5, none⟩ = _ := (HBE.out.cell (p := ⟨g, o + j * 5, none⟩) hgl).trans (hcell 0 _ rfl)
      have k1 : wr.cell? ⟨g, o + j * 5 + 1, none⟩ = _ := (HBE.out.cell (p := ⟨g, o + j * 5 + 1, none⟩) hgl).trans (hcell 1 _ rfl)
      have k2 : wr.cell? ⟨g, o + j * 5 + 2, none⟩ = _ := (HBE.out.cell (p := ⟨g, o + j * 5 + 2, none⟩) hgl).trans (hcell 2 _ rfl)
      have k3 : wr.cell? ⟨g, o + j * 5 + 3, none⟩ = _ := (HBE.out.cell (p := ⟨g, o + j * 5 + 3, none⟩) hgl).trans (hcell 3 _ rfl)
      have k4 : wr.cell? ⟨g, o + j * 5 + 4, none⟩ = _ := (HBE.out.cell (p := ⟨g, o + j * 5 + 4, none⟩) hgl).trans (hcell 4 _ rfl)
      have z1 : wr.cell? ⟨w.heap.size, 2, none⟩ = some (.slice a1 z.items.length c1) := blk_cell HX2.out 2 _ rfl
      subst ha
      have HCALL := Lib.hid (HIH.out p hnp.1 hnp.2 (deep + 1) (D + 1) (by omega) (by have := HD.out; omega) p1 p2 u1 u2 wr P (hd.to (Stands.below HBE.out)))
      clear hp hdx hlen hcell hd HS2 hnp
      obtain ⟨qv, hqv⟩ : ∃ r, r = p.good (deep + 1) := ⟨_, rfl⟩
      rw [← hqv] at HCALL HS3
      clear hqv
      go_wp2_with fail
      refine HCALL.out.mono ?_
      rintro e w6 ⟨rfl, hb6⟩
      have HB6 := Lib.hid (HBE.out.trans (hb6.mono HBE.out.size))
      have HB7 := Lib.hid (HBC.out.trans (HB6.out.mono HBC.out.size))
      clear hb6 k0 k1 k2 k3 k4 z1 HCALL
      cases qv
      · go_wp2_with fail
        go_ret
        exact ⟨by rw [HS3.out]; rfl, HB7.out⟩
      · go_wp2_with fail
        go_roundg (z.items.length + 1 - (j + 1))
        case measure => rw [HK.out]; omega
        case rel => exact ⟨j + 1, rfl, hjl, by go_num, by rw [HS3.out]; rfl, HB6.out⟩
    · have e5 : decide (j < z.items.length) = false := decide_eq_false hjl
      have HS3 : Hid (S = true) := by
        have := HS2.out
        rw [List.drop_eq_nil_of_le (by omega), Vl.Z.goods] at this
        exact Lib.hid this
      have HB7 := Lib.hid (HBC.out.trans (HBE.out.mono HBC.out.size))
      have z3 : wr.cell? ⟨w.heap.size, 3, none⟩ = some (.slice a2 z.fields.length c2) := blk_cell HX2.out 3 _ rfl
      have e9 : decide (0 < z.fields.length) = false := decide_eq_false (by have := HE.out; omega)
      go_wp2_with fail
      go_loopg [111] 1 (fun k i wq => k = 1 ∧ i = .int .i64 0 ∧ wq = wr)
      case atStart => exact ⟨rfl, rfl, rfl⟩
      case round =>
        obtain ⟨hk, rfl, hw⟩ := hrel
        obtain rfl := hw.symm
        clear hk hw
        go_wp2_with fail
        go_ret
        exact ⟨by rw [HS3.out]; rfl, HB7.out⟩
set_option maxHeartbeats 2000000 in
set_option maxRecDepth 100000 in
theorem gdMany9 (N : Nat) (IH : GoodC N) (z : Vl.Z) (hc : z.cost ≤ 1500000) (deep : Nat) (D : Int) (hd : deep ≤ 16) (hD : D = deep) (a1 a2 : Option Addr) (c1 c2 : Nat) (w : World) (hN : z.n ≤ N + 1) (P : Nat → Prop) (hR : Reads w P z.d [.int .i64 z.kind, .string ⟨z.text.toArray⟩, .slice a1 z.items.length c1, .slice a2 z.fields.length c2, .int .i64 z.at_]) (hp : Vl.parts z.kind z.items.length z.fields.length = true) (hk : z.kind = 9) :
    Calls Tryz.prog 11 #[.agg #[.int .i64 z.kind, .string ⟨z.text.toArray⟩, .slice a1 z.items.length c1, .slice a2 z.fields.length c2, .int .i64 z.at_], .int .i64 D] w (fun r w' => r = .returned (.bool (z.good deep)) ∧ Below w.heap.size w w') := by
  rw [hk] at hR ⊢
  have hcost := Vl.Z.cost_eq z
  have hnn := Vl.Z.n_eq z
  have hnc := Vl.Z.n_cost z
  have hl1 := Vl.Z.ns_len z.items
  have hl2 := Vl.ZA.ns_len z.fields
  obtain ⟨x1, x2, x3, x4, ex, hxi, hxf⟩ := Z_open hR
  obtain ⟨rfl, rfl, rfl, rfl⟩ : a1 = x1 ∧ c1 = x3 ∧ a2 = x2 ∧ c2 = x4 := by simpa [and_assoc, hk] using ex
  have hE : z.items.length = 0 := by
    unfold Vl.parts at hp
    rw [decide_eq_false (show ¬ z.kind = 8 by omega), decide_eq_true (show z.kind = 9 by omega)] at hp
    simpa using hp
  have hEn : z.items = [] := List.length_eq_zero_iff.1 hE
  have hz : z.items.length ≤ 1500000 := by omega
  have hy : z.fields.length ≤ 1500000 := by omega
  have HG : Hid (z.good deep = ((decide (z.text = []) && decide (deep < 16)) && Vl.ZA.goods (deep + 1) z.fields)) := Lib.hid (by
    rw [Vl.Z.good_eq, hp, Bool.true_and, if_neg (by omega), if_pos (by unfold Vl.many; omega), hEn]
    rw [Vl.Z.goods, Bool.true_and])
  have HNI : Hid (∀ x ∈ z.fields, x.v.n ≤ N ∧ x.v.cost ≤ 1500000 ∧ x.name.length ≤ 1500000) := Lib.hid (fun x hx => by
    have h1 := Vl.ZA.ns_mem hx
    have h2 := Vl.costsA_in hx
    have h3 := Vl.ZA.n_eq x; have h4 := Vl.ZA.cost_eq x; exact ⟨by omega, by omega, by omega⟩)
  obtain ⟨wc, hwc⟩ : ∃ q, q = w.alloc (.cells #[.int .i64 9, .string ⟨z.text.toArray⟩, .slice a1 z.items.length c1, .slice a2 z.fields.length c2, .int .i64 z.at_] 25) := ⟨_, rfl⟩
  have hbc : Below w.heap.size w wc := by rw [hwc]; exact below_box _ _ _
  have hx0 : wc.heap[w.heap.size]? = some (.cells #[.int .i64 9, .string ⟨z.text.toArray⟩, .slice a1 z.items.length c1, .slice a2 z.fields.length c2, .int .i64 z.at_] 25 (0, 0)) := by rw [hwc]; exact heap_at_new _ _
  have HWC := Lib.hid hwc
  have HBC := Lib.hid hbc
  have HX0 := Lib.hid hx0
  have HXI := Lib.hid (hxf.to (Stands.below hbc))
  have HIH := Lib.hid IH
  have HHD := Lib.hid hd
  clear hR ex hxi hxf hbc hwc IH hx0 hnn hnc hl1 hl2 hp hk hcost hEn
  have eE : decide ((0 : Int) < (z.items.length : Int)) = false := decide_eq_false (by omega)
  have eE2 : decide (0 < z.items.length) = false := decide_eq_false (by omega)
  by_cases ht : z.text = []
  rotate_left
  · have e1 : z.text.isEmpty = false := by rw [List.isEmpty_eq_false_iff]; exact ht
    have HF : Hid (z.good deep = false) := Lib.hid (by rw [HG.out, decide_eq_false ht]; rfl)
    clear ht hE
    go_enter Tryz.func11, Tryz.ntmps11
    go_wp2_with fail
    go_ret
    exact ⟨by rw [HF.out]; rfl, by rw [← HWC.out]; exact HBC.out⟩
  have e1 : z.text.isEmpty = true := by rw [List.isEmpty_iff]; exact ht
  by_cases h16 : deep < 16
  rotate_left
  · have e2 : decide ((16 : Int) ≤ D) = true := decide_eq_true (by omega)
    have HF : Hid (z.good deep = false) := Lib.hid (by rw [HG.out, decide_eq_false h16, Bool.and_false]; rfl)
    clear ht hE hD
    go_enter Tryz.func11, Tryz.ntmps11
    go_wp2_with fail
    go_ret
    exact ⟨by rw [HF.out]; rfl, by rw [← HWC.out]; exact HBC.out⟩
  have e2 : decide ((16 : Int) ≤ D) = false := decide_eq_false (by omega)
  have hD0 : 0 ≤ D := by omega
  have hD1 : D ≤ 15 := by omega
  have HD := Lib.hid hD
  have HE := Lib.hid hE
  obtain ⟨S, hS⟩ : ∃ S, S = z.good deep := ⟨_, rfl⟩
  have HF : Hid (S = Vl.ZA.goods (deep + 1) z.fields) := Lib.hid (by rw [hS, HG.out, decide_eq_true ht, decide_eq_true h16]; rfl)
  rw [← hS]
  clear ht hE hD hS HG hd
  go_enter Tryz.func11, Tryz.ntmps11
  go_wp2_with fail
  rw [← HWC.out]
  have e9 : decide (0 < z.items.length) = false := decide_eq_false (by have := HE.out; omega)
  go_loopg [95] 1 (fun k i wq => k = 1 ∧ i = .int .i64 0 ∧ wq = wc)
  case atStart => exact ⟨rfl, rfl, rfl⟩
  case round =>
    obtain ⟨hk, rfl, hw⟩ := hrel
    obtain rfl := hw.symm
    clear hk hw
    have z3 : wc.cell? ⟨w.heap.size, 3, none⟩ = some (.slice a2 z.fields.length c2) := blk_cell HX0.out 3 _ rfl
    go_wp2_with fail
    go_loopg [111] (z.fields.length + 1) (fun k i wr => ∃ (j : Nat), k = z.fields.length + 1 - j ∧ j ≤ z.fields.length ∧ i = .int .i64 j ∧ S = Vl.ZA.goods (deep + 1) (z.fields.drop j) ∧ Below wc.heap.size wc wr)
    case atStart => exact ⟨0, rfl, Nat.zero_le _, rfl, HF.out, Below.refl _ _⟩
    case round =>
      obtain ⟨j, hk, hj, rfl, hs, hbe⟩ := hrel
      have HK := Lib.hid hk
      have HS2 := Lib.hid hs
      have HBE := Lib.hid hbe
      have HX2 : Hid (wr.heap[w.heap.size]? = some (.cells #[.int .i64 9, .string ⟨z.text.toArray⟩, .slice a1 z.items.length c1, .slice a2 z.fields.length c2, .int .i64 z.at_] 25 (0, 0))) := Lib.hid ((hbe.block _ (block_lt HX0.out)).trans HX0.out)
      clear hk hs hbe
      by_cases hjl : j < z.fields.length
      · have e5 : decide (j < z.fields.length) = true := decide_eq_true hjl
        obtain ⟨p, hp⟩ : ∃ x, z.fields[j]? = some x := ⟨z.fields[j], List.getElem?_eq_getElem hjl⟩
        have hdx : z.fields.drop j = p :: z.fields.drop (j + 1) := by rw [List.drop_eq_getElem_cons hjl]; rw [List.getElem?_eq_getElem hjl] at hp; rw [Option.some.inj hp]
        have hnp := HNI.out p (List.mem_of_getElem? hp)
        obtain ⟨g, o, cs, ha, -, hgl, hlen, hcell, hd⟩ := HXI.out.el j p.d (by rw [List.getElem?_map, hp]; rfl)
        have HS3 : Hid (S = ((Lx.isName p.name && p.v.good (deep + 1)) && Vl.ZA.goods (deep + 1) (z.fields.drop (j + 1)))) := by have := HS2.out; rw [hdx, Vl.ZA.goods] at this; rw [this]; cases p; rw [Vl.ZA.good]; exact Lib.hid rfl
        obtain ⟨p1, p2, u1, u2, rfl, hdv⟩ := ZA_open hd
        have k0 : wr.cell? ⟨g, o + j * 7, none⟩ = _ := (HBE.out.cell (p := ⟨g, o + j * 7, none⟩) hgl).trans (hcell 0 _ rfl)
        have k1 : wr.cell? ⟨g, o + j * 7 + 1, none⟩ = _ := (HBE.out.cell (p := ⟨g, o + j * 7 + 1, none⟩) hgl).trans (hcell 1 _ rfl)
        have k2 : wr.cell? ⟨g, o + j * 7 + 2, none⟩ = _ := (HBE.out.cell (p := ⟨g, o + j * 7 + 2, none⟩) hgl).trans (hcell 2 _ rfl)
        have k3 : wr.cell? ⟨g, o + j * 7 + 3, none⟩ = _ := (HBE.out.cell (p := ⟨g, o + j * 7 + 3, none⟩) hgl).trans (hcell 3 _ rfl)
        have k4 : wr.cell? ⟨g, o + j * 7 + 4, none⟩ = _ := (HBE.out.cell (p := ⟨g, o + j * 7 + 4, none⟩) hgl).trans (hcell 4 _ rfl)
        have k5 : wr.cell? ⟨g, o + j * 7 + 5, none⟩ = _ := (HBE.out.cell (p := ⟨g, o + j * 7 + 5, none⟩) hgl).trans (hcell 5 _ rfl)
        have k6 : wr.cell? ⟨g, o + j * 7 + 6, none⟩ = _ := (HBE.out.cell (p := ⟨g, o + j * 7 + 6, none⟩) hgl).trans (hcell 6 _ rfl)
        have z1 : wr.cell? ⟨w.heap.size, 3, none⟩ = some (.slice a2 z.fields.length c2) := blk_cell HX2.out 3 _ rfl
        subst ha
        have HCALL := Lib.hid (HIH.out p.v hnp.1 hnp.2.1 (deep + 1) (D + 1) (by omega) (by have := HD.out; omega) p1 p2 u1 u2 wr P (hdv.to (Stands.below HBE.out)))
        obtain ⟨nm, hnm⟩ : ∃ ok, ok = Lx.isName p.name := ⟨_, rfl⟩
        rw [← hnm] at HS3
        have HC : Hid (Calls Tryz.prog 34 #[.string ⟨p.name.toArray⟩] wr fun e w' => e = .returned (.bool nm) ∧ w' = wr) := Lib.hid ((refName_any ⟨p.name.toArray⟩ wr (by show p.name.length ≤ _; have := hnp.2.2; omega)).mono (by rintro e w' ⟨rfl, rfl⟩; exact ⟨by rw [hnm], rfl⟩))
        obtain ⟨qv, hqv⟩ : ∃ r, r = p.v.good (deep + 1) := ⟨_, rfl⟩
        rw [← hqv] at HCALL HS3
        have HB7 := Lib.hid (HBC.out.trans (HBE.out.mono HBC.out.size))
        clear hp hdx hlen hcell hd hdv HS2 hnp hqv hnm
        cases nm
        · go_wp2_with fail
          refine HC.out.mono ?_
          rintro e w6 ⟨rfl, hw6⟩
          obtain rfl := hw6.symm
          clear hw6
          go_wp2_with fail
          go_ret
          exact ⟨by rw [HS3.out]; rfl, HB7.out⟩
        go_wp2_with fail
        refine HC.out.mono ?_
        rintro e w6 ⟨rfl, hw6⟩
        obtain rfl := hw6.symm
        clear hw6
        go_wp2_with fail
        refine HCALL.out.mono ?_
        rintro e w6 ⟨rfl, hb6⟩
        have HB6 := Lib.hid (HBE.out.trans (hb6.mono HBE.out.size))
        have HB8 := Lib.hid (HBC.out.trans (HB6.out.mono HBC.out.size))
        clear hb6 k0 k1 k2 k3 k4 k5 k6 z1 HCALL
        cases qv
        · go_wp2_with fail
          go_ret
          exact ⟨by rw [HS3.out]; rfl, HB8.out⟩
        · go_wp2_with fail
          go_roundg (z.fields.length + 1 - (j + 1))
          case measure => rw [HK.out]; omega
          case rel => exact ⟨j + 1, rfl, hjl, by go_num, by rw [HS3.out]; rfl, HB6.out⟩
      · have e5 : decide (j < z.fields.length) = false := decide_eq_false hjl
        have HS3 : Hid (S = true) := by
          have := HS2.out
          rw [List.drop_eq_nil_of_le (by omega), Vl.ZA.goods] at this
          exact Lib.hid this
        have HB7 := Lib.hid (HBC.out.trans (HBE.out.mono HBC.out.size))
        go_wp2_with fail
        go_ret
        exact ⟨by rw [HS3.out]; rfl, HB7.out⟩
theorem gd_step (N : Nat) (IH : GoodC N) : GoodC (N + 1) := by
  intro z hN hc deep D hd hD a1 a2 c1 c2 w P hR
  cases hp : Vl.parts z.kind z.items.length z.fields.length
  · exact gdBad z hc deep D hd hD a1 a2 c1 c2 w hp
  by_cases h0 : 1 ≤ z.kind ∧ z.kind ≤ 9
  · rcases (show z.kind = 1 ∨ z.kind = 2 ∨ z.kind = 3 ∨ z.kind = 4 ∨ z.kind = 5 ∨ z.kind = 6 ∨ z.kind = 7 ∨ z.kind = 8 ∨ z.kind = 9 by omega) with hk | hk | hk | hk | hk | hk | hk | hk | hk
    · exact gdLeaf1 z hc deep D hd hD a1 a2 c1 c2 w hp hk
    · exact gdLeaf2 z hc deep D hd hD a1 a2 c1 c2 w hp hk
    · exact gdLeaf3 z hc deep D hd hD a1 a2 c1 c2 w hp hk
    · exact gdLeaf4 z hc deep D hd hD a1 a2 c1 c2 w hp hk
    · exact gdLeaf5 z hc deep D hd hD a1 a2 c1 c2 w hp hk
    · exact gdLeaf6 z hc deep D hd hD a1 a2 c1 c2 w hp hk
    · exact gdLeaf7 z hc deep D hd hD a1 a2 c1 c2 w hp hk
    · exact gdMany8 N IH z hc deep D hd hD a1 a2 c1 c2 w hN P hR hp hk
    · exact gdMany9 N IH z hc deep D hd hD a1 a2 c1 c2 w hN P hR hp hk
  · exact gdLeaf0 z hc deep D hd hD a1 a2 c1 c2 w hp h0
theorem good_all : ∀ N : Nat, GoodC N
  | 0 => fun z hN => by have := Vl.Z.n_pos z; omega
  | N + 1 => gd_step N (good_all N)
end Go.Proofs.YtefjgpkpplkkgaaGreatDoor
namespace Go.Proofs.YtefjgpkpplkkgaaGreatDoor
set_option linter.unusedSimpArgs false
set_option linter.unusedVariables false
open Go Go.RowKit
open Go.ChangeShapes Go.WideShapes Go.ChangeAt
open Go.ChangeMaps (open_string shut_string)

theorem own : ownKnob Tryz.prog.godebug = none := by kernel_rfl
/-- The list that each row bears. -/
abbrev laidList : List (String × DataW Unit) := [("unicode/utf8.acceptRanges", Rows.laid_unicode_utf8_acceptRanges), ("unicode/utf8.first", Rows.laid_unicode_utf8_first)]
set_option maxRecDepth 100000 in
theorem env_of {W : World} (hL : laidMet Tryz.prog laidList W) (hS : W.ShapedOpen Tryz.prog) : Env W ∧ 3 ≤ W.heap.size := by
  have hm : ∃ m, W.cell? ⟨2, 0, none⟩ = some (.int .i64 m) := cell_of_shapedOpen_int (zero := #[.int .i64 0]) (t := 3) hS (of_decide_eq_true (by kernel_rfl)) (by kernel_rfl) rfl (by kernel_rfl) (by kernel_rfl) Tryz.underlying3
  have ht : Lib.Utf8Tabs 0 1 W :=
    utf8Tabs_of_readsT (U8Types.of260 Tryz.lays260) ⟨by kernel_rfl, by kernel_rfl, by kernel_rfl, by kernel_rfl, by kernel_rfl, by kernel_rfl, by kernel_rfl⟩ (Lib.laidMet.reads hL (.tail _ (.head _))) (Lib.laidMet.reads hL (.head _))
  refine ⟨⟨ht, hm⟩, ?_⟩
  obtain ⟨m, h⟩ := hm
  have := cell_lt h
  exact this

/-- The settled world, the two tables holding what their initialisers lay. -/
noncomputable def laidWorld (os : Os) : World :=
  let w0 := World.holding Tryz.prog os ⟨#[], #[], []⟩
  let put (h : Array Obj) (g : Nat) (cs : Array Value) : Array Obj := h.modify g fun
    | .cells _ t frozen => .cells cs t frozen
    | o => o
  let h1 := put w0.heap 0 (Lib.firstTab.map fun z => Value.int .u8 z).toArray
  let h2 := put h1 1 ((List.range 16).flatMap fun i => [Value.int .u8 (Lib.accLo i), Value.int .u8 (Lib.accHi i)]).toArray
  { w0 with heap := h2 }
theorem laid_met (os : Os) (args : Array Value) : laidMet Tryz.prog laidList ((laidWorld os).forCall (fun _ _ => 0) ⟨#[], args, []⟩).memory :=
  (LaidIn.of_run (l := laidList) [0, 1] 8 (by kernel_rfl) (by kernel_rfl) (by kernel_rfl) (by kernel_rfl)).met
end Go.Proofs.YtefjgpkpplkkgaaGreatDoor
namespace Go.Proofs.YtefjgpkpplkkgaaGreatDoor
set_option linter.unusedSimpArgs false
set_option linter.unusedVariables false
open Go Go.RowKit

set_option maxHeartbeats 1000000 in
set_option maxRecDepth 100000 in
/-- A text is just one token of a kind. -/
theorem vone_any (t : List UInt8) (k : Nat) (w : World) (hl : t.length ≤ 9223372036854775807) (hE : Env w) (h3 : 3 ≤ w.heap.size) :
    Calls Tryz.prog 89 #[.string ⟨t.toArray⟩, .int .i64 k] w fun r w' => r = .returned (.bool (Vl.one t k)) ∧ Below w.heap.size w w' := by
  obtain ⟨O, hO⟩ : ∃ O, O = Vl.one t k := ⟨_, rfl⟩
  have HO := Lib.hid hO
  have HE := Lib.hid hE
  rw [← hO]
  clear hO hE
  go_enter Tryz.func89, Tryz.ntmps89
  go_wp2_with fail
  refine (lex_any ⟨t.toArray⟩ w hl HE.out h3).mono ?_
  rintro r w1 ⟨hb1, hres⟩
  have HB := Lib.hid hb1
  rcases hres with ⟨ts, v, hlx, rfl, ht, hstd⟩ | ⟨a, c, hlx, rfl, hc⟩
  · obtain ⟨hok, hpos⟩ := tsOk_of hlx hstd
    obtain ⟨g, cap, rfl, hg, hrow⟩ := ht.openRow hpos
    have hl2 : ts.length ≤ 9223372036854775807 := by have := hok.len; omega
    have HLX := Lib.hid (show Lx.lex t = .ok ts from hlx)
    have HR := Lib.hid hrow
    clear hb1 hstd hok hg hlx ht hrow
    by_cases h2 : ts.length = 2
    rotate_left
    · have e1 : ((ts.length : Int) == 2) = false := eqF (by omega)
      have HF : Hid (O = false) := Lib.hid (by
        rw [HO.out]
        unfold Vl.one
        rw [HLX.out]
        match ts, h2 with
        | [], _ => rfl
        | [_], _ => rfl
        | [_, _], h => exact absurd rfl h
        | _ :: _ :: _ :: _, _ => rfl)
      clear h2
      go_wp2_with fail
      go_ret
      exact ⟨by rw [HF.out]; rfl, HB.out⟩
    have e1 : ((ts.length : Int) == 2) = true := eqT (by omega)
    obtain ⟨x, y, rfl⟩ : ∃ x y, ts = [x, y] := by
      match ts, h2 with
      | [x, y], _ => exact ⟨x, y, rfl⟩
    have k0 : w1.cell? ⟨g, 0, none⟩ = _ := HR.out.kind 0 x rfl
    have k1 : w1.cell? ⟨g, 1, none⟩ = _ := HR.out.text 0 x rfl
    have k2 : w1.cell? ⟨g, 2, none⟩ = _ := HR.out.at_ 0 x rfl
    have HF : Hid (O = (decide (x.kind = k) && decide (x.text = t))) := Lib.hid (by rw [HO.out]; unfold Vl.one; rw [HLX.out])
    clear h2 e1 hpos hl2
    by_cases hk : x.kind = k
    rotate_left
    · have e2 : ((x.kind : Int) == (k : Int)) = false := eqF (by omega)
      have HG : Hid (O = false) := Lib.hid (by rw [HF.out, decide_eq_false hk]; rfl)
      clear hk
      go_wp2_with fail
      go_ret
      exact ⟨by rw [HG.out]; rfl, HB.out⟩
    have e2 : ((x.kind : Int) == (k : Int)) = true := eqT (by omega)
    have HG : Hid (O = decide (x.text = t)) := Lib.hid (by rw [HF.out, decide_eq_true hk]; rfl)
    clear hk
    by_cases ht : x.text = t
    · have e3 : (x.text == t) = true := by rw [beq_iff_eq]; exact ht
      have HH : Hid (O = true) := Lib.hid (by rw [HG.out, decide_eq_true ht])
      clear ht
      go_wp2_with fail
      go_ret
      exact ⟨by rw [HH.out]; rfl, HB.out⟩
    · have e3 : (x.text == t) = false := by rw [beq_eq_false_iff_ne]; exact ht
      have HH : Hid (O = false) := Lib.hid (by rw [HG.out, decide_eq_false ht])
      clear ht
      go_wp2_with fail
      go_ret
      exact ⟨by rw [HH.out]; rfl, HB.out⟩
  · have e0 : ((c : Int) == 0) = false := eqF (by omega)
    have HF : Hid (O = false) := Lib.hid (by
      rw [HO.out]
      unfold Vl.one
      rw [show Lx.lex t = .err a c from hlx])
    clear hb1 hlx
    go_wp2_with fail
    go_ret
    exact ⟨by rw [HF.out]; rfl, HB.out⟩

/-- A shower's world. -/
structure SW (w0 : World) (b : Nat) (s : Vl.Sh) (w : World) : Prop where
  sh : SH w0.heap.size b s.out s.bad w
  bel : Below w0.heap.size w0 w
theorem SW.badCell {w0 w : World} {b : Nat} {s : Vl.Sh} (h : SW w0 b s w) : w.cell? ⟨b, 2, none⟩ = some (.bool s.bad) := by
  obtain ⟨-, p, v, -, hb, -⟩ := h.sh
  rw [Lib.cell_of_heap hb]; rfl
abbrev OK8 (b : Nat) (w w' : World) : Prop := Lib.OthersKept 5 (some b) w w'
section
variable {w0 w w' : World} {b : Nat} {s : Vl.Sh}
theorem SW.need (h : SW w0 b s w) (ok : Bool) : Calls Tryz.prog 86 #[.pointer (some ⟨b, 0, none⟩), .bool ok] w fun e w' => e = .returned (.tuple #[]) ∧ SW w0 b (Vl.need ok s) w' ∧ OK8 b w w' := by
  refine (shNeed _ b s.out s.bad ok w h.sh).mono ?_
  rintro e w' ⟨rfl, h1, h2, h3⟩
  exact ⟨rfl, ⟨h1, h.bel.trans h2⟩, h3⟩
theorem SW.str (h : SW w0 b s w) (l : List UInt8) (hl : s.out.length + l.length ≤ 10000000000) : Calls Tryz.prog 88 #[.pointer (some ⟨b, 0, none⟩), .string ⟨l.toArray⟩] w fun e w' => (∃ n : Int, e = .returned (.tuple #[.int .i64 n, .nilIface])) ∧ SW w0 b (Vl.put l s) w' ∧ OK8 b w w' := by
  refine (shStr _ b s.out l s.bad w h.sh hl h.bel.size).mono ?_
  rintro e w' ⟨he, h1, h2, h3⟩
  exact ⟨he, ⟨h1, h.bel.trans h2⟩, h3⟩
theorem SW.byte (h : SW w0 b s w) (c : UInt8) (hl : s.out.length ≤ 10000000000) : Calls Tryz.prog 162 #[.pointer (some ⟨b, 0, none⟩), .int .u8 c.toNat] w fun e w' => e = .returned .nilIface ∧ SW w0 b (Vl.put [c] s) w' ∧ OK8 b w w' := by
  refine (shByte _ b s.out s.bad c w h.sh hl h.bel.size).mono ?_
  rintro e w' ⟨he, h1, h2, h3⟩
  exact ⟨he, ⟨h1, h.bel.trans h2⟩, h3⟩
theorem SW.below (h : SW w0 b s w) (hb : Below w.heap.size w w') : SW w0 b s w' := by
  refine ⟨?_, h.bel.trans (hb.mono h.bel.size)⟩
  obtain ⟨hB, p, v, hp, hbk, hown, hne⟩ := h.sh
  refine ⟨hB, p, v, hp, ?_, ?_, hne⟩
  · rw [hb.block b (sh_lt hbk)]; exact hbk
  · exact hown.kept (row := some b) ⟨hb.os, hb.tape, hb.output, hb.size, fun k hk _ => hb.block k hk⟩ (Or.inr hne)
theorem SW.alloc (h : SW w0 b s w) (o : Obj) : SW w0 b s (w.alloc o) := h.below ((Below.refl _ _).alloc (Nat.le_refl _) _)
theorem ok8_below (hb : Below w.heap.size w w') : OK8 b w w' := fun k o hk _ _ => by rw [hb.block k (sh_lt hk)]; exact hk
theorem ok8_at (h : OK8 b w w') {x : Nat} {cs : Array Value} {T : TypeId} {fz : Nat × Nat} (hx : w.heap[x]? = some (.cells cs T fz)) (hxb : x ≠ b) (hT : T ≠ 5) : w'.heap[x]? = some (.cells cs T fz) :=
  h x _ hx (fun e => hxb (Option.some.inj e)) (fun c f e => hT (by cases e; rfl))
end
theorem SW.drewN {w0 w : World} {b : Nat} {s : Vl.Sh} (h : SW w0 b s w) (n : Nat) : SW w0 b s (w.drewN n) := ⟨⟨h.sh.hB, h.sh.ex⟩, Below.drewN h.bel n⟩
theorem vdollar (t : List UInt8) : (⟨#[36]⟩ : ByteArray) ++ ⟨t.toArray⟩ = ⟨(36 :: t).toArray⟩ := by
  have h : ((⟨#[36]⟩ : ByteArray) ++ ⟨t.toArray⟩).data.toList = 36 :: t := by simp
  have : ∀ a : ByteArray, a = ⟨a.data.toList.toArray⟩ := fun a => by cases a; simp
  rw [this (_ ++ _), h]
theorem Vl.quoteOf_le (t : List UInt8) : (Vl.quoteOf t).length ≤ 6 * t.length + 2 := by
  unfold Vl.quoteOf
  split
  · exact quote_len t
  · simp
/-- 'inner', of values no greater than N. -/
def InnC (N : Nat) : Prop := ∀ (z : Vl.Z), z.n ≤ N → (z.kind = 8 ∨ z.kind = 9) → ∀ (deep : Nat), deep ≤ 16 → ∀ (w0 : World) (b : Nat) (s : Vl.Sh) (a1 a2 : Option Addr) (n1 n2 : Nat) (w : World), Env w0 → 3 ≤ w0.heap.size → SW w0 b s w → s.out.length + z.cost ≤ 1000000000 →
  Reads w0 (fun _ => True) z.d (zcells z a1 a2 n1 n2).toList →
  Calls Tryz.prog 91 #[.pointer (some ⟨b, 0, none⟩), .agg (zcells z a1 a2 n1 n2), .int .i64 deep] w (fun e w' => e = .returned (.tuple #[]) ∧ SW w0 b (z.inner deep s) w' ∧ OK8 b w w')

noncomputable def valRest : Code := (Tryz.f32.body.map (fun c => sndC (sndC c))).getD .skip
end Go.Proofs.YtefjgpkpplkkgaaGreatDoor
