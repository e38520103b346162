/-
  The shower of values: lists, objects, what is none, walked. The shower of values: value, walked.
-/
import Derived.Test.YtefjgpkpplkkgaaGreatDoorZa22
import Derived.Test.YtefjgpkpplkkgaaGreatDoorZa23
namespace Go.Proofs.YtefjgpkpplkkgaaGreatDoor
set_option linter.unusedSimpArgs false
set_option linter.unusedVariables false
open Go Go.RowKit

set_option maxHeartbeats 800000 in
set_option maxRecDepth 100000 in
theorem val_rest8 (N : Nat) (INN : InnC N) (w0 : World) (b : Nat) (s : Vl.Sh) (z : Vl.Z) (deep x : Nat) (a1 a2 : Option Addr) (n1 n2 : Nat) (w : World) (hN : z.n ≤ N) (HE : Hid (Env w0)) (h3 : 3 ≤ w0.heap.size) (hdp : deep ≤ 16) (hk : z.kind = 8)
    (HS : Hid (SW w0 b s w)) (hlen : s.out.length + z.cost ≤ 1000000000) (HX : Hid (w.heap[x]? = some (.cells #[.int .i64 z.kind, .string ⟨z.text.toArray⟩, .slice a1 z.items.length n1, .slice a2 z.fields.length n2, .int .i64 z.at_] 25 (0, 0)))) (hxb : x ≠ b) (HRD : Hid (Reads w0 (fun _ => True) z.d (zcells z a1 a2 n1 n2).toList))
    (Q : Exit → Act → World → Prop) (c3 c5 c6 c7 c8 c9 c10 c11 c12 c13 c14 c15 c16 c17 c18 c19 c20 c21 c22 c23 c24 c25 c26 c27 c28 c29 c30 c31 c32 c33 c34 c35 c36 c37 c38 c39 c40 c41 c42 c43 c44 c45 c46 c47 c48 c49 c50 c51 c52 c53 c54 c55 c56 c57 c58 c59 c60 c61 c62 c63 c64 c65 c66 c67 c68 c69 c70 c71 c72 c73 c74 c75 c76 c77 c78 c79 c80 c81 c82 c83 c84 c85 c86 c87 c88 c89 c90 c91 c92 c93 c94 c95 c96 c97 c98 c99 c100 c101 c102 c103 c104 c105 c106 c107 c108 c109 c110 c111 c112 c113 c114 c115 c116 c117 c118 c119 c120 c121 c122 c123 c124 c125 c126 c127 c128 c129 c130 c131 c132 c133 c134 c135 c136 c137 c138 c139 c140 c141 c142 c143 c144 c145 c146 c147 c148 c149 c150 c151 c152 c153 c154 c155 c156 c157 c158 c159 c160 c161 c162 c163 c164 c165 c166 c167 c168 c169 : Value) (HQ : Hid (∀ (tm : Array Value) (w' : World), SW w0 b (if (Vl.need (decide (z.text = []) && decide (deep < 16)) s).bad = true then Vl.need (decide (z.text = []) && decide (deep < 16)) s else z.inner (deep + 1) (Vl.need (decide (z.text = []) && decide (deep < 16)) s)) w' → OK8 b w w' → Q .normal ⟨tm, []⟩ w')) :
    Code.wp Tryz.prog valRest Q ⟨#[.pointer (some ⟨b, 0, none⟩), .agg #[.int .i64 z.kind, .string ⟨z.text.toArray⟩, .slice a1 z.items.length n1, .slice a2 z.fields.length n2, .int .i64 z.at_], .int .i64 (deep : Nat), c3, .pointer (some ⟨x, 0, none⟩), c5, c6, c7, c8, c9, c10, c11, c12, c13, c14, c15, c16, c17, c18, c19, c20, c21, c22, c23, c24, c25, c26, c27, c28, c29, c30, c31, c32, c33, c34, c35, c36, c37, c38, c39, c40, c41, c42, c43, c44, c45, c46, c47, c48, c49, c50, c51, c52, c53, c54, c55, c56, c57, c58, c59, c60, c61, c62, c63, c64, c65, c66, c67, c68, c69, c70, c71, c72, c73, c74, c75, c76, c77, c78, c79, c80, c81, c82, c83, c84, c85, c86, c87, c88, c89, c90, c91, c92, c93, c94, c95, c96, c97, c98, c99, c100, c101, c102, c103, c104, c105, c106, c107, c108, c109, c110, c111, c112, c113, c114, c115, c116, c117, c118, c119, c120, c121, c122, c123, c124, c125, c126, c127, c128, c129, c130, c131, c132, c133, c134, c135, c136, c137, c138, c139, c140, c141, c142, c143, c144, c145, c146, c147, c148, c149, c150, c151, c152, c153, c154, c155, c156, c157, c158, c159, c160, c161, c162, c163, c164, c165, c166, c167, c168, c169], []⟩ w := by
  have hcost := Vl.Z.cost_eq z
  obtain ⟨F, hF⟩ : ∃ F, F = (if (Vl.need (decide (z.text = []) && decide (deep < 16)) s).bad = true then Vl.need (decide (z.text = []) && decide (deep < 16)) s else z.inner (deep + 1) (Vl.need (decide (z.text = []) && decide (deep < 16)) s)) := ⟨_, rfl⟩
  rw [← hF] at HQ
  have HF := Lib.hid hF
  have HINN := Lib.hid (fun h : deep < 16 => INN z hN (by omega) (deep + 1) (by omega) w0 b)
  have q1 : (z.kind == 1) = false := by rw [beq_eq_false_iff_ne]; omega
  have q2 : (z.kind == 2) = false := by rw [beq_eq_false_iff_ne]; omega
  have q3 : (z.kind == 3) = false := by rw [beq_eq_false_iff_ne]; omega
  have q4 : (z.kind == 4) = false := by rw [beq_eq_false_iff_ne]; omega
  have q5 : (z.kind == 5) = false := by rw [beq_eq_false_iff_ne]; omega
  have q6 : (z.kind == 6) = false := by rw [beq_eq_false_iff_ne]; omega
  have q7 : (z.kind == 7) = false := by rw [beq_eq_false_iff_ne]; omega
  have q8 : (z.kind == 8) = true := by rw [beq_iff_eq]; exact hk
  have q9 : (z.kind == 9) = false := by rw [beq_eq_false_iff_ne]; omega
  have z0 := blk_cell HX.out 0 (.int .i64 z.kind) rfl
  have z1 := blk_cell HX.out 1 (.string ⟨z.text.toArray⟩) rfl
  have z2 := blk_cell HX.out 2 (.slice a1 z.items.length n1) rfl
  have z3 := blk_cell HX.out 3 (.slice a2 z.fields.length n2) rfl
  have z4 := blk_cell HX.out 4 (.int .i64 z.at_) rfl
  clear hF INN hN hk
  conv => arg 2; whnf
  conv => arg 4; zeta
  by_cases ht : z.text = []
  rotate_left
  · have e1 : z.text.isEmpty = false := by cases h : z.text with | nil => exact absurd h ht | cons _ _ => rfl
    have HOK : Hid ((decide (z.text = []) && decide (deep < 16)) = false) := Lib.hid (by rw [decide_eq_false ht]; rfl)
    clear ht
    go_wp2_with fail
    refine (HS.out.need false).mono ?_
    rintro r w2 ⟨rfl, hs2, hk2⟩
    have HS2 := Lib.hid hs2
    have HK2 := Lib.hid hk2
    have HX2 := Lib.hid (ok8_at hk2 HX.out hxb (by decide))
    clear hs2 hk2 z0 z1 z2 z3 z4
    have z0 := blk_cell HX2.out 0 (.int .i64 z.kind) rfl
    have z1 := blk_cell HX2.out 1 (.string ⟨z.text.toArray⟩) rfl
    have z2 := blk_cell HX2.out 2 (.slice a1 z.items.length n1) rfl
    have z3 := blk_cell HX2.out 3 (.slice a2 z.fields.length n2) rfl
    have z4 := blk_cell HX2.out 4 (.int .i64 z.at_) rfl
    have y2 := HS2.out.badCell
    obtain ⟨bd, hbd⟩ : ∃ bd, bd = (Vl.need false s).bad := ⟨_, rfl⟩
    rw [← hbd] at y2
    have HBD := Lib.hid hbd
    clear hbd
    cases bd
    · exfalso; have := HBD.out; simp [Vl.need] at this
    · have HF2 : Hid (F = Vl.need false s) := Lib.hid (by rw [HF.out, HOK.out, if_pos HBD.out.symm])
      go_wp2_with fail
      exact HQ.out _ _ (by rw [HF2.out]; exact HS2.out) HK2.out
  have e1 : z.text.isEmpty = true := by rw [ht]; rfl
  by_cases hd : deep < 16
  · have e2 : decide ((deep : Int) < 16) = true := decide_eq_true (by omega)
    have HOK : Hid ((decide (z.text = []) && decide (deep < 16)) = true) := Lib.hid (by rw [decide_eq_true ht, decide_eq_true hd]; rfl)
    clear ht
    go_wp2_with fail
    refine (HS.out.need true).mono ?_
    rintro r w2 ⟨rfl, hs2, hk2⟩
    have HS2 := Lib.hid hs2
    have HK2 := Lib.hid hk2
    have HX2 := Lib.hid (ok8_at hk2 HX.out hxb (by decide))
    clear hs2 hk2 z0 z1 z2 z3 z4
    have z0 := blk_cell HX2.out 0 (.int .i64 z.kind) rfl
    have z1 := blk_cell HX2.out 1 (.string ⟨z.text.toArray⟩) rfl
    have z2 := blk_cell HX2.out 2 (.slice a1 z.items.length n1) rfl
    have z3 := blk_cell HX2.out 3 (.slice a2 z.fields.length n2) rfl
    have z4 := blk_cell HX2.out 4 (.int .i64 z.at_) rfl
    have y2 := HS2.out.badCell
    obtain ⟨bd, hbd⟩ : ∃ bd, bd = (Vl.need true s).bad := ⟨_, rfl⟩
    rw [← hbd] at y2
    have HBD := Lib.hid hbd
    clear hbd
    cases bd
    · have HF2 : Hid (F = z.inner (deep + 1) (Vl.need true s)) := Lib.hid (by rw [HF.out, HOK.out, if_neg (by rw [← HBD.out]; simp)])
      go_wp2_with fail
      refine (HINN.out hd (Vl.need true s) a1 a2 n1 n2 w2 HE.out h3 HS2.out (by rw [Vl.need_out]; omega) HRD.out).mono ?_
      rintro r w3 ⟨rfl, hs3, hk3⟩
      have HS3 := Lib.hid hs3
      have HK3 : Hid (OK8 b w w3) := Lib.hid (HK2.out.trans hk3)
      clear hs3 hk3
      go_wp2_with fail
      exact HQ.out _ _ (by rw [HF2.out]; exact HS3.out) HK3.out
    · have HF2 : Hid (F = Vl.need true s) := Lib.hid (by rw [HF.out, HOK.out, if_pos HBD.out.symm])
      go_wp2_with fail
      exact HQ.out _ _ (by rw [HF2.out]; exact HS2.out) HK2.out
  · have e2 : decide ((deep : Int) < 16) = false := decide_eq_false (by omega)
    have HOK : Hid ((decide (z.text = []) && decide (deep < 16)) = false) := Lib.hid (by rw [decide_eq_true ht, decide_eq_false hd]; rfl)
    clear ht
    go_wp2_with fail
    refine (HS.out.need false).mono ?_
    rintro r w2 ⟨rfl, hs2, hk2⟩
    have HS2 := Lib.hid hs2
    have HK2 := Lib.hid hk2
    have HX2 := Lib.hid (ok8_at hk2 HX.out hxb (by decide))
    clear hs2 hk2 z0 z1 z2 z3 z4
    have z0 := blk_cell HX2.out 0 (.int .i64 z.kind) rfl
    have z1 := blk_cell HX2.out 1 (.string ⟨z.text.toArray⟩) rfl
    have z2 := blk_cell HX2.out 2 (.slice a1 z.items.length n1) rfl
    have z3 := blk_cell HX2.out 3 (.slice a2 z.fields.length n2) rfl
    have z4 := blk_cell HX2.out 4 (.int .i64 z.at_) rfl
    have y2 := HS2.out.badCell
    obtain ⟨bd, hbd⟩ : ∃ bd, bd = (Vl.need false s).bad := ⟨_, rfl⟩
    rw [← hbd] at y2
    have HBD := Lib.hid hbd
    clear hbd
    cases bd
    · exfalso; have := HBD.out; simp [Vl.need] at this
    · have HF2 : Hid (F = Vl.need false s) := Lib.hid (by rw [HF.out, HOK.out, if_pos HBD.out.symm])
      go_wp2_with fail
      exact HQ.out _ _ (by rw [HF2.out]; exact HS2.out) HK2.out
set_option maxHeartbeats 800000 in
set_option maxRecDepth 100000 in
theorem val_rest9 (N : Nat) (INN : InnC N) (w0 : World) (b : Nat) (s : Vl.Sh) (z : Vl.Z) (deep x : Nat) (a1 a2 : Option Addr) (n1 n2 : Nat) (w : World) (hN : z.n ≤ N) (HE : Hid (Env w0)) (h3 : 3 ≤ w0.heap.size) (hdp : deep ≤ 16) (hk : z.kind = 9)
    (HS : Hid (SW w0 b s w)) (hlen : s.out.length + z.cost ≤ 1000000000) (HX : Hid (w.heap[x]? = some (.cells #[.int .i64 z.kind, .string ⟨z.text.toArray⟩, .slice a1 z.items.length n1, .slice a2 z.fields.length n2, .int .i64 z.at_] 25 (0, 0)))) (hxb : x ≠ b) (HRD : Hid (Reads w0 (fun _ => True) z.d (zcells z a1 a2 n1 n2).toList))
    (Q : Exit → Act → World → Prop) (c3 c5 c6 c7 c8 c9 c10 c11 c12 c13 c14 c15 c16 c17 c18 c19 c20 c21 c22 c23 c24 c25 c26 c27 c28 c29 c30 c31 c32 c33 c34 c35 c36 c37 c38 c39 c40 c41 c42 c43 c44 c45 c46 c47 c48 c49 c50 c51 c52 c53 c54 c55 c56 c57 c58 c59 c60 c61 c62 c63 c64 c65 c66 c67 c68 c69 c70 c71 c72 c73 c74 c75 c76 c77 c78 c79 c80 c81 c82 c83 c84 c85 c86 c87 c88 c89 c90 c91 c92 c93 c94 c95 c96 c97 c98 c99 c100 c101 c102 c103 c104 c105 c106 c107 c108 c109 c110 c111 c112 c113 c114 c115 c116 c117 c118 c119 c120 c121 c122 c123 c124 c125 c126 c127 c128 c129 c130 c131 c132 c133 c134 c135 c136 c137 c138 c139 c140 c141 c142 c143 c144 c145 c146 c147 c148 c149 c150 c151 c152 c153 c154 c155 c156 c157 c158 c159 c160 c161 c162 c163 c164 c165 c166 c167 c168 c169 : Value) (HQ : Hid (∀ (tm : Array Value) (w' : World), SW w0 b (if (Vl.need (decide (z.text = []) && decide (deep < 16)) s).bad = true then Vl.need (decide (z.text = []) && decide (deep < 16)) s else z.inner (deep + 1) (Vl.need (decide (z.text = []) && decide (deep < 16)) s)) w' → OK8 b w w' → Q .normal ⟨tm, []⟩ w')) :
    Code.wp Tryz.prog valRest Q ⟨#[.pointer (some ⟨b, 0, none⟩), .agg #[.int .i64 z.kind, .string ⟨z.text.toArray⟩, .slice a1 z.items.length n1, .slice a2 z.fields.length n2, .int .i64 z.at_], .int .i64 (deep : Nat), c3, .pointer (some ⟨x, 0, none⟩), c5, c6, c7, c8, c9, c10, c11, c12, c13, c14, c15, c16, c17, c18, c19, c20, c21, c22, c23, c24, c25, c26, c27, c28, c29, c30, c31, c32, c33, c34, c35, c36, c37, c38, c39, c40, c41, c42, c43, c44, c45, c46, c47, c48, c49, c50, c51, c52, c53, c54, c55, c56, c57, c58, c59, c60, c61, c62, c63, c64, c65, c66, c67, c68, c69, c70, c71, c72, c73, c74, c75, c76, c77, c78, c79, c80, c81, c82, c83, c84, c85, c86, c87, c88, c89, c90, c91, c92, c93, c94, c95, c96, c97, c98, c99, c100, c101, c102, c103, c104, c105, c106, c107, c108, c109, c110, c111, c112, c113, c114, c115, c116, c117, c118, c119, c120, c121, c122, c123, c124, c125, c126, c127, c128, c129, c130, c131, c132, c133, c134, c135, c136, c137, c138, c139, c140, c141, c142, c143, c144, c145, c146, c147, c148, c149, c150, c151, c152, c153, c154, c155, c156, c157, c158, c159, c160, c161, c162, c163, c164, c165, c166, c167, c168, c169], []⟩ w := by
  have hcost := Vl.Z.cost_eq z
  obtain ⟨F, hF⟩ : ∃ F, F = (if (Vl.need (decide (z.text = []) && decide (deep < 16)) s).bad = true then Vl.need (decide (z.text = []) && decide (deep < 16)) s else z.inner (deep + 1) (Vl.need (decide (z.text = []) && decide (deep < 16)) s)) := ⟨_, rfl⟩
  rw [← hF] at HQ
  have HF := Lib.hid hF
  have HINN := Lib.hid (fun h : deep < 16 => INN z hN (by omega) (deep + 1) (by omega) w0 b)
  have q1 : (z.kind == 1) = false := by rw [beq_eq_false_iff_ne]; omega
  have q2 : (z.kind == 2) = false := by rw [beq_eq_false_iff_ne]; omega
  have q3 : (z.kind == 3) = false := by rw [beq_eq_false_iff_ne]; omega
  have q4 : (z.kind == 4) = false := by rw [beq_eq_false_iff_ne]; omega
  have q5 : (z.kind == 5) = false := by rw [beq_eq_false_iff_ne]; omega
  have q6 : (z.kind == 6) = false := by rw [beq_eq_false_iff_ne]; omega
  have q7 : (z.kind == 7) = false := by rw [beq_eq_false_iff_ne]; omega
  have q8 : (z.kind == 8) = false := by rw [beq_eq_false_iff_ne]; omega
  have q9 : (z.kind == 9) = true := by rw [beq_iff_eq]; exact hk
  have z0 := blk_cell HX.out 0 (.int .i64 z.kind) rfl
  have z1 := blk_cell HX.out 1 (.string ⟨z.text.toArray⟩) rfl
  have z2 := blk_cell HX.out 2 (.slice a1 z.items.length n1) rfl
  have z3 := blk_cell HX.out 3 (.slice a2 z.fields.length n2) rfl
  have z4 := blk_cell HX.out 4 (.int .i64 z.at_) rfl
  clear hF INN hN hk
  conv => arg 2; whnf
  conv => arg 4; zeta
  by_cases ht : z.text = []
  rotate_left
  · have e1 : z.text.isEmpty = false := by cases h : z.text with | nil => exact absurd h ht | cons _ _ => rfl
    have HOK : Hid ((decide (z.text = []) && decide (deep < 16)) = false) := Lib.hid (by rw [decide_eq_false ht]; rfl)
    clear ht
    go_wp2_with fail
    refine (HS.out.need false).mono ?_
    rintro r w2 ⟨rfl, hs2, hk2⟩
    have HS2 := Lib.hid hs2
    have HK2 := Lib.hid hk2
    have HX2 := Lib.hid (ok8_at hk2 HX.out hxb (by decide))
    clear hs2 hk2 z0 z1 z2 z3 z4
    have z0 := blk_cell HX2.out 0 (.int .i64 z.kind) rfl
    have z1 := blk_cell HX2.out 1 (.string ⟨z.text.toArray⟩) rfl
    have z2 := blk_cell HX2.out 2 (.slice a1 z.items.length n1) rfl
    have z3 := blk_cell HX2.out 3 (.slice a2 z.fields.length n2) rfl
    have z4 := blk_cell HX2.out 4 (.int .i64 z.at_) rfl
    have y2 := HS2.out.badCell
    obtain ⟨bd, hbd⟩ : ∃ bd, bd = (Vl.need false s).bad := ⟨_, rfl⟩
    rw [← hbd] at y2
    have HBD := Lib.hid hbd
    clear hbd
    cases bd
    · exfalso; have := HBD.out; simp [Vl.need] at this
    · have HF2 : Hid (F = Vl.need false s) := Lib.hid (by rw [HF.out, HOK.out, if_pos HBD.out.symm])
      go_wp2_with fail
      exact HQ.out _ _ (by rw [HF2.out]; exact HS2.out) HK2.out
  have e1 : z.text.isEmpty = true := by rw [ht]; rfl
  by_cases hd : deep < 16
  · have e2 : decide ((deep : Int) < 16) = true := decide_eq_true (by omega)
    have HOK : Hid ((decide (z.text = []) && decide (deep < 16)) = true) := Lib.hid (by rw [decide_eq_true ht, decide_eq_true hd]; rfl)
    clear ht
    go_wp2_with fail
    refine (HS.out.need true).mono ?_
    rintro r w2 ⟨rfl, hs2, hk2⟩
    have HS2 := Lib.hid hs2
    have HK2 := Lib.hid hk2
    have HX2 := Lib.hid (ok8_at hk2 HX.out hxb (by decide))
    clear hs2 hk2 z0 z1 z2 z3 z4
    have z0 := blk_cell HX2.out 0 (.int .i64 z.kind) rfl
    have z1 := blk_cell HX2.out 1 (.string ⟨z.text.toArray⟩) rfl
    have z2 := blk_cell HX2.out 2 (.slice a1 z.items.length n1) rfl
    have z3 := blk_cell HX2.out 3 (.slice a2 z.fields.length n2) rfl
    have z4 := blk_cell HX2.out 4 (.int .i64 z.at_) rfl
    have y2 := HS2.out.badCell
    obtain ⟨bd, hbd⟩ : ∃ bd, bd = (Vl.need true s).bad := ⟨_, rfl⟩
    rw [← hbd] at y2
    have HBD := Lib.hid hbd
    clear hbd
    cases bd
    · have HF2 : Hid (F = z.inner (deep + 1) (Vl.need true s)) := Lib.hid (by rw [HF.out, HOK.out, if_neg (by rw [← HBD.out]; simp)])
      go_wp2_with fail
      refine (HINN.out hd (Vl.need true s) a1 a2 n1 n2 w2 HE.out h3 HS2.out (by rw [Vl.need_out]; omega) HRD.out).mono ?_
      rintro r w3 ⟨rfl, hs3, hk3⟩
      have HS3 := Lib.hid hs3
      have HK3 : Hid (OK8 b w w3) := Lib.hid (HK2.out.trans hk3)
      clear hs3 hk3
      go_wp2_with fail
      exact HQ.out _ _ (by rw [HF2.out]; exact HS3.out) HK3.out
    · have HF2 : Hid (F = Vl.need true s) := Lib.hid (by rw [HF.out, HOK.out, if_pos HBD.out.symm])
      go_wp2_with fail
      exact HQ.out _ _ (by rw [HF2.out]; exact HS2.out) HK2.out
  · have e2 : decide ((deep : Int) < 16) = false := decide_eq_false (by omega)
    have HOK : Hid ((decide (z.text = []) && decide (deep < 16)) = false) := Lib.hid (by rw [decide_eq_true ht, decide_eq_false hd]; rfl)
    clear ht
    go_wp2_with fail
    refine (HS.out.need false).mono ?_
    rintro r w2 ⟨rfl, hs2, hk2⟩
    have HS2 := Lib.hid hs2
    have HK2 := Lib.hid hk2
    have HX2 := Lib.hid (ok8_at hk2 HX.out hxb (by decide))
    clear hs2 hk2 z0 z1 z2 z3 z4
    have z0 := blk_cell HX2.out 0 (.int .i64 z.kind) rfl
    have z1 := blk_cell HX2.out 1 (.string ⟨z.text.toArray⟩) rfl
    have z2 := blk_cell HX2.out 2 (.slice a1 z.items.length n1) rfl
    have z3 := blk_cell HX2.out 3 (.slice a2 z.fields.length n2) rfl
    have z4 := blk_cell HX2.out 4 (.int .i64 z.at_) rfl
    have y2 := HS2.out.badCell
    obtain ⟨bd, hbd⟩ : ∃ bd, bd = (Vl.need false s).bad := ⟨_, rfl⟩
    rw [← hbd] at y2
    have HBD := Lib.hid hbd
    clear hbd
    cases bd
    · exfalso; have := HBD.out; simp [Vl.need] at this
    · have HF2 : Hid (F = Vl.need false s) := Lib.hid (by rw [HF.out, HOK.out, if_pos HBD.out.symm])
      go_wp2_with fail
      exact HQ.out _ _ (by rw [HF2.out]; exact HS2.out) HK2.out
set_option maxHeartbeats 800000 in
set_option maxRecDepth 100000 in
theorem val_rest0 (N : Nat) (INN : InnC N) (w0 : World) (b : Nat) (s : Vl.Sh) (z : Vl.Z) (deep x : Nat) (a1 a2 : Option Addr) (n1 n2 : Nat) (w : World) (hN : z.n ≤ N) (HE : Hid (Env w0)) (h3 : 3 ≤ w0.heap.size) (hdp : deep ≤ 16) (hk : ¬ (1 ≤ z.kind ∧ z.kind ≤ 9))
    (HS : Hid (SW w0 b s w)) (hlen : s.out.length + z.cost ≤ 1000000000) (HX : Hid (w.heap[x]? = some (.cells #[.int .i64 z.kind, .string ⟨z.text.toArray⟩, .slice a1 z.items.length n1, .slice a2 z.fields.length n2, .int .i64 z.at_] 25 (0, 0)))) (hxb : x ≠ b) (HRD : Hid (Reads w0 (fun _ => True) z.d (zcells z a1 a2 n1 n2).toList))
    (Q : Exit → Act → World → Prop) (c3 c5 c6 c7 c8 c9 c10 c11 c12 c13 c14 c15 c16 c17 c18 c19 c20 c21 c22 c23 c24 c25 c26 c27 c28 c29 c30 c31 c32 c33 c34 c35 c36 c37 c38 c39 c40 c41 c42 c43 c44 c45 c46 c47 c48 c49 c50 c51 c52 c53 c54 c55 c56 c57 c58 c59 c60 c61 c62 c63 c64 c65 c66 c67 c68 c69 c70 c71 c72 c73 c74 c75 c76 c77 c78 c79 c80 c81 c82 c83 c84 c85 c86 c87 c88 c89 c90 c91 c92 c93 c94 c95 c96 c97 c98 c99 c100 c101 c102 c103 c104 c105 c106 c107 c108 c109 c110 c111 c112 c113 c114 c115 c116 c117 c118 c119 c120 c121 c122 c123 c124 c125 c126 c127 c128 c129 c130 c131 c132 c133 c134 c135 c136 c137 c138 c139 c140 c141 c142 c143 c144 c145 c146 c147 c148 c149 c150 c151 c152 c153 c154 c155 c156 c157 c158 c159 c160 c161 c162 c163 c164 c165 c166 c167 c168 c169 : Value) (HQ : Hid (∀ (tm : Array Value) (w' : World), SW w0 b (Vl.need false s) w' → OK8 b w w' → Q .normal ⟨tm, []⟩ w')) :
    Code.wp Tryz.prog valRest Q ⟨#[.pointer (some ⟨b, 0, none⟩), .agg #[.int .i64 z.kind, .string ⟨z.text.toArray⟩, .slice a1 z.items.length n1, .slice a2 z.fields.length n2, .int .i64 z.at_], .int .i64 (deep : Nat), c3, .pointer (some ⟨x, 0, none⟩), c5, c6, c7, c8, c9, c10, c11, c12, c13, c14, c15, c16, c17, c18, c19, c20, c21, c22, c23, c24, c25, c26, c27, c28, c29, c30, c31, c32, c33, c34, c35, c36, c37, c38, c39, c40, c41, c42, c43, c44, c45, c46, c47, c48, c49, c50, c51, c52, c53, c54, c55, c56, c57, c58, c59, c60, c61, c62, c63, c64, c65, c66, c67, c68, c69, c70, c71, c72, c73, c74, c75, c76, c77, c78, c79, c80, c81, c82, c83, c84, c85, c86, c87, c88, c89, c90, c91, c92, c93, c94, c95, c96, c97, c98, c99, c100, c101, c102, c103, c104, c105, c106, c107, c108, c109, c110, c111, c112, c113, c114, c115, c116, c117, c118, c119, c120, c121, c122, c123, c124, c125, c126, c127, c128, c129, c130, c131, c132, c133, c134, c135, c136, c137, c138, c139, c140, c141, c142, c143, c144, c145, c146, c147, c148, c149, c150, c151, c152, c153, c154, c155, c156, c157, c158, c159, c160, c161, c162, c163, c164, c165, c166, c167, c168, c169], []⟩ w := by
  have hcost := Vl.Z.cost_eq z
  have q1 : (z.kind == 1) = false := by rw [beq_eq_false_iff_ne]; omega
  have q2 : (z.kind == 2) = false := by rw [beq_eq_false_iff_ne]; omega
  have q3 : (z.kind == 3) = false := by rw [beq_eq_false_iff_ne]; omega
  have q4 : (z.kind == 4) = false := by rw [beq_eq_false_iff_ne]; omega
  have q5 : (z.kind == 5) = false := by rw [beq_eq_false_iff_ne]; omega
  have q6 : (z.kind == 6) = false := by rw [beq_eq_false_iff_ne]; omega
  have q7 : (z.kind == 7) = false := by rw [beq_eq_false_iff_ne]; omega
  have q8 : (z.kind == 8) = false := by rw [beq_eq_false_iff_ne]; omega
  have q9 : (z.kind == 9) = false := by rw [beq_eq_false_iff_ne]; omega
  have z0 := blk_cell HX.out 0 (.int .i64 z.kind) rfl
  have z1 := blk_cell HX.out 1 (.string ⟨z.text.toArray⟩) rfl
  have z2 := blk_cell HX.out 2 (.slice a1 z.items.length n1) rfl
  have z3 := blk_cell HX.out 3 (.slice a2 z.fields.length n2) rfl
  have z4 := blk_cell HX.out 4 (.int .i64 z.at_) rfl
  clear INN hN hk
  conv => arg 2; whnf
  conv => arg 4; zeta
  go_wp2_with fail
  refine (HS.out.need false).mono ?_
  rintro r w2 ⟨rfl, hs2, hk2⟩
  have HS2 := Lib.hid hs2
  have HK2 := Lib.hid hk2
  clear hs2 hk2
  go_wp2_with fail
  exact HQ.out _ _ HS2.out HK2.out
end Go.Proofs.YtefjgpkpplkkgaaGreatDoor
namespace Go.Proofs.YtefjgpkpplkkgaaGreatDoor
set_option linter.unusedSimpArgs false
set_option linter.unusedVariables false
open Go Go.RowKit

set_option maxHeartbeats 4000000 in
set_option maxRecDepth 100000 in
theorem val_rest (N : Nat) (INN : InnC N) (w0 : World) (b : Nat) (s : Vl.Sh) (z : Vl.Z) (deep x : Nat) (a1 a2 : Option Addr) (n1 n2 : Nat) (w : World) (hN : z.n ≤ N) (HE : Hid (Env w0)) (h3 : 3 ≤ w0.heap.size) (hdp : deep ≤ 16)
    (HS : Hid (SW w0 b s w)) (hlen : s.out.length + z.cost ≤ 1000000000) (HX : Hid (w.heap[x]? = some (.cells #[.int .i64 z.kind, .string ⟨z.text.toArray⟩, .slice a1 z.items.length n1, .slice a2 z.fields.length n2, .int .i64 z.at_] 25 (0, 0)))) (hxb : x ≠ b) (HRD : Hid (Reads w0 (fun _ => True) z.d (zcells z a1 a2 n1 n2).toList))
    (Q : Exit → Act → World → Prop) (c3 c5 c6 c7 c8 c9 c10 c11 c12 c13 c14 c15 c16 c17 c18 c19 c20 c21 c22 c23 c24 c25 c26 c27 c28 c29 c30 c31 c32 c33 c34 c35 c36 c37 c38 c39 c40 c41 c42 c43 c44 c45 c46 c47 c48 c49 c50 c51 c52 c53 c54 c55 c56 c57 c58 c59 c60 c61 c62 c63 c64 c65 c66 c67 c68 c69 c70 c71 c72 c73 c74 c75 c76 c77 c78 c79 c80 c81 c82 c83 c84 c85 c86 c87 c88 c89 c90 c91 c92 c93 c94 c95 c96 c97 c98 c99 c100 c101 c102 c103 c104 c105 c106 c107 c108 c109 c110 c111 c112 c113 c114 c115 c116 c117 c118 c119 c120 c121 c122 c123 c124 c125 c126 c127 c128 c129 c130 c131 c132 c133 c134 c135 c136 c137 c138 c139 c140 c141 c142 c143 c144 c145 c146 c147 c148 c149 c150 c151 c152 c153 c154 c155 c156 c157 c158 c159 c160 c161 c162 c163 c164 c165 c166 c167 c168 c169 : Value) (HQ : Hid (∀ (tm : Array Value) (w' : World), SW w0 b (z.rest deep s) w' → OK8 b w w' → Q .normal ⟨tm, []⟩ w')) :
    Code.wp Tryz.prog valRest Q ⟨#[.pointer (some ⟨b, 0, none⟩), .agg #[.int .i64 z.kind, .string ⟨z.text.toArray⟩, .slice a1 z.items.length n1, .slice a2 z.fields.length n2, .int .i64 z.at_], .int .i64 (deep : Nat), c3, .pointer (some ⟨x, 0, none⟩), c5, c6, c7, c8, c9, c10, c11, c12, c13, c14, c15, c16, c17, c18, c19, c20, c21, c22, c23, c24, c25, c26, c27, c28, c29, c30, c31, c32, c33, c34, c35, c36, c37, c38, c39, c40, c41, c42, c43, c44, c45, c46, c47, c48, c49, c50, c51, c52, c53, c54, c55, c56, c57, c58, c59, c60, c61, c62, c63, c64, c65, c66, c67, c68, c69, c70, c71, c72, c73, c74, c75, c76, c77, c78, c79, c80, c81, c82, c83, c84, c85, c86, c87, c88, c89, c90, c91, c92, c93, c94, c95, c96, c97, c98, c99, c100, c101, c102, c103, c104, c105, c106, c107, c108, c109, c110, c111, c112, c113, c114, c115, c116, c117, c118, c119, c120, c121, c122, c123, c124, c125, c126, c127, c128, c129, c130, c131, c132, c133, c134, c135, c136, c137, c138, c139, c140, c141, c142, c143, c144, c145, c146, c147, c148, c149, c150, c151, c152, c153, c154, c155, c156, c157, c158, c159, c160, c161, c162, c163, c164, c165, c166, c167, c168, c169], []⟩ w := by
  by_cases h1 : 1 ≤ z.kind ∧ z.kind ≤ 7
  · have hr : z.rest deep s = Vl.put (Vl.leaf z.kind z.text).2 (Vl.need (Vl.leaf z.kind z.text).1 s) := by unfold Vl.Z.rest; exact if_pos h1
    rw [hr] at HQ
    have hk : z.kind = 1 ∨ z.kind = 2 ∨ z.kind = 3 ∨ z.kind = 4 ∨ z.kind = 5 ∨ z.kind = 6 ∨ z.kind = 7 := by omega
    rcases hk with hk | hk | hk | hk | hk | hk | hk
    · exact val_rest1 N INN w0 b s z deep x a1 a2 n1 n2 w hN HE h3 hdp hk _ (Lib.hid (by rw [hk]; unfold Vl.leaf; simp)) HS hlen HX hxb HRD Q _ _ _ _ _ _ _ _ _ _ _ _ _ _ _ _ _ _ _ _ _ _ _ _ _ _ _ _ _ _ _ _ _ _ _ _ _ _ _ _ _ _ _ _ _ _ _ _ _ _ _ _ _ _ _ _ _ _ _ _ _ _ _ _ _ _ _ _ _ _ _ _ _ _ _ _ _ _ _ _ _ _ _ _ _ _ _ _ _ _ _ _ _ _ _ _ _ _ _ _ _ _ _ _ _ _ _ _ _ _ _ _ _ _ _ _ _ _ _ _ _ _ _ _ _ _ _ _ _ _ _ _ _ _ _ _ _ _ _ _ _ _ _ _ _ _ _ _ _ _ _ _ _ _ _ _ _ _ _ _ _ _ _ _ _ _ HQ
    · exact val_rest2 N INN w0 b s z deep x a1 a2 n1 n2 w hN HE h3 hdp hk _ (Lib.hid (by rw [hk]; unfold Vl.leaf; simp)) HS hlen HX hxb HRD Q _ _ _ _ _ _ _ _ _ _ _ _ _ _ _ _ _ _ _ _ _ _ _ _ _ _ _ _ _ _ _ _ _ _ _ _ _ _ _ _ _ _ _ _ _ _ _ _ _ _ _ _ _ _ _ _ _ _ _ _ _ _ _ _ _ _ _ _ _ _ _ _ _ _ _ _ _ _ _ _ _ _ _ _ _ _ _ _ _ _ _ _ _ _ _ _ _ _ _ _ _ _ _ _ _ _ _ _ _ _ _ _ _ _ _ _ _ _ _ _ _ _ _ _ _ _ _ _ _ _ _ _ _ _ _ _ _ _ _ _ _ _ _ _ _ _ _ _ _ _ _ _ _ _ _ _ _ _ _ _ _ _ _ _ _ _ HQ
    · exact val_rest3 N INN w0 b s z deep x a1 a2 n1 n2 w hN HE h3 hdp hk _ (Lib.hid (by rw [hk]; unfold Vl.leaf; simp)) HS hlen HX hxb HRD Q _ _ _ _ _ _ _ _ _ _ _ _ _ _ _ _ _ _ _ _ _ _ _ _ _ _ _ _ _ _ _ _ _ _ _ _ _ _ _ _ _ _ _ _ _ _ _ _ _ _ _ _ _ _ _ _ _ _ _ _ _ _ _ _ _ _ _ _ _ _ _ _ _ _ _ _ _ _ _ _ _ _ _ _ _ _ _ _ _ _ _ _ _ _ _ _ _ _ _ _ _ _ _ _ _ _ _ _ _ _ _ _ _ _ _ _ _ _ _ _ _ _ _ _ _ _ _ _ _ _ _ _ _ _ _ _ _ _ _ _ _ _ _ _ _ _ _ _ _ _ _ _ _ _ _ _ _ _ _ _ _ _ _ _ _ _ HQ
    · exact val_rest4 N INN w0 b s z deep x a1 a2 n1 n2 w hN HE h3 hdp hk _ (Lib.hid (by rw [hk]; unfold Vl.leaf; simp)) HS hlen HX hxb HRD Q _ _ _ _ _ _ _ _ _ _ _ _ _ _ _ _ _ _ _ _ _ _ _ _ _ _ _ _ _ _ _ _ _ _ _ _ _ _ _ _ _ _ _ _ _ _ _ _ _ _ _ _ _ _ _ _ _ _ _ _ _ _ _ _ _ _ _ _ _ _ _ _ _ _ _ _ _ _ _ _ _ _ _ _ _ _ _ _ _ _ _ _ _ _ _ _ _ _ _ _ _ _ _ _ _ _ _ _ _ _ _ _ _ _ _ _ _ _ _ _ _ _ _ _ _ _ _ _ _ _ _ _ _ _ _ _ _ _ _ _ _ _ _ _ _ _ _ _ _ _ _ _ _ _ _ _ _ _ _ _ _ _ _ _ _ _ HQ
    · exact val_rest5 N INN w0 b s z deep x a1 a2 n1 n2 w hN HE h3 hdp hk _ (Lib.hid (by rw [hk]; unfold Vl.leaf; simp)) HS hlen HX hxb HRD Q _ _ _ _ _ _ _ _ _ _ _ _ _ _ _ _ _ _ _ _ _ _ _ _ _ _ _ _ _ _ _ _ _ _ _ _ _ _ _ _ _ _ _ _ _ _ _ _ _ _ _ _ _ _ _ _ _ _ _ _ _ _ _ _ _ _ _ _ _ _ _ _ _ _ _ _ _ _ _ _ _ _ _ _ _ _ _ _ _ _ _ _ _ _ _ _ _ _ _ _ _ _ _ _ _ _ _ _ _ _ _ _ _ _ _ _ _ _ _ _ _ _ _ _ _ _ _ _ _ _ _ _ _ _ _ _ _ _ _ _ _ _ _ _ _ _ _ _ _ _ _ _ _ _ _ _ _ _ _ _ _ _ _ _ _ _ HQ
    · exact val_rest6 N INN w0 b s z deep x a1 a2 n1 n2 w hN HE h3 hdp hk _ (Lib.hid (by rw [hk]; unfold Vl.leaf; simp)) HS hlen HX hxb HRD Q _ _ _ _ _ _ _ _ _ _ _ _ _ _ _ _ _ _ _ _ _ _ _ _ _ _ _ _ _ _ _ _ _ _ _ _ _ _ _ _ _ _ _ _ _ _ _ _ _ _ _ _ _ _ _ _ _ _ _ _ _ _ _ _ _ _ _ _ _ _ _ _ _ _ _ _ _ _ _ _ _ _ _ _ _ _ _ _ _ _ _ _ _ _ _ _ _ _ _ _ _ _ _ _ _ _ _ _ _ _ _ _ _ _ _ _ _ _ _ _ _ _ _ _ _ _ _ _ _ _ _ _ _ _ _ _ _ _ _ _ _ _ _ _ _ _ _ _ _ _ _ _ _ _ _ _ _ _ _ _ _ _ _ _ _ _ HQ
    · exact val_rest7 N INN w0 b s z deep x a1 a2 n1 n2 w hN HE h3 hdp hk _ (Lib.hid (by rw [hk]; unfold Vl.leaf; simp)) HS hlen HX hxb HRD Q _ _ _ _ _ _ _ _ _ _ _ _ _ _ _ _ _ _ _ _ _ _ _ _ _ _ _ _ _ _ _ _ _ _ _ _ _ _ _ _ _ _ _ _ _ _ _ _ _ _ _ _ _ _ _ _ _ _ _ _ _ _ _ _ _ _ _ _ _ _ _ _ _ _ _ _ _ _ _ _ _ _ _ _ _ _ _ _ _ _ _ _ _ _ _ _ _ _ _ _ _ _ _ _ _ _ _ _ _ _ _ _ _ _ _ _ _ _ _ _ _ _ _ _ _ _ _ _ _ _ _ _ _ _ _ _ _ _ _ _ _ _ _ _ _ _ _ _ _ _ _ _ _ _ _ _ _ _ _ _ _ _ _ _ _ _ HQ
  by_cases h8 : z.kind = 8 ∨ z.kind = 9
  · have hr : z.rest deep s = (if (Vl.need (decide (z.text = []) && decide (deep < 16)) s).bad = true then Vl.need (decide (z.text = []) && decide (deep < 16)) s else z.inner (deep + 1) (Vl.need (decide (z.text = []) && decide (deep < 16)) s)) := by unfold Vl.Z.rest; rw [if_neg h1, if_pos h8]
    rw [hr] at HQ
    rcases h8 with hk | hk
    · exact val_rest8 N INN w0 b s z deep x a1 a2 n1 n2 w hN HE h3 hdp hk HS hlen HX hxb HRD Q _ _ _ _ _ _ _ _ _ _ _ _ _ _ _ _ _ _ _ _ _ _ _ _ _ _ _ _ _ _ _ _ _ _ _ _ _ _ _ _ _ _ _ _ _ _ _ _ _ _ _ _ _ _ _ _ _ _ _ _ _ _ _ _ _ _ _ _ _ _ _ _ _ _ _ _ _ _ _ _ _ _ _ _ _ _ _ _ _ _ _ _ _ _ _ _ _ _ _ _ _ _ _ _ _ _ _ _ _ _ _ _ _ _ _ _ _ _ _ _ _ _ _ _ _ _ _ _ _ _ _ _ _ _ _ _ _ _ _ _ _ _ _ _ _ _ _ _ _ _ _ _ _ _ _ _ _ _ _ _ _ _ _ _ _ _ HQ
    · exact val_rest9 N INN w0 b s z deep x a1 a2 n1 n2 w hN HE h3 hdp hk HS hlen HX hxb HRD Q _ _ _ _ _ _ _ _ _ _ _ _ _ _ _ _ _ _ _ _ _ _ _ _ _ _ _ _ _ _ _ _ _ _ _ _ _ _ _ _ _ _ _ _ _ _ _ _ _ _ _ _ _ _ _ _ _ _ _ _ _ _ _ _ _ _ _ _ _ _ _ _ _ _ _ _ _ _ _ _ _ _ _ _ _ _ _ _ _ _ _ _ _ _ _ _ _ _ _ _ _ _ _ _ _ _ _ _ _ _ _ _ _ _ _ _ _ _ _ _ _ _ _ _ _ _ _ _ _ _ _ _ _ _ _ _ _ _ _ _ _ _ _ _ _ _ _ _ _ _ _ _ _ _ _ _ _ _ _ _ _ _ _ _ _ _ HQ
  · have hr : z.rest deep s = Vl.need false s := by unfold Vl.Z.rest; rw [if_neg h1, if_neg h8]
    rw [hr] at HQ
    exact val_rest0 N INN w0 b s z deep x a1 a2 n1 n2 w hN HE h3 hdp (by omega) HS hlen HX hxb HRD Q _ _ _ _ _ _ _ _ _ _ _ _ _ _ _ _ _ _ _ _ _ _ _ _ _ _ _ _ _ _ _ _ _ _ _ _ _ _ _ _ _ _ _ _ _ _ _ _ _ _ _ _ _ _ _ _ _ _ _ _ _ _ _ _ _ _ _ _ _ _ _ _ _ _ _ _ _ _ _ _ _ _ _ _ _ _ _ _ _ _ _ _ _ _ _ _ _ _ _ _ _ _ _ _ _ _ _ _ _ _ _ _ _ _ _ _ _ _ _ _ _ _ _ _ _ _ _ _ _ _ _ _ _ _ _ _ _ _ _ _ _ _ _ _ _ _ _ _ _ _ _ _ _ _ _ _ _ _ _ _ _ _ _ _ _ _ HQ
/-- 'value', of values no greater than N. -/
def ValC (N : Nat) : Prop := ∀ (z : Vl.Z), z.n ≤ N → ∀ (deep : Nat), deep ≤ 16 → ∀ (w0 : World) (b : Nat) (s : Vl.Sh) (a1 a2 : Option Addr) (n1 n2 : Nat) (w : World), Env w0 → 3 ≤ w0.heap.size → SW w0 b s w → s.out.length + z.cost ≤ 1000000000 →
  Reads w0 (fun _ => True) z.d (zcells z a1 a2 n1 n2).toList →
  Calls Tryz.prog 32 #[.pointer (some ⟨b, 0, none⟩), .agg (zcells z a1 a2 n1 n2), .int .i64 deep] w (fun e w' => e = .returned (.tuple #[]) ∧ SW w0 b (z.show deep s) w' ∧ OK8 b w w')
set_option maxHeartbeats 8000000 in
set_option maxRecDepth 100000 in
theorem value_step (N : Nat) (INN : InnC N) : ValC N := by
  intro z hN deep hdp w0 b s a1 a2 n1 n2 w hE h3 hS hlen hR
  unfold zcells
  obtain ⟨w1, hw1⟩ : ∃ v, v = w.alloc (.cells #[.int .i64 z.kind, .string ⟨z.text.toArray⟩, .slice a1 z.items.length n1, .slice a2 z.fields.length n2, .int .i64 z.at_] 25) := ⟨_, rfl⟩
  have hS1 : SW w0 b s w1 := by rw [hw1]; exact hS.alloc _
  have hx1 : w1.heap[w.heap.size]? = some (.cells #[.int .i64 z.kind, .string ⟨z.text.toArray⟩, .slice a1 z.items.length n1, .slice a2 z.fields.length n2, .int .i64 z.at_] 25 (0, 0)) := by rw [hw1]; exact heap_at_new _ _
  have hxb : w.heap.size ≠ b := by have := hS.sh.lt; omega
  have hk1 : OK8 b w w1 := by rw [hw1]; exact ok8_below ((Below.refl _ _).alloc (Nat.le_refl _) _)
  have HSH : Hid (z.show deep s = z.rest deep (Vl.need (Vl.parts z.kind z.items.length z.fields.length) s)) := Lib.hid (Vl.Z.show_rest deep z s)
  have HE := Lib.hid hE
  have HINN := Lib.hid INN
  have HN := Lib.hid hN
  have HLN := Lib.hid hlen
  have HW1 := Lib.hid hw1
  have HS1 := Lib.hid hS1
  have HX1 := Lib.hid hx1
  have HK1 := Lib.hid hk1
  have HRD := Lib.hid hR
  obtain ⟨pt, hpt⟩ : ∃ p, p = Vl.parts z.kind z.items.length z.fields.length := ⟨_, rfl⟩
  rw [← hpt] at HSH
  have HM : Hid (∀ q, q = pt → Calls Tryz.prog 86 #[.pointer (some ⟨b, 0, none⟩), .bool q] w1 fun e w' => e = .returned (.tuple #[]) ∧ SW w0 b (Vl.need pt s) w' ∧ OK8 b w1 w') := Lib.hid (fun q h => by rw [h]; exact HS1.out.need pt)
  have HPT := Lib.hid hpt
  rw [hw1] at HM
  clear hE INN hN hlen hw1 hS1 hx1 hk1 hR hS hpt
  by_cases h8 : z.kind = 8 <;> by_cases h9 : z.kind = 9 <;> by_cases hi : z.items.length = 0 <;> by_cases hf : z.fields.length = 0
  all_goals
    have e8 : (z.kind == 8) = decide (z.kind = 8) := by rw [Bool.eq_iff_iff, beq_iff_eq, decide_eq_true_iff]
    have e9 : (z.kind == 9) = decide (z.kind = 9) := by rw [Bool.eq_iff_iff, beq_iff_eq, decide_eq_true_iff]
    have ei : ((z.items.length : Int) == 0) = decide (z.items.length = 0) := by rw [Bool.eq_iff_iff, beq_iff_eq, decide_eq_true_iff]; omega
    have ef : ((z.fields.length : Int) == 0) = decide (z.fields.length = 0) := by rw [Bool.eq_iff_iff, beq_iff_eq, decide_eq_true_iff]; omega
    have HP2 : Hid (pt = ((decide (z.kind = 8) || decide (z.items.length = 0)) && (decide (z.kind = 9) || decide (z.fields.length = 0)))) := Lib.hid (by rw [HPT.out]; rfl)
    first
      | rw [decide_eq_true h8] at e8 HP2
      | rw [decide_eq_false h8] at e8 HP2
    first
      | rw [decide_eq_true h9] at e9 HP2
      | rw [decide_eq_false h9] at e9 HP2
    first
      | rw [decide_eq_true hi] at ei HP2
      | rw [decide_eq_false hi] at ei HP2
    first
      | rw [decide_eq_true hf] at ef HP2
      | rw [decide_eq_false hf] at ef HP2
    have HP3 := HP2.out
    simp only [Bool.or_true, Bool.true_or, Bool.or_false, Bool.false_or, Bool.and_true, Bool.and_false, Bool.true_and, Bool.false_and, Bool.and_self, Bool.or_self] at HP3
    have HP4 := Lib.hid HP3
    clear h8 h9 hi hf HP3 HP2
    go_enter Tryz.func32, Tryz.ntmps32
    go_wp2_with fail
    refine (HM.out _ HP4.out.symm).mono ?_
    rintro r w2 ⟨rfl, hs2, hk2⟩
    rw [← HW1.out] at hk2
    have HS2 := Lib.hid hs2
    have HK2 : Hid (OK8 b w w2) := Lib.hid (HK1.out.trans hk2)
    have HX2 := Lib.hid (ok8_at hk2 HX1.out hxb (by decide))
    clear hs2 hk2 e8 e9 ei ef
    rename_i QQ K1 hK1 K2 hK2
    refine hK2 _ _ (hK1 _ _ ?_)
    refine val_rest N HINN.out w0 b (Vl.need pt s) z deep w.heap.size a1 a2 n1 n2 w2 HN.out HE h3 hdp HS2 (by rw [Vl.need_out]; exact HLN.out) HX2 hxb HRD _ _ _ _ _ _ _ _ _ _ _ _ _ _ _ _ _ _ _ _ _ _ _ _ _ _ _ _ _ _ _ _ _ _ _ _ _ _ _ _ _ _ _ _ _ _ _ _ _ _ _ _ _ _ _ _ _ _ _ _ _ _ _ _ _ _ _ _ _ _ _ _ _ _ _ _ _ _ _ _ _ _ _ _ _ _ _ _ _ _ _ _ _ _ _ _ _ _ _ _ _ _ _ _ _ _ _ _ _ _ _ _ _ _ _ _ _ _ _ _ _ _ _ _ _ _ _ _ _ _ _ _ _ _ _ _ _ _ _ _ _ _ _ _ _ _ _ _ _ _ _ _ _ _ _ _ _ _ _ _ _ _ _ _ _ _ _ (Lib.hid ?_)
    intro tm w' h1 h2
    go_end0
    exact ⟨rfl, by rw [HSH.out]; exact h1, HK2.out.trans h2⟩
end Go.Proofs.YtefjgpkpplkkgaaGreatDoor
