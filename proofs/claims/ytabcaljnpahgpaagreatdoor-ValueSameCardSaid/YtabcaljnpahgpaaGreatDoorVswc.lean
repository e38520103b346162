/-
  The shower of values: lists, objects, what is none, walked.
-/
import Derived.Test.YtabcaljnpahgpaaGreatDoorVsw
namespace Go.Proofs.YtabcaljnpahgpaaGreatDoor
set_option linter.unusedSimpArgs false
set_option linter.unusedVariables false
open Go Go.RowKit

set_option maxHeartbeats 800000 in
set_option maxRecDepth 100000 in
theorem val_rest8 (N : Nat) (INN : InnC N) (w0 : World) (b : Nat) (s : Vl.Sh) (z : Vl.Z) (deep x : Nat) (a1 a2 : Option Addr) (n1 n2 : Nat) (w : World) (hN : z.n ≤ N) (HE : Hid (Env w0)) (h3 : 3 ≤ w0.heap.size) (hdp : deep ≤ 16) (hk : z.kind = 8)
    (HS : Hid (SW w0 b s w)) (hlen : s.out.length + z.cost ≤ 1000000000) (HX : Hid (w.heap[x]? = some (.cells #[.int .i64 z.kind, .string ⟨z.text.toArray⟩, .slice a1 z.items.length n1, .slice a2 z.fields.length n2, .int .i64 z.at_] 55 (0, 0)))) (hxb : x ≠ b) (HRD : Hid (Reads w0 (fun _ => True) z.d (zcells z a1 a2 n1 n2).toList))
    (Q : Exit → Act → World → Prop) (c3 c5 c6 c7 c8 c9 c10 c11 c12 c13 c14 c15 c16 c17 c18 c19 c20 c21 c22 c23 c24 c25 c26 c27 c28 c29 c30 c31 c32 c33 c34 c35 c36 c37 c38 c39 c40 c41 c42 c43 c44 c45 c46 c47 c48 c49 c50 c51 c52 c53 c54 c55 c56 c57 c58 c59 c60 c61 c62 c63 c64 c65 c66 c67 c68 c69 c70 c71 c72 c73 c74 c75 c76 c77 c78 c79 c80 c81 c82 c83 c84 c85 c86 c87 c88 c89 c90 c91 c92 c93 c94 c95 c96 c97 c98 c99 c100 c101 c102 c103 c104 c105 c106 c107 c108 c109 c110 c111 c112 c113 c114 c115 c116 c117 c118 c119 c120 c121 c122 c123 c124 c125 c126 c127 c128 c129 c130 c131 c132 c133 c134 c135 c136 c137 c138 c139 c140 c141 c142 c143 c144 c145 c146 c147 c148 c149 c150 c151 c152 c153 c154 c155 c156 c157 c158 c159 c160 c161 c162 c163 c164 c165 c166 c167 c168 c169 : Value) (HQ : Hid (∀ (tm : Array Value) (w' : World), SW w0 b (if (Vl.need (decide (z.text = []) && decide (deep < 16)) s).bad = true then Vl.need (decide (z.text = []) && decide (deep < 16)) s else z.inner (deep + 1) (Vl.need (decide (z.text = []) && decide (deep < 16)) s)) w' → OK8 b w w' → Q .normal ⟨tm, []⟩ w')) :
    Code.wp Tryz.prog valRest Q ⟨#[.pointer (some ⟨b, 0, none⟩), .agg #[.int .i64 z.kind, .string ⟨z.text.toArray⟩, .slice a1 z.items.length n1, .slice a2 z.fields.length n2, .int .i64 z.at_], .int .i64 (deep : Nat), c3, .pointer (some ⟨x, 0, none⟩), c5, c6, c7, c8, c9, c10, c11, c12, c13, c14, c15, c16, c17, c18, c19, c20, c21, c22, c23, c24, c25, c26, c27, c28, c29, c30, c31, c32, c33, c34, c35, c36, c37, c38, c39, c40, c41, c42, c43, c44, c45, c46, c47, c48, c49, c50, c51, c52, c53, c54, c55, c56, c57, c58, c59, c60, c61, c62, c63, c64, c65, c66, c67, c68, c69, c70, c71, c72, c73, c74, c75, c76, c77, c78, c79, c80, c81, c82, c83, c84, c85, c86, c87, c88, c89, c90, c91, c92, c93, c94, c95, c96, c97, c98, c99, c100, c101, c102, c103, c104, c105, c106, c107, c108, c109, c110, c111, c112, c113, c114, c115, c116, c117, c118, c119, c120, c121, c122, c123, c124, c125, c126, c127, c128, c129, c130, c131, c132, c133, c134, c135, c136, c137, c138, c139, c140, c141, c142, c143, c144, c145, c146, c147, c148, c149, c150, c151, c152, c153, c154, c155, c156, c157, c158, c159, c160, c161, c162, c163, c164, c165, c166, c167, c168, c169], []⟩ w := by
  have hcost := Vl.Z.cost_eq z
  obtain ⟨F, hF⟩ : ∃ F, F = (if (Vl.need (decide (z.text = []) && decide (deep < 16)) s).bad = true then Vl.need (decide (z.text = []) && decide (deep < 16)) s else z.inner (deep + 1) (Vl.need (decide (z.text = []) && decide (deep < 16)) s)) := ⟨_, rfl⟩
  rw [← hF] at HQ
  have HF := Lib.hid hF
  have HINN := Lib.hid (fun h : deep < 16 => INN z hN (by omega) (deep + 1) (by omega) w0 b)
  have q1 : (z.kind == 1) = false := by rw [beq_eq_false_iff_ne]; omega
  have q2 : (z.kind == 2) = false := by rw [beq_eq_false_iff_ne]; omega
  have q3 : (z.kind == 3) = false := by rw [beq_eq_false_iff_ne]; omega
  have q4 : (z.kind == 4) = false := by rw [beq_eq_false_iff_ne]; omega
  have q5 : (z.kind == 5) = false := by rw [beq_eq_false_iff_ne]; omega
  have q6 : (z.kind == 6) = false := by rw [beq_eq_false_iff_ne]; omega
  have q7 : (z.kind == 7) = false := by rw [beq_eq_false_iff_ne]; omega
  have q8 : (z.kind == 8) = true := by rw [beq_iff_eq]; exact hk
  have q9 : (z.kind == 9) = false := by rw [beq_eq_false_iff_ne]; omega
  have z0 := blk_cell HX.out 0 (.int .i64 z.kind) rfl
  have z1 := blk_cell HX.out 1 (.string ⟨z.text.toArray⟩) rfl
  have z2 := blk_cell HX.out 2 (.slice a1 z.items.length n1) rfl
  have z3 := blk_cell HX.out 3 (.slice a2 z.fields.length n2) rfl
  have z4 := blk_cell HX.out 4 (.int .i64 z.at_) rfl
  clear hF INN hN hk
  conv => arg 2; whnf
  conv => arg 4; zeta
  by_cases ht : z.text = []
  rotate_left
  · have e1 : z.text.isEmpty = false := by cases h : z.text with | nil => exact absurd h ht | cons _ _ => rfl
    have HOK : Hid ((decide (z.text = []) && decide (deep < 16)) = false) := Lib.hid (by rw [decide_eq_false ht]; rfl)
    clear ht
    go_wp2_with fail
    refine (HS.out.need false).mono ?_
    rintro r w2 ⟨rfl, hs2, hk2⟩
    have HS2 := Lib.hid hs2
    have HK2 := Lib.hid hk2
    have HX2 := Lib.hid (ok8_at hk2 HX.out hxb (by decide))
    clear hs2 hk2 z0 z1 z2 z3 z4
    have z0 := blk_cell HX2.out 0 (.int .i64 z.kind) rfl
    have z1 := blk_cell HX2.out 1 (.string ⟨z.text.toArray⟩) rfl
    have z2 := blk_cell HX2.out 2 (.slice a1 z.items.length n1) rfl
    have z3 := blk_cell HX2.out 3 (.slice a2 z.fields.length n2) rfl
    have z4 := blk_cell HX2.out 4 (.int .i64 z.at_) rfl
    have y2 := HS2.out.badCell
    obtain ⟨bd, hbd⟩ : ∃ bd, bd = (Vl.need false s).bad := ⟨_, rfl⟩
    rw [← hbd] at y2
    have HBD := Lib.hid hbd
    clear hbd
    cases bd
    · exfalso; have := HBD.out; simp [Vl.need] at this
    · have HF2 : Hid (F = Vl.need false s) := Lib.hid (by rw [HF.out, HOK.out, if_pos HBD.out.symm])
      go_wp2_with fail
      exact HQ.out _ _ (by rw [HF2.out]; exact HS2.out) HK2.out
  have e1 : z.text.isEmpty = true := by rw [ht]; rfl
  by_cases hd : deep < 16
  · have e2 : decide ((deep : Int) < 16) = true := decide_eq_true (by omega)
    have HOK : Hid ((decide (z.text = []) && decide (deep < 16)) = true) := Lib.hid (by rw [decide_eq_true ht, decide_eq_true hd]; rfl)
    clear ht
    go_wp2_with fail
    refine (HS.out.need true).mono ?_
    rintro r w2 ⟨rfl, hs2, hk2⟩
    have HS2 := Lib.hid hs2
    have HK2 := Lib.hid hk2
    have HX2 := Lib.hid (ok8_at hk2 HX.out hxb (by decide))
    clear hs2 hk2 z0 z1 z2 z3 z4
    have z0 := blk_cell HX2.out 0 (.int .i64 z.kind) rfl
    have z1 := blk_cell HX2.out 1 (.string ⟨z.text.toArray⟩) rfl
    have z2 := blk_cell HX2.out 2 (.slice a1 z.items.length n1) rfl
    have z3 := blk_cell HX2.out 3 (.slice a2 z.fields.length n2) rfl
    have z4 := blk_cell HX2.out 4 (.int .i64 z.at_) rfl
    have y2 := HS2.out.badCell
    obtain ⟨bd, hbd⟩ : ∃ bd, bd = (Vl.need true s).bad := ⟨_, rfl⟩
    rw [← hbd] at y2
    have HBD := Lib.hid hbd
    clear hbd
    cases bd
    · have HF2 : Hid (F = z.inner (deep + 1) (Vl.need true s)) := Lib.hid (by rw [HF.out, HOK.out, if_neg (by rw [← HBD.out]; simp)])
      go_wp2_with fail
      refine (HINN.out hd (Vl.need true s) a1 a2 n1 n2 w2 HE.out h3 HS2.out (by rw [Vl.need_out]; omega) HRD.out).mono ?_
      rintro r w3 ⟨rfl, hs3, hk3⟩
      have HS3 := Lib.hid hs3
      have HK3 : Hid (OK8 b w w3) := Lib.hid (HK2.out.trans hk3)
      clear hs3 hk3
      go_wp2_with fail
      exact HQ.out _ _ (by rw [HF2.out]; exact HS3.out) HK3.out
    · have HF2 : Hid (F = Vl.need true s) := Lib.hid (by rw [HF.out, HOK.out, if_pos HBD.out.symm])
      go_wp2_with fail
      exact HQ.out _ _ (by rw [HF2.out]; exact HS2.out) HK2.out
  · have e2 : decide ((deep : Int) < 16) = false := decide_eq_false (by omega)
    have HOK : Hid ((decide (z.text = []) && decide (deep < 16)) = false) := Lib.hid (by rw [decide_eq_true ht, decide_eq_false hd]; rfl)
    clear ht
    go_wp2_with fail
    refine (HS.out.need false).mono ?_
    rintro r w2 ⟨rfl, hs2, hk2⟩
    have HS2 := Lib.hid hs2
    have HK2 := Lib.hid hk2
    have HX2 := Lib.hid (ok8_at hk2 HX.out hxb (by decide))
    clear hs2 hk2 z0 z1 z2 z3 z4
    have z0 := blk_cell HX2.out 0 (.int .i64 z.kind) rfl
    have z1 := blk_cell HX2.out 1 (.string ⟨z.text.toArray⟩) rfl
    have z2 := blk_cell HX2.out 2 (.slice a1 z.items.length n1) rfl
    have z3 := blk_cell HX2.out 3 (.slice a2 z.fields.length n2) rfl
    have z4 := blk_cell HX2.out 4 (.int .i64 z.at_) rfl
    have y2 := HS2.out.badCell
    obtain ⟨bd, hbd⟩ : ∃ bd, bd = (Vl.need false s).bad := ⟨_, rfl⟩
    rw [← hbd] at y2
    have HBD := Lib.hid hbd
    clear hbd
    cases bd
    · exfalso; have := HBD.out; simp [Vl.need] at this
    · have HF2 : Hid (F = Vl.need false s) := Lib.hid (by rw [HF.out, HOK.out, if_pos HBD.out.symm])
      go_wp2_with fail
      exact HQ.out _ _ (by rw [HF2.out]; exact HS2.out) HK2.out
set_option maxHeartbeats 800000 in
set_option maxRecDepth 100000 in
theorem val_rest9 (N : Nat) (INN : InnC N) (w0 : World) (b : Nat) (s : Vl.Sh) (z : Vl.Z) (deep x : Nat) (a1 a2 : Option Addr) (n1 n2 : Nat) (w : World) (hN : z.n ≤ N) (HE : Hid (Env w0)) (h3 : 3 ≤ w0.heap.size) (hdp : deep ≤ 16) (hk : z.kind = 9)
    (HS : Hid (SW w0 b s w)) (hlen : s.out.length + z.cost ≤ 1000000000) (HX : Hid (w.heap[x]? = some (.cells #[.int .i64 z.kind, .string ⟨z.text.toArray⟩, .slice a1 z.items.length n1, .slice a2 z.fields.length n2, .int .i64 z.at_] 55 (0, 0)))) (hxb : x ≠ b) (HRD : Hid (Reads w0 (fun _ => True) z.d (zcells z a1 a2 n1 n2).toList))
    (Q : Exit → Act → World → Prop) (c3 c5 c6 c7 c8 c9 c10 c11 c12 c13 c14 c15 c16 c17 c18 c19 c20 c21 c22 c23 c24 c25 c26 c27 c28 c29 c30 c31 c32 c33 c34 c35 c36 c37 c38 c39 c40 c41 c42 c43 c44 c45 c46 c47 c48 c49 c50 c51 c52 c53 c54 c55 c56 c57 c58 c59 c60 c61 c62 c63 c64 c65 c66 c67 c68 c69 c70 c71 c72 c73 c74 c75 c76 c77 c78 c79 c80 c81 c82 c83 c84 c85 c86 c87 c88 c89 c90 c91 c92 c93 c94 c95 c96 c97 c98 c99 c100 c101 c102 c103 c104 c105 c106 c107 c108 c109 c110 c111 c112 c113 c114 c115 c116 c117 c118 c119 c120 c121 c122 c123 c124 c125 c126 c127 c128 c129 c130 c131 c132 c133 c134 c135 c136 c137 c138 c139 c140 c141 c142 c143 c144 c145 c146 c147 c148 c149 c150 c151 c152 c153 c154 c155 c156 c157 c158 c159 c160 c161 c162 c163 c164 c165 c166 c167 c168 c169 : Value) (HQ : Hid (∀ (tm : Array Value) (w' : World), SW w0 b (if (Vl.need (decide (z.text = []) && decide (deep < 16)) s).bad = true then Vl.need (decide (z.text = []) && decide (deep < 16)) s else z.inner (deep + 1) (Vl.need (decide (z.text = []) && decide (deep < 16)) s)) w' → OK8 b w w' → Q .normal ⟨tm, []⟩ w')) :
    Code.wp Tryz.prog valRest Q ⟨#[.pointer (some ⟨b, 0, none⟩), .agg #[.int .i64 z.kind, .string ⟨z.text.toArray⟩, .slice a1 z.items.length n1, .slice a2 z.fields.length n2, .int .i64 z.at_], .int .i64 (deep : Nat), c3, .pointer (some ⟨x, 0, none⟩), c5, c6, c7, c8, c9, c10, c11, c12, c13, c14, c15, c16, c17, c18, c19, c20, c21, c22, c23, c24, c25, c26, c27, c28, c29, c30, c31, c32, c33, c34, c35, c36, c37, c38, c39, c40, c41, c42, c43, c44, c45, c46, c47, c48, c49, c50, c51, c52, c53, c54, c55, c56, c57, c58, c59, c60, c61, c62, c63, c64, c65, c66, c67, c68, c69, c70, c71, c72, c73, c74, c75, c76, c77, c78, c79, c80, c81, c82, c83, c84, c85, c86, c87, c88, c89, c90, c91, c92, c93, c94, c95, c96, c97, c98, c99, c100, c101, c102, c103, c104, c105, c106, c107, c108, c109, c110, c111, c112, c113, c114, c115, c116, c117, c118, c119, c120, c121, c122, c123, c124, c125, c126, c127, c128, c129, c130, c131, c132, c133, c134, c135, c136, c137, c138, c139, c140, c141, c142, c143, c144, c145, c146, c147, c148, c149, c150, c151, c152, c153, c154, c155, c156, c157, c158, c159, c160, c161, c162, c163, c164, c165, c166, c167, c168, c169], []⟩ w := by
  have hcost := Vl.Z.cost_eq z
  obtain ⟨F, hF⟩ : ∃ F, F = (if (Vl.need (decide (z.text = []) && decide (deep < 16)) s).bad = true then Vl.need (decide (z.text = []) && decide (deep < 16)) s else z.inner (deep + 1) (Vl.need (decide (z.text = []) && decide (deep < 16)) s)) := ⟨_, rfl⟩
  rw [← hF] at HQ
  have HF := Lib.hid hF
  have HINN := Lib.hid (fun h : deep < 16 => INN z hN (by omega) (deep + 1) (by omega) w0 b)
  have q1 : (z.kind == 1) = false := by rw [beq_eq_false_iff_ne]; omega
  have q2 : (z.kind == 2) = false := by rw [beq_eq_false_iff_ne]; omega
  have q3 : (z.kind == 3) = false := by rw [beq_eq_false_iff_ne]; omega
  have q4 : (z.kind == 4) = false := by rw [beq_eq_false_iff_ne]; omega
  have q5 : (z.kind == 5) = false := by rw [beq_eq_false_iff_ne]; omega
  have q6 : (z.kind == 6) = false := by rw [beq_eq_false_iff_ne]; omega
  have q7 : (z.kind == 7) = false := by rw [beq_eq_false_iff_ne]; omega
  have q8 : (z.kind == 8) = false := by rw [beq_eq_false_iff_ne]; omega
  have q9 : (z.kind == 9) = true := by rw [beq_iff_eq]; exact hk
  have z0 := blk_cell HX.out 0 (.int .i64 z.kind) rfl
  have z1 := blk_cell HX.out 1 (.string ⟨z.text.toArray⟩) rfl
  have z2 := blk_cell HX.out 2 (.slice a1 z.items.length n1) rfl
  have z3 := blk_cell HX.out 3 (.slice a2 z.fields.length n2) rfl
  have z4 := blk_cell HX.out 4 (.int .i64 z.at_) rfl
  clear hF INN hN hk
  conv => arg 2; whnf
  conv => arg 4; zeta
  by_cases ht : z.text = []
  rotate_left
  · have e1 : z.text.isEmpty = false := by cases h : z.text with | nil => exact absurd h ht | cons _ _ => rfl
    have HOK : Hid ((decide (z.text = []) && decide (deep < 16)) = false) := Lib.hid (by rw [decide_eq_false ht]; rfl)
    clear ht
    go_wp2_with fail
    refine (HS.out.need false).mono ?_
    rintro r w2 ⟨rfl, hs2, hk2⟩
    have HS2 := Lib.hid hs2
    have HK2 := Lib.hid hk2
    have HX2 := Lib.hid (ok8_at hk2 HX.out hxb (by decide))
    clear hs2 hk2 z0 z1 z2 z3 z4
    have z0 := blk_cell HX2.out 0 (.int .i64 z.kind) rfl
    have z1 := blk_cell HX2.out 1 (.string ⟨z.text.toArray⟩) rfl
    have z2 := blk_cell HX2.out 2 (.slice a1 z.items.length n1) rfl
    have z3 := blk_cell HX2.out 3 (.slice a2 z.fields.length n2) rfl
    have z4 := blk_cell HX2.out 4 (.int .i64 z.at_) rfl
    have y2 := HS2.out.badCell
    obtain ⟨bd, hbd⟩ : ∃ bd, bd = (Vl.need false s).bad := ⟨_, rfl⟩
    rw [← hbd] at y2
    have HBD := Lib.hid hbd
    clear hbd
    cases bd
    · exfalso; have := HBD.out; simp [Vl.need] at this
    · have HF2 : Hid (F = Vl.need false s) := Lib.hid (by rw [HF.out, HOK.out, if_pos HBD.out.symm])
      go_wp2_with fail
      exact HQ.out _ _ (by rw [HF2.out]; exact HS2.out) HK2.out
  have e1 : z.text.isEmpty = true := by rw [ht]; rfl
  by_cases hd : deep < 16
  · have e2 : decide ((deep : Int) < 16) = true := decide_eq_true (by omega)
    have HOK : Hid ((decide (z.text = []) && decide (deep < 16)) = true) := Lib.hid (by rw [decide_eq_true ht, decide_eq_true hd]; rfl)
    clear ht
    go_wp2_with fail
    refine (HS.out.need true).mono ?_
    rintro r w2 ⟨rfl, hs2, hk2⟩
    have HS2 := Lib.hid hs2
    have HK2 := Lib.hid hk2
    have HX2 := Lib.hid (ok8_at hk2 HX.out hxb (by decide))
    clear hs2 hk2 z0 z1 z2 z3 z4
    have z0 := blk_cell HX2.out 0 (.int .i64 z.kind) rfl
    have z1 := blk_cell HX2.out 1 (.string ⟨z.text.toArray⟩) rfl
    have z2 := blk_cell HX2.out 2 (.slice a1 z.items.length n1) rfl
    have z3 := blk_cell HX2.out 3 (.slice a2 z.fields.length n2) rfl
    have z4 := blk_cell HX2.out 4 (.int .i64 z.at_) rfl
    have y2 := HS2.out.badCell
    obtain ⟨bd, hbd⟩ : ∃ bd, bd = (Vl.need true s).bad := ⟨_, rfl⟩
    rw [← hbd] at y2
    have HBD := Lib.hid hbd
    clear hbd
    cases bd
    · have HF2 : Hid (F = z.inner (deep + 1) (Vl.need true s)) := Lib.hid (by rw [HF.out, HOK.out, if_neg (by rw [← HBD.out]; simp)])
      go_wp2_with fail
      refine (HINN.out hd (Vl.need true s) a1 a2 n1 n2 w2 HE.out h3 HS2.out (by rw [Vl.need_out]; omega) HRD.out).mono ?_
      rintro r w3 ⟨rfl, hs3, hk3⟩
      have HS3 := Lib.hid hs3
      have HK3 : Hid (OK8 b w w3) := Lib.hid (HK2.out.trans hk3)
      clear hs3 hk3
      go_wp2_with fail
      exact HQ.out _ _ (by rw [HF2.out]; exact HS3.out) HK3.out
    · have HF2 : Hid (F = Vl.need true s) := Lib.hid (by rw [HF.out, HOK.out, if_pos HBD.out.symm])
      go_wp2_with fail
      exact HQ.out _ _ (by rw [HF2.out]; exact HS2.out) HK2.out
  · have e2 : decide ((deep : Int) < 16) = false := decide_eq_false (by omega)
    have HOK : Hid ((decide (z.text = []) && decide (deep < 16)) = false) := Lib.hid (by rw [decide_eq_true ht, decide_eq_false hd]; rfl)
    clear ht
    go_wp2_with fail
    refine (HS.out.need false).mono ?_
    rintro r w2 ⟨rfl, hs2, hk2⟩
    have HS2 := Lib.hid hs2
    have HK2 := Lib.hid hk2
    have HX2 := Lib.hid (ok8_at hk2 HX.out hxb (by decide))
    clear hs2 hk2 z0 z1 z2 z3 z4
    have z0 := blk_cell HX2.out 0 (.int .i64 z.kind) rfl
    have z1 := blk_cell HX2.out 1 (.string ⟨z.text.toArray⟩) rfl
    have z2 := blk_cell HX2.out 2 (.slice a1 z.items.length n1) rfl
    have z3 := blk_cell HX2.out 3 (.slice a2 z.fields.length n2) rfl
    have z4 := blk_cell HX2.out 4 (.int .i64 z.at_) rfl
    have y2 := HS2.out.badCell
    obtain ⟨bd, hbd⟩ : ∃ bd, bd = (Vl.need false s).bad := ⟨_, rfl⟩
    rw [← hbd] at y2
    have HBD := Lib.hid hbd
    clear hbd
    cases bd
    · exfalso; have := HBD.out; simp [Vl.need] at this
    · have HF2 : Hid (F = Vl.need false s) := Lib.hid (by rw [HF.out, HOK.out, if_pos HBD.out.symm])
      go_wp2_with fail
      exact HQ.out _ _ (by rw [HF2.out]; exact HS2.out) HK2.out
set_option maxHeartbeats 800000 in
set_option maxRecDepth 100000 in
theorem val_rest0 (N : Nat) (INN : InnC N) (w0 : World) (b : Nat) (s : Vl.Sh) (z : Vl.Z) (deep x : Nat) (a1 a2 : Option Addr) (n1 n2 : Nat) (w : World) (hN : z.n ≤ N) (HE : Hid (Env w0)) (h3 : 3 ≤ w0.heap.size) (hdp : deep ≤ 16) (hk : ¬ (1 ≤ z.kind ∧ z.kind ≤ 9))
    (HS : Hid (SW w0 b s w)) (hlen : s.out.length + z.cost ≤ 1000000000) (HX : Hid (w.heap[x]? = some (.cells #[.int .i64 z.kind, .string ⟨z.text.toArray⟩, .slice a1 z.items.length n1, .slice a2 z.fields.length n2, .int .i64 z.at_] 55 (0, 0)))) (hxb : x ≠ b) (HRD : Hid (Reads w0 (fun _ => True) z.d (zcells z a1 a2 n1 n2).toList))
    (Q : Exit → Act → World → Prop) (c3 c5 c6 c7 c8 c9 c10 c11 c12 c13 c14 c15 c16 c17 c18 c19 c20 c21 c22 c23 c24 c25 c26 c27 c28 c29 c30 c31 c32 c33 c34 c35 c36 c37 c38 c39 c40 c41 c42 c43 c44 c45 c46 c47 c48 c49 c50 c51 c52 c53 c54 c55 c56 c57 c58 c59 c60 c61 c62 c63 c64 c65 c66 c67 c68 c69 c70 c71 c72 c73 c74 c75 c76 c77 c78 c79 c80 c81 c82 c83 c84 c85 c86 c87 c88 c89 c90 c91 c92 c93 c94 c95 c96 c97 c98 c99 c100 c101 c102 c103 c104 c105 c106 c107 c108 c109 c110 c111 c112 c113 c114 c115 c116 c117 c118 c119 c120 c121 c122 c123 c124 c125 c126 c127 c128 c129 c130 c131 c132 c133 c134 c135 c136 c137 c138 c139 c140 c141 c142 c143 c144 c145 c146 c147 c148 c149 c150 c151 c152 c153 c154 c155 c156 c157 c158 c159 c160 c161 c162 c163 c164 c165 c166 c167 c168 c169 : Value) (HQ : Hid (∀ (tm : Array Value) (w' : World), SW w0 b (Vl.need false s) w' → OK8 b w w' → Q .normal ⟨tm, []⟩ w')) :
    Code.wp Tryz.prog valRest Q ⟨#[.pointer (some ⟨b, 0, none⟩), .agg #[.int .i64 z.kind, .string ⟨z.text.toArray⟩, .slice a1 z.items.length n1, .slice a2 z.fields.length n2, .int .i64 z.at_], .int .i64 (deep : Nat), c3, .pointer (some ⟨x, 0, none⟩), c5, c6, c7, c8, c9, c10, c11, c12, c13, c14, c15, c16, c17, c18, c19, c20, c21, c22, c23, c24, c25, c26, c27, c28, c29, c30, c31, c32, c33, c34, c35, c36, c37, c38, c39, c40, c41, c42, c43, c44, c45, c46, c47, c48, c49, c50, c51, c52, c53, c54, c55, c56, c57, c58, c59, c60, c61, c62, c63, c64, c65, c66, c67, c68, c69, c70, c71, c72, c73, c74, c75, c76, c77, c78, c79, c80, c81, c82, c83, c84, c85, c86, c87, c88, c89, c90, c91, c92, c93, c94, c95, c96, c97, c98, c99, c100, c101, c102, c103, c104, c105, c106, c107, c108, c109, c110, c111, c112, c113, c114, c115, c116, c117, c118, c119, c120, c121, c122, c123, c124, c125, c126, c127, c128, c129, c130, c131, c132, c133, c134, c135, c136, c137, c138, c139, c140, c141, c142, c143, c144, c145, c146, c147, c148, c149, c150, c151, c152, c153, c154, c155, c156, c157, c158, c159, c160, c161, c162, c163, c164, c165, c166, c167, c168, c169], []⟩ w := by
  have hcost := Vl.Z.cost_eq z
  have q1 : (z.kind == 1) = false := by rw [beq_eq_false_iff_ne]; omega
  have q2 : (z.kind == 2) = false := by rw [beq_eq_false_iff_ne]; omega
  have q3 : (z.kind == 3) = false := by rw [beq_eq_false_iff_ne]; omega
  have q4 : (z.kind == 4) = false := by rw [beq_eq_false_iff_ne]; omega
  have q5 : (z.kind == 5) = false := by rw [beq_eq_false_iff_ne]; omega
  have q6 : (z.kind == 6) = false := by rw [beq_eq_false_iff_ne]; omega
  have q7 : (z.kind == 7) = false := by rw [beq_eq_false_iff_ne]; omega
  have q8 : (z.kind == 8) = false := by rw [beq_eq_false_iff_ne]; omega
  have q9 : (z.kind == 9) = false := by rw [beq_eq_false_iff_ne]; omega
  have z0 := blk_cell HX.out 0 (.int .i64 z.kind) rfl
  have z1 := blk_cell HX.out 1 (.string ⟨z.text.toArray⟩) rfl
  have z2 := blk_cell HX.out 2 (.slice a1 z.items.length n1) rfl
  have z3 := blk_cell HX.out 3 (.slice a2 z.fields.length n2) rfl
  have z4 := blk_cell HX.out 4 (.int .i64 z.at_) rfl
  clear INN hN hk
  conv => arg 2; whnf
  conv => arg 4; zeta
  go_wp2_with fail
  refine (HS.out.need false).mono ?_
  rintro r w2 ⟨rfl, hs2, hk2⟩
  have HS2 := Lib.hid hs2
  have HK2 := Lib.hid hk2
  clear hs2 hk2
  go_wp2_with fail
  exact HQ.out _ _ HS2.out HK2.out
end Go.Proofs.YtabcaljnpahgpaaGreatDoor
