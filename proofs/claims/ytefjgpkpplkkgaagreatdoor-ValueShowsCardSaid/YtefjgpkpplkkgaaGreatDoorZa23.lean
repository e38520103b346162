/-
  The shower of values: variables, numbers, strings, walked. The shower of values: true, false, null, enums' names, walked.
-/
import Derived.Test.YtefjgpkpplkkgaaGreatDoorZa22
namespace Go.Proofs.YtefjgpkpplkkgaaGreatDoor
set_option linter.unusedSimpArgs false
set_option linter.unusedVariables false
open Go Go.RowKit

set_option maxHeartbeats 800000 in
set_option maxRecDepth 100000 in
theorem val_rest1 (N : Nat) (INN : InnC N) (w0 : World) (b : Nat) (s : Vl.Sh) (z : Vl.Z) (deep x : Nat) (a1 a2 : Option Addr) (n1 n2 : Nat) (w : World) (hN : z.n ≤ N) (HE : Hid (Env w0)) (h3 : 3 ≤ w0.heap.size) (hdp : deep ≤ 16) (hk : z.kind = 1) (L : Bool × List UInt8) (HLF : Hid (L = (Lx.isName z.text, 36 :: z.text)))
    (HS : Hid (SW w0 b s w)) (hlen : s.out.length + z.cost ≤ 1000000000) (HX : Hid (w.heap[x]? = some (.cells #[.int .i64 z.kind, .string ⟨z.text.toArray⟩, .slice a1 z.items.length n1, .slice a2 z.fields.length n2, .int .i64 z.at_] 25 (0, 0)))) (hxb : x ≠ b) (HRD : Hid (Reads w0 (fun _ => True) z.d (zcells z a1 a2 n1 n2).toList))
    (Q : Exit → Act → World → Prop) (c3 c5 c6 c7 c8 c9 c10 c11 c12 c13 c14 c15 c16 c17 c18 c19 c20 c21 c22 c23 c24 c25 c26 c27 c28 c29 c30 c31 c32 c33 c34 c35 c36 c37 c38 c39 c40 c41 c42 c43 c44 c45 c46 c47 c48 c49 c50 c51 c52 c53 c54 c55 c56 c57 c58 c59 c60 c61 c62 c63 c64 c65 c66 c67 c68 c69 c70 c71 c72 c73 c74 c75 c76 c77 c78 c79 c80 c81 c82 c83 c84 c85 c86 c87 c88 c89 c90 c91 c92 c93 c94 c95 c96 c97 c98 c99 c100 c101 c102 c103 c104 c105 c106 c107 c108 c109 c110 c111 c112 c113 c114 c115 c116 c117 c118 c119 c120 c121 c122 c123 c124 c125 c126 c127 c128 c129 c130 c131 c132 c133 c134 c135 c136 c137 c138 c139 c140 c141 c142 c143 c144 c145 c146 c147 c148 c149 c150 c151 c152 c153 c154 c155 c156 c157 c158 c159 c160 c161 c162 c163 c164 c165 c166 c167 c168 c169 : Value) (HQ : Hid (∀ (tm : Array Value) (w' : World), SW w0 b (Vl.put L.2 (Vl.need L.1 s)) w' → OK8 b w w' → Q .normal ⟨tm, []⟩ w')) :
    Code.wp Tryz.prog valRest Q ⟨#[.pointer (some ⟨b, 0, none⟩), .agg #[.int .i64 z.kind, .string ⟨z.text.toArray⟩, .slice a1 z.items.length n1, .slice a2 z.fields.length n2, .int .i64 z.at_], .int .i64 (deep : Nat), c3, .pointer (some ⟨x, 0, none⟩), c5, c6, c7, c8, c9, c10, c11, c12, c13, c14, c15, c16, c17, c18, c19, c20, c21, c22, c23, c24, c25, c26, c27, c28, c29, c30, c31, c32, c33, c34, c35, c36, c37, c38, c39, c40, c41, c42, c43, c44, c45, c46, c47, c48, c49, c50, c51, c52, c53, c54, c55, c56, c57, c58, c59, c60, c61, c62, c63, c64, c65, c66, c67, c68, c69, c70, c71, c72, c73, c74, c75, c76, c77, c78, c79, c80, c81, c82, c83, c84, c85, c86, c87, c88, c89, c90, c91, c92, c93, c94, c95, c96, c97, c98, c99, c100, c101, c102, c103, c104, c105, c106, c107, c108, c109, c110, c111, c112, c113, c114, c115, c116, c117, c118, c119, c120, c121, c122, c123, c124, c125, c126, c127, c128, c129, c130, c131, c132, c133, c134, c135, c136, c137, c138, c139, c140, c141, c142, c143, c144, c145, c146, c147, c148, c149, c150, c151, c152, c153, c154, c155, c156, c157, c158, c159, c160, c161, c162, c163, c164, c165, c166, c167, c168, c169], []⟩ w := by
  have hcost := Vl.Z.cost_eq z
  have HT2 : Hid (L.2 = (36 :: z.text)) := Lib.hid (by rw [HLF.out])
  have q1 : (z.kind == 1) = true := by rw [beq_iff_eq]; exact hk
  have q2 : (z.kind == 2) = false := by rw [beq_eq_false_iff_ne]; omega
  have q3 : (z.kind == 3) = false := by rw [beq_eq_false_iff_ne]; omega
  have q4 : (z.kind == 4) = false := by rw [beq_eq_false_iff_ne]; omega
  have q5 : (z.kind == 5) = false := by rw [beq_eq_false_iff_ne]; omega
  have q6 : (z.kind == 6) = false := by rw [beq_eq_false_iff_ne]; omega
  have q7 : (z.kind == 7) = false := by rw [beq_eq_false_iff_ne]; omega
  have q8 : (z.kind == 8) = false := by rw [beq_eq_false_iff_ne]; omega
  have q9 : (z.kind == 9) = false := by rw [beq_eq_false_iff_ne]; omega
  have hz : z.text.length ≤ 1000000000 := by omega
  clear hk hN INN HRD
  have z0 := blk_cell HX.out 0 (.int .i64 z.kind) rfl
  have z1 := blk_cell HX.out 1 (.string ⟨z.text.toArray⟩) rfl
  have z2 := blk_cell HX.out 2 (.slice a1 z.items.length n1) rfl
  have z3 := blk_cell HX.out 3 (.slice a2 z.fields.length n2) rfl
  have z4 := blk_cell HX.out 4 (.int .i64 z.at_) rfl
  have HEW := Lib.hid (HE.out.below HS.out.bel)
  have h3w : 3 ≤ w.heap.size := by have := HS.out.bel.size; omega
  have HK0 : Hid (OK8 b w w) := Lib.hid (Lib.OthersKept.refl _ _ w)
  conv => arg 2; whnf
  conv => arg 4; zeta
  obtain ⟨ok, hok⟩ : ∃ ok, ok = Lx.isName z.text := ⟨_, rfl⟩
  have HOK : Hid (ok = L.1) := Lib.hid (by rw [hok, HLF.out])
  have HC : Hid (Calls Tryz.prog 87 #[.string ⟨z.text.toArray⟩] w fun e w' => e = .returned (.bool ok) ∧ Below w.heap.size w w') := Lib.hid ((lexName_any ⟨z.text.toArray⟩ w (by show z.text.length ≤ _; omega)).mono (by rintro e w' ⟨rfl, rfl⟩; exact ⟨by rw [hok], Below.refl _ _⟩))
  clear hok
  go_wp2_with fail
  refine HC.out.mono ?_
  rintro r w1 ⟨rfl, hb1⟩
  have HS1 := Lib.hid (HS.out.below hb1)
  have HX1 := Lib.hid ((hb1.block x (sh_lt HX.out)).trans HX.out)
  have HK1 := Lib.hid (ok8_below (b := b) hb1)
  clear hb1 z0 z1 z2 z3 z4 HC
  go_wp2_with fail
  refine (HS1.out.need ok).mono ?_
  rintro r w2 ⟨rfl, hs2, hk2⟩
  rw [HOK.out] at hs2
  have HS2 := Lib.hid hs2
  have HK2 := Lib.hid (HK1.out.trans hk2)
  have HX2 := Lib.hid (ok8_at hk2 HX1.out hxb (by decide))
  clear hs2 hk2
  have y1 := blk_cell HX2.out 1 (.string ⟨z.text.toArray⟩) rfl
  go_wp2_with fail
  refine wp_region_cuts [6] (by kernel_rfl) (by kernel_rfl) ?_; simp only [wpMix, List.take_succ_cons, List.take_zero, List.drop_succ_cons, List.drop_zero, Nat.sub_zero, Nat.reduceSub, Nat.reduceAdd]
  repeat (go_big_quiet_step (fail))
  refine wpQuiet_nil ?_; rintro _ ⟨nq, rfl⟩
  go_wp2_with fail
  rw [vdollar z.text]
  refine ((HS2.out.drewN nq).str (36 :: z.text) (by rw [Vl.need_out]; simp only [List.length_cons]; omega)).mono ?_
  rintro r w3 ⟨⟨m, rfl⟩, hs3, hk3⟩
  have HS3 := Lib.hid hs3
  have HK3 : Hid (OK8 b w w3) := Lib.hid (HK2.out.trans hk3)
  clear hs3 hk3
  go_wp2
  refine wpQuiet_nil ?_
  rintro _ ⟨nr, rfl⟩
  go_wp2
  exact HQ.out _ _ (by rw [HT2.out]; exact HS3.out.drewN nr) HK3.out
set_option maxHeartbeats 800000 in
set_option maxRecDepth 100000 in
theorem val_rest2 (N : Nat) (INN : InnC N) (w0 : World) (b : Nat) (s : Vl.Sh) (z : Vl.Z) (deep x : Nat) (a1 a2 : Option Addr) (n1 n2 : Nat) (w : World) (hN : z.n ≤ N) (HE : Hid (Env w0)) (h3 : 3 ≤ w0.heap.size) (hdp : deep ≤ 16) (hk : z.kind = 2) (L : Bool × List UInt8) (HLF : Hid (L = (Vl.one z.text 2, z.text)))
    (HS : Hid (SW w0 b s w)) (hlen : s.out.length + z.cost ≤ 1000000000) (HX : Hid (w.heap[x]? = some (.cells #[.int .i64 z.kind, .string ⟨z.text.toArray⟩, .slice a1 z.items.length n1, .slice a2 z.fields.length n2, .int .i64 z.at_] 25 (0, 0)))) (hxb : x ≠ b) (HRD : Hid (Reads w0 (fun _ => True) z.d (zcells z a1 a2 n1 n2).toList))
    (Q : Exit → Act → World → Prop) (c3 c5 c6 c7 c8 c9 c10 c11 c12 c13 c14 c15 c16 c17 c18 c19 c20 c21 c22 c23 c24 c25 c26 c27 c28 c29 c30 c31 c32 c33 c34 c35 c36 c37 c38 c39 c40 c41 c42 c43 c44 c45 c46 c47 c48 c49 c50 c51 c52 c53 c54 c55 c56 c57 c58 c59 c60 c61 c62 c63 c64 c65 c66 c67 c68 c69 c70 c71 c72 c73 c74 c75 c76 c77 c78 c79 c80 c81 c82 c83 c84 c85 c86 c87 c88 c89 c90 c91 c92 c93 c94 c95 c96 c97 c98 c99 c100 c101 c102 c103 c104 c105 c106 c107 c108 c109 c110 c111 c112 c113 c114 c115 c116 c117 c118 c119 c120 c121 c122 c123 c124 c125 c126 c127 c128 c129 c130 c131 c132 c133 c134 c135 c136 c137 c138 c139 c140 c141 c142 c143 c144 c145 c146 c147 c148 c149 c150 c151 c152 c153 c154 c155 c156 c157 c158 c159 c160 c161 c162 c163 c164 c165 c166 c167 c168 c169 : Value) (HQ : Hid (∀ (tm : Array Value) (w' : World), SW w0 b (Vl.put L.2 (Vl.need L.1 s)) w' → OK8 b w w' → Q .normal ⟨tm, []⟩ w')) :
    Code.wp Tryz.prog valRest Q ⟨#[.pointer (some ⟨b, 0, none⟩), .agg #[.int .i64 z.kind, .string ⟨z.text.toArray⟩, .slice a1 z.items.length n1, .slice a2 z.fields.length n2, .int .i64 z.at_], .int .i64 (deep : Nat), c3, .pointer (some ⟨x, 0, none⟩), c5, c6, c7, c8, c9, c10, c11, c12, c13, c14, c15, c16, c17, c18, c19, c20, c21, c22, c23, c24, c25, c26, c27, c28, c29, c30, c31, c32, c33, c34, c35, c36, c37, c38, c39, c40, c41, c42, c43, c44, c45, c46, c47, c48, c49, c50, c51, c52, c53, c54, c55, c56, c57, c58, c59, c60, c61, c62, c63, c64, c65, c66, c67, c68, c69, c70, c71, c72, c73, c74, c75, c76, c77, c78, c79, c80, c81, c82, c83, c84, c85, c86, c87, c88, c89, c90, c91, c92, c93, c94, c95, c96, c97, c98, c99, c100, c101, c102, c103, c104, c105, c106, c107, c108, c109, c110, c111, c112, c113, c114, c115, c116, c117, c118, c119, c120, c121, c122, c123, c124, c125, c126, c127, c128, c129, c130, c131, c132, c133, c134, c135, c136, c137, c138, c139, c140, c141, c142, c143, c144, c145, c146, c147, c148, c149, c150, c151, c152, c153, c154, c155, c156, c157, c158, c159, c160, c161, c162, c163, c164, c165, c166, c167, c168, c169], []⟩ w := by
  have hcost := Vl.Z.cost_eq z
  have HT2 : Hid (L.2 = z.text) := Lib.hid (by rw [HLF.out])
  have q1 : (z.kind == 1) = false := by rw [beq_eq_false_iff_ne]; omega
  have q2 : (z.kind == 2) = true := by rw [beq_iff_eq]; exact hk
  have q3 : (z.kind == 3) = false := by rw [beq_eq_false_iff_ne]; omega
  have q4 : (z.kind == 4) = false := by rw [beq_eq_false_iff_ne]; omega
  have q5 : (z.kind == 5) = false := by rw [beq_eq_false_iff_ne]; omega
  have q6 : (z.kind == 6) = false := by rw [beq_eq_false_iff_ne]; omega
  have q7 : (z.kind == 7) = false := by rw [beq_eq_false_iff_ne]; omega
  have q8 : (z.kind == 8) = false := by rw [beq_eq_false_iff_ne]; omega
  have q9 : (z.kind == 9) = false := by rw [beq_eq_false_iff_ne]; omega
  have hz : z.text.length ≤ 1000000000 := by omega
  clear hk hN INN HRD
  have z0 := blk_cell HX.out 0 (.int .i64 z.kind) rfl
  have z1 := blk_cell HX.out 1 (.string ⟨z.text.toArray⟩) rfl
  have z2 := blk_cell HX.out 2 (.slice a1 z.items.length n1) rfl
  have z3 := blk_cell HX.out 3 (.slice a2 z.fields.length n2) rfl
  have z4 := blk_cell HX.out 4 (.int .i64 z.at_) rfl
  have HEW := Lib.hid (HE.out.below HS.out.bel)
  have h3w : 3 ≤ w.heap.size := by have := HS.out.bel.size; omega
  have HK0 : Hid (OK8 b w w) := Lib.hid (Lib.OthersKept.refl _ _ w)
  conv => arg 2; whnf
  conv => arg 4; zeta
  obtain ⟨ok, hok⟩ : ∃ ok, ok = Vl.one z.text 2 := ⟨_, rfl⟩
  have HOK : Hid (ok = L.1) := Lib.hid (by rw [hok, HLF.out])
  have HC : Hid (Calls Tryz.prog 89 #[.string ⟨z.text.toArray⟩, .int .i64 (2 : Nat)] w fun e w' => e = .returned (.bool ok) ∧ Below w.heap.size w w') := Lib.hid (by rw [hok]; exact vone_any z.text 2 w (by omega) HEW.out h3w)
  clear hok
  go_wp2_with fail
  refine HC.out.mono ?_
  rintro r w1 ⟨rfl, hb1⟩
  have HS1 := Lib.hid (HS.out.below hb1)
  have HX1 := Lib.hid ((hb1.block x (sh_lt HX.out)).trans HX.out)
  have HK1 := Lib.hid (ok8_below (b := b) hb1)
  clear hb1 z0 z1 z2 z3 z4 HC
  go_wp2_with fail
  refine (HS1.out.need ok).mono ?_
  rintro r w2 ⟨rfl, hs2, hk2⟩
  rw [HOK.out] at hs2
  have HS2 := Lib.hid hs2
  have HK2 := Lib.hid (HK1.out.trans hk2)
  have HX2 := Lib.hid (ok8_at hk2 HX1.out hxb (by decide))
  clear hs2 hk2
  have y1 := blk_cell HX2.out 1 (.string ⟨z.text.toArray⟩) rfl
  go_wp2_with fail
  refine wp_region_cuts [5] (by kernel_rfl) (by kernel_rfl) ?_; simp only [wpMix, List.take_succ_cons, List.take_zero, List.drop_succ_cons, List.drop_zero, Nat.sub_zero, Nat.reduceSub, Nat.reduceAdd]
  repeat (go_big_quiet_step (fail))
  refine wpQuiet_nil ?_; rintro _ ⟨nq, rfl⟩
  go_wp2_with fail
  refine ((HS2.out.drewN nq).str z.text (by rw [Vl.need_out]; omega)).mono ?_
  rintro r w3 ⟨⟨m, rfl⟩, hs3, hk3⟩
  have HS3 := Lib.hid hs3
  have HK3 : Hid (OK8 b w w3) := Lib.hid (HK2.out.trans hk3)
  clear hs3 hk3
  go_wp2
  refine wpQuiet_nil ?_
  rintro _ ⟨nr, rfl⟩
  go_wp2
  exact HQ.out _ _ (by rw [HT2.out]; exact HS3.out.drewN nr) HK3.out
set_option maxHeartbeats 800000 in
set_option maxRecDepth 100000 in
theorem val_rest3 (N : Nat) (INN : InnC N) (w0 : World) (b : Nat) (s : Vl.Sh) (z : Vl.Z) (deep x : Nat) (a1 a2 : Option Addr) (n1 n2 : Nat) (w : World) (hN : z.n ≤ N) (HE : Hid (Env w0)) (h3 : 3 ≤ w0.heap.size) (hdp : deep ≤ 16) (hk : z.kind = 3) (L : Bool × List UInt8) (HLF : Hid (L = (Vl.one z.text 3, z.text)))
    (HS : Hid (SW w0 b s w)) (hlen : s.out.length + z.cost ≤ 1000000000) (HX : Hid (w.heap[x]? = some (.cells #[.int .i64 z.kind, .string ⟨z.text.toArray⟩, .slice a1 z.items.length n1, .slice a2 z.fields.length n2, .int .i64 z.at_] 25 (0, 0)))) (hxb : x ≠ b) (HRD : Hid (Reads w0 (fun _ => True) z.d (zcells z a1 a2 n1 n2).toList))
    (Q : Exit → Act → World → Prop) (c3 c5 c6 c7 c8 c9 c10 c11 c12 c13 c14 c15 c16 c17 c18 c19 c20 c21 c22 c23 c24 c25 c26 c27 c28 c29 c30 c31 c32 c33 c34 c35 c36 c37 c38 c39 c40 c41 c42 c43 c44 c45 c46 c47 c48 c49 c50 c51 c52 c53 c54 c55 c56 c57 c58 c59 c60 c61 c62 c63 c64 c65 c66 c67 c68 c69 c70 c71 c72 c73 c74 c75 c76 c77 c78 c79 c80 c81 c82 c83 c84 c85 c86 c87 c88 c89 c90 c91 c92 c93 c94 c95 c96 c97 c98 c99 c100 c101 c102 c103 c104 c105 c106 c107 c108 c109 c110 c111 c112 c113 c114 c115 c116 c117 c118 c119 c120 c121 c122 c123 c124 c125 c126 c127 c128 c129 c130 c131 c132 c133 c134 c135 c136 c137 c138 c139 c140 c141 c142 c143 c144 c145 c146 c147 c148 c149 c150 c151 c152 c153 c154 c155 c156 c157 c158 c159 c160 c161 c162 c163 c164 c165 c166 c167 c168 c169 : Value) (HQ : Hid (∀ (tm : Array Value) (w' : World), SW w0 b (Vl.put L.2 (Vl.need L.1 s)) w' → OK8 b w w' → Q .normal ⟨tm, []⟩ w')) :
    Code.wp Tryz.prog valRest Q ⟨#[.pointer (some ⟨b, 0, none⟩), .agg #[.int .i64 z.kind, .string ⟨z.text.toArray⟩, .slice a1 z.items.length n1, .slice a2 z.fields.length n2, .int .i64 z.at_], .int .i64 (deep : Nat), c3, .pointer (some ⟨x, 0, none⟩), c5, c6, c7, c8, c9, c10, c11, c12, c13, c14, c15, c16, c17, c18, c19, c20, c21, c22, c23, c24, c25, c26, c27, c28, c29, c30, c31, c32, c33, c34, c35, c36, c37, c38, c39, c40, c41, c42, c43, c44, c45, c46, c47, c48, c49, c50, c51, c52, c53, c54, c55, c56, c57, c58, c59, c60, c61, c62, c63, c64, c65, c66, c67, c68, c69, c70, c71, c72, c73, c74, c75, c76, c77, c78, c79, c80, c81, c82, c83, c84, c85, c86, c87, c88, c89, c90, c91, c92, c93, c94, c95, c96, c97, c98, c99, c100, c101, c102, c103, c104, c105, c106, c107, c108, c109, c110, c111, c112, c113, c114, c115, c116, c117, c118, c119, c120, c121, c122, c123, c124, c125, c126, c127, c128, c129, c130, c131, c132, c133, c134, c135, c136, c137, c138, c139, c140, c141, c142, c143, c144, c145, c146, c147, c148, c149, c150, c151, c152, c153, c154, c155, c156, c157, c158, c159, c160, c161, c162, c163, c164, c165, c166, c167, c168, c169], []⟩ w := by
  have hcost := Vl.Z.cost_eq z
  have HT2 : Hid (L.2 = z.text) := Lib.hid (by rw [HLF.out])
  have q1 : (z.kind == 1) = false := by rw [beq_eq_false_iff_ne]; omega
  have q2 : (z.kind == 2) = false := by rw [beq_eq_false_iff_ne]; omega
  have q3 : (z.kind == 3) = true := by rw [beq_iff_eq]; exact hk
  have q4 : (z.kind == 4) = false := by rw [beq_eq_false_iff_ne]; omega
  have q5 : (z.kind == 5) = false := by rw [beq_eq_false_iff_ne]; omega
  have q6 : (z.kind == 6) = false := by rw [beq_eq_false_iff_ne]; omega
  have q7 : (z.kind == 7) = false := by rw [beq_eq_false_iff_ne]; omega
  have q8 : (z.kind == 8) = false := by rw [beq_eq_false_iff_ne]; omega
  have q9 : (z.kind == 9) = false := by rw [beq_eq_false_iff_ne]; omega
  have hz : z.text.length ≤ 1000000000 := by omega
  clear hk hN INN HRD
  have z0 := blk_cell HX.out 0 (.int .i64 z.kind) rfl
  have z1 := blk_cell HX.out 1 (.string ⟨z.text.toArray⟩) rfl
  have z2 := blk_cell HX.out 2 (.slice a1 z.items.length n1) rfl
  have z3 := blk_cell HX.out 3 (.slice a2 z.fields.length n2) rfl
  have z4 := blk_cell HX.out 4 (.int .i64 z.at_) rfl
  have HEW := Lib.hid (HE.out.below HS.out.bel)
  have h3w : 3 ≤ w.heap.size := by have := HS.out.bel.size; omega
  have HK0 : Hid (OK8 b w w) := Lib.hid (Lib.OthersKept.refl _ _ w)
  conv => arg 2; whnf
  conv => arg 4; zeta
  obtain ⟨ok, hok⟩ : ∃ ok, ok = Vl.one z.text 3 := ⟨_, rfl⟩
  have HOK : Hid (ok = L.1) := Lib.hid (by rw [hok, HLF.out])
  have HC : Hid (Calls Tryz.prog 89 #[.string ⟨z.text.toArray⟩, .int .i64 (3 : Nat)] w fun e w' => e = .returned (.bool ok) ∧ Below w.heap.size w w') := Lib.hid (by rw [hok]; exact vone_any z.text 3 w (by omega) HEW.out h3w)
  clear hok
  go_wp2_with fail
  refine HC.out.mono ?_
  rintro r w1 ⟨rfl, hb1⟩
  have HS1 := Lib.hid (HS.out.below hb1)
  have HX1 := Lib.hid ((hb1.block x (sh_lt HX.out)).trans HX.out)
  have HK1 := Lib.hid (ok8_below (b := b) hb1)
  clear hb1 z0 z1 z2 z3 z4 HC
  go_wp2_with fail
  refine (HS1.out.need ok).mono ?_
  rintro r w2 ⟨rfl, hs2, hk2⟩
  rw [HOK.out] at hs2
  have HS2 := Lib.hid hs2
  have HK2 := Lib.hid (HK1.out.trans hk2)
  have HX2 := Lib.hid (ok8_at hk2 HX1.out hxb (by decide))
  clear hs2 hk2
  have y1 := blk_cell HX2.out 1 (.string ⟨z.text.toArray⟩) rfl
  go_wp2_with fail
  refine wp_region_cuts [5] (by kernel_rfl) (by kernel_rfl) ?_; simp only [wpMix, List.take_succ_cons, List.take_zero, List.drop_succ_cons, List.drop_zero, Nat.sub_zero, Nat.reduceSub, Nat.reduceAdd]
  repeat (go_big_quiet_step (fail))
  refine wpQuiet_nil ?_; rintro _ ⟨nq, rfl⟩
  go_wp2_with fail
  refine ((HS2.out.drewN nq).str z.text (by rw [Vl.need_out]; omega)).mono ?_
  rintro r w3 ⟨⟨m, rfl⟩, hs3, hk3⟩
  have HS3 := Lib.hid hs3
  have HK3 : Hid (OK8 b w w3) := Lib.hid (HK2.out.trans hk3)
  clear hs3 hk3
  go_wp2
  refine wpQuiet_nil ?_
  rintro _ ⟨nr, rfl⟩
  go_wp2
  exact HQ.out _ _ (by rw [HT2.out]; exact HS3.out.drewN nr) HK3.out
set_option maxHeartbeats 800000 in
set_option maxRecDepth 100000 in
theorem val_rest4 (N : Nat) (INN : InnC N) (w0 : World) (b : Nat) (s : Vl.Sh) (z : Vl.Z) (deep x : Nat) (a1 a2 : Option Addr) (n1 n2 : Nat) (w : World) (hN : z.n ≤ N) (HE : Hid (Env w0)) (h3 : 3 ≤ w0.heap.size) (hdp : deep ≤ 16) (hk : z.kind = 4) (L : Bool × List UInt8) (HLF : Hid (L = (Lx.valid z.text, Vl.quoteOf z.text)))
    (HS : Hid (SW w0 b s w)) (hlen : s.out.length + z.cost ≤ 1000000000) (HX : Hid (w.heap[x]? = some (.cells #[.int .i64 z.kind, .string ⟨z.text.toArray⟩, .slice a1 z.items.length n1, .slice a2 z.fields.length n2, .int .i64 z.at_] 25 (0, 0)))) (hxb : x ≠ b) (HRD : Hid (Reads w0 (fun _ => True) z.d (zcells z a1 a2 n1 n2).toList))
    (Q : Exit → Act → World → Prop) (c3 c5 c6 c7 c8 c9 c10 c11 c12 c13 c14 c15 c16 c17 c18 c19 c20 c21 c22 c23 c24 c25 c26 c27 c28 c29 c30 c31 c32 c33 c34 c35 c36 c37 c38 c39 c40 c41 c42 c43 c44 c45 c46 c47 c48 c49 c50 c51 c52 c53 c54 c55 c56 c57 c58 c59 c60 c61 c62 c63 c64 c65 c66 c67 c68 c69 c70 c71 c72 c73 c74 c75 c76 c77 c78 c79 c80 c81 c82 c83 c84 c85 c86 c87 c88 c89 c90 c91 c92 c93 c94 c95 c96 c97 c98 c99 c100 c101 c102 c103 c104 c105 c106 c107 c108 c109 c110 c111 c112 c113 c114 c115 c116 c117 c118 c119 c120 c121 c122 c123 c124 c125 c126 c127 c128 c129 c130 c131 c132 c133 c134 c135 c136 c137 c138 c139 c140 c141 c142 c143 c144 c145 c146 c147 c148 c149 c150 c151 c152 c153 c154 c155 c156 c157 c158 c159 c160 c161 c162 c163 c164 c165 c166 c167 c168 c169 : Value) (HQ : Hid (∀ (tm : Array Value) (w' : World), SW w0 b (Vl.put L.2 (Vl.need L.1 s)) w' → OK8 b w w' → Q .normal ⟨tm, []⟩ w')) :
    Code.wp Tryz.prog valRest Q ⟨#[.pointer (some ⟨b, 0, none⟩), .agg #[.int .i64 z.kind, .string ⟨z.text.toArray⟩, .slice a1 z.items.length n1, .slice a2 z.fields.length n2, .int .i64 z.at_], .int .i64 (deep : Nat), c3, .pointer (some ⟨x, 0, none⟩), c5, c6, c7, c8, c9, c10, c11, c12, c13, c14, c15, c16, c17, c18, c19, c20, c21, c22, c23, c24, c25, c26, c27, c28, c29, c30, c31, c32, c33, c34, c35, c36, c37, c38, c39, c40, c41, c42, c43, c44, c45, c46, c47, c48, c49, c50, c51, c52, c53, c54, c55, c56, c57, c58, c59, c60, c61, c62, c63, c64, c65, c66, c67, c68, c69, c70, c71, c72, c73, c74, c75, c76, c77, c78, c79, c80, c81, c82, c83, c84, c85, c86, c87, c88, c89, c90, c91, c92, c93, c94, c95, c96, c97, c98, c99, c100, c101, c102, c103, c104, c105, c106, c107, c108, c109, c110, c111, c112, c113, c114, c115, c116, c117, c118, c119, c120, c121, c122, c123, c124, c125, c126, c127, c128, c129, c130, c131, c132, c133, c134, c135, c136, c137, c138, c139, c140, c141, c142, c143, c144, c145, c146, c147, c148, c149, c150, c151, c152, c153, c154, c155, c156, c157, c158, c159, c160, c161, c162, c163, c164, c165, c166, c167, c168, c169], []⟩ w := by
  have hcost := Vl.Z.cost_eq z
  have HT2 : Hid (L.2 = (Vl.quoteOf z.text)) := Lib.hid (by rw [HLF.out])
  have q1 : (z.kind == 1) = false := by rw [beq_eq_false_iff_ne]; omega
  have q2 : (z.kind == 2) = false := by rw [beq_eq_false_iff_ne]; omega
  have q3 : (z.kind == 3) = false := by rw [beq_eq_false_iff_ne]; omega
  have q4 : (z.kind == 4) = true := by rw [beq_iff_eq]; exact hk
  have q5 : (z.kind == 5) = false := by rw [beq_eq_false_iff_ne]; omega
  have q6 : (z.kind == 6) = false := by rw [beq_eq_false_iff_ne]; omega
  have q7 : (z.kind == 7) = false := by rw [beq_eq_false_iff_ne]; omega
  have q8 : (z.kind == 8) = false := by rw [beq_eq_false_iff_ne]; omega
  have q9 : (z.kind == 9) = false := by rw [beq_eq_false_iff_ne]; omega
  have hz : z.text.length ≤ 1000000000 := by omega
  clear hk hN INN HRD
  have z0 := blk_cell HX.out 0 (.int .i64 z.kind) rfl
  have z1 := blk_cell HX.out 1 (.string ⟨z.text.toArray⟩) rfl
  have z2 := blk_cell HX.out 2 (.slice a1 z.items.length n1) rfl
  have z3 := blk_cell HX.out 3 (.slice a2 z.fields.length n2) rfl
  have z4 := blk_cell HX.out 4 (.int .i64 z.at_) rfl
  have HEW := Lib.hid (HE.out.below HS.out.bel)
  have h3w : 3 ≤ w.heap.size := by have := HS.out.bel.size; omega
  have HK0 : Hid (OK8 b w w) := Lib.hid (Lib.OthersKept.refl _ _ w)
  conv => arg 2; whnf
  conv => arg 4; zeta
  obtain ⟨ok, hok⟩ : ∃ ok, ok = L.1 := ⟨_, rfl⟩
  have HOK := Lib.hid hok
  have HC : Hid (Calls Tryz.prog 90 #[.string ⟨z.text.toArray⟩] w fun r w' => Below w.heap.size w w' ∧ ∃ e : Int, r = .returned (.tuple #[.string ⟨L.2.toArray⟩, .int .i64 e]) ∧ (e == 0) = ok) := Lib.hid ((lexQuote_any ⟨z.text.toArray⟩ w hz HEW.out).mono (by
    rintro e w' ⟨hb, hres⟩
    refine ⟨hb, ?_⟩
    rw [hok, HLF.out]
    unfold Vl.quoteOf
    rcases hres with ⟨h1, h2⟩ | ⟨h1, h2⟩
    · have h1' : Lx.valid z.text = true := h1
      exact ⟨0, by rw [h2, if_pos h1'], by rw [h1']; rfl⟩
    · have h1' : Lx.valid z.text = false := h1
      exact ⟨2, by rw [h2, if_neg (by rw [h1']; simp)], by rw [h1']; rfl⟩))
  clear hok
  go_wp2_with fail
  refine HC.out.mono ?_
  rintro r w1 ⟨hb1, e, rfl, he⟩
  have HS1 := Lib.hid (HS.out.below hb1)
  have HX1 := Lib.hid ((hb1.block x (sh_lt HX.out)).trans HX.out)
  have HK1 := Lib.hid (ok8_below (b := b) hb1)
  clear hb1 z0 z1 z2 z3 z4 HC
  go_wp2_with fail
  refine (HS1.out.need ok).mono ?_
  rintro r w2 ⟨rfl, hs2, hk2⟩
  rw [HOK.out] at hs2
  have HS2 := Lib.hid hs2
  have HK2 := Lib.hid (HK1.out.trans hk2)
  have HX2 := Lib.hid (ok8_at hk2 HX1.out hxb (by decide))
  clear hs2 hk2
  have y1 := blk_cell HX2.out 1 (.string ⟨z.text.toArray⟩) rfl
  go_wp2_with fail
  rw [HT2.out]
  refine (HS2.out.str (Vl.quoteOf z.text) (by rw [Vl.need_out]; have := Vl.quoteOf_le z.text; omega)).mono ?_
  rintro r w3 ⟨⟨m, rfl⟩, hs3, hk3⟩
  have HS3 := Lib.hid hs3
  have HK3 : Hid (OK8 b w w3) := Lib.hid (HK2.out.trans hk3)
  clear hs3 hk3
  go_wp2_with fail
  exact HQ.out _ _ (by rw [HT2.out]; exact HS3.out) HK3.out
end Go.Proofs.YtefjgpkpplkkgaaGreatDoor
namespace Go.Proofs.YtefjgpkpplkkgaaGreatDoor
set_option linter.unusedSimpArgs false
set_option linter.unusedVariables false
open Go Go.RowKit

set_option maxHeartbeats 800000 in
set_option maxRecDepth 100000 in
theorem val_rest5 (N : Nat) (INN : InnC N) (w0 : World) (b : Nat) (s : Vl.Sh) (z : Vl.Z) (deep x : Nat) (a1 a2 : Option Addr) (n1 n2 : Nat) (w : World) (hN : z.n ≤ N) (HE : Hid (Env w0)) (h3 : 3 ≤ w0.heap.size) (hdp : deep ≤ 16) (hk : z.kind = 5) (L : Bool × List UInt8) (HLF : Hid (L = (decide (z.text = Rd.sTrue) || decide (z.text = Rd.sFalse), z.text)))
    (HS : Hid (SW w0 b s w)) (hlen : s.out.length + z.cost ≤ 1000000000) (HX : Hid (w.heap[x]? = some (.cells #[.int .i64 z.kind, .string ⟨z.text.toArray⟩, .slice a1 z.items.length n1, .slice a2 z.fields.length n2, .int .i64 z.at_] 25 (0, 0)))) (hxb : x ≠ b) (HRD : Hid (Reads w0 (fun _ => True) z.d (zcells z a1 a2 n1 n2).toList))
    (Q : Exit → Act → World → Prop) (c3 c5 c6 c7 c8 c9 c10 c11 c12 c13 c14 c15 c16 c17 c18 c19 c20 c21 c22 c23 c24 c25 c26 c27 c28 c29 c30 c31 c32 c33 c34 c35 c36 c37 c38 c39 c40 c41 c42 c43 c44 c45 c46 c47 c48 c49 c50 c51 c52 c53 c54 c55 c56 c57 c58 c59 c60 c61 c62 c63 c64 c65 c66 c67 c68 c69 c70 c71 c72 c73 c74 c75 c76 c77 c78 c79 c80 c81 c82 c83 c84 c85 c86 c87 c88 c89 c90 c91 c92 c93 c94 c95 c96 c97 c98 c99 c100 c101 c102 c103 c104 c105 c106 c107 c108 c109 c110 c111 c112 c113 c114 c115 c116 c117 c118 c119 c120 c121 c122 c123 c124 c125 c126 c127 c128 c129 c130 c131 c132 c133 c134 c135 c136 c137 c138 c139 c140 c141 c142 c143 c144 c145 c146 c147 c148 c149 c150 c151 c152 c153 c154 c155 c156 c157 c158 c159 c160 c161 c162 c163 c164 c165 c166 c167 c168 c169 : Value) (HQ : Hid (∀ (tm : Array Value) (w' : World), SW w0 b (Vl.put L.2 (Vl.need L.1 s)) w' → OK8 b w w' → Q .normal ⟨tm, []⟩ w')) :
    Code.wp Tryz.prog valRest Q ⟨#[.pointer (some ⟨b, 0, none⟩), .agg #[.int .i64 z.kind, .string ⟨z.text.toArray⟩, .slice a1 z.items.length n1, .slice a2 z.fields.length n2, .int .i64 z.at_], .int .i64 (deep : Nat), c3, .pointer (some ⟨x, 0, none⟩), c5, c6, c7, c8, c9, c10, c11, c12, c13, c14, c15, c16, c17, c18, c19, c20, c21, c22, c23, c24, c25, c26, c27, c28, c29, c30, c31, c32, c33, c34, c35, c36, c37, c38, c39, c40, c41, c42, c43, c44, c45, c46, c47, c48, c49, c50, c51, c52, c53, c54, c55, c56, c57, c58, c59, c60, c61, c62, c63, c64, c65, c66, c67, c68, c69, c70, c71, c72, c73, c74, c75, c76, c77, c78, c79, c80, c81, c82, c83, c84, c85, c86, c87, c88, c89, c90, c91, c92, c93, c94, c95, c96, c97, c98, c99, c100, c101, c102, c103, c104, c105, c106, c107, c108, c109, c110, c111, c112, c113, c114, c115, c116, c117, c118, c119, c120, c121, c122, c123, c124, c125, c126, c127, c128, c129, c130, c131, c132, c133, c134, c135, c136, c137, c138, c139, c140, c141, c142, c143, c144, c145, c146, c147, c148, c149, c150, c151, c152, c153, c154, c155, c156, c157, c158, c159, c160, c161, c162, c163, c164, c165, c166, c167, c168, c169], []⟩ w := by
  have hcost := Vl.Z.cost_eq z
  have HT2 : Hid (L.2 = z.text) := Lib.hid (by rw [HLF.out])
  have q1 : (z.kind == 1) = false := by rw [beq_eq_false_iff_ne]; omega
  have q2 : (z.kind == 2) = false := by rw [beq_eq_false_iff_ne]; omega
  have q3 : (z.kind == 3) = false := by rw [beq_eq_false_iff_ne]; omega
  have q4 : (z.kind == 4) = false := by rw [beq_eq_false_iff_ne]; omega
  have q5 : (z.kind == 5) = true := by rw [beq_iff_eq]; exact hk
  have q6 : (z.kind == 6) = false := by rw [beq_eq_false_iff_ne]; omega
  have q7 : (z.kind == 7) = false := by rw [beq_eq_false_iff_ne]; omega
  have q8 : (z.kind == 8) = false := by rw [beq_eq_false_iff_ne]; omega
  have q9 : (z.kind == 9) = false := by rw [beq_eq_false_iff_ne]; omega
  have hz : z.text.length ≤ 1000000000 := by omega
  clear hk hN INN HRD
  have z0 := blk_cell HX.out 0 (.int .i64 z.kind) rfl
  have z1 := blk_cell HX.out 1 (.string ⟨z.text.toArray⟩) rfl
  have z2 := blk_cell HX.out 2 (.slice a1 z.items.length n1) rfl
  have z3 := blk_cell HX.out 3 (.slice a2 z.fields.length n2) rfl
  have z4 := blk_cell HX.out 4 (.int .i64 z.at_) rfl
  have HEW := Lib.hid (HE.out.below HS.out.bel)
  have h3w : 3 ≤ w.heap.size := by have := HS.out.bel.size; omega
  have HK0 : Hid (OK8 b w w) := Lib.hid (Lib.OthersKept.refl _ _ w)
  conv => arg 2; whnf
  conv => arg 4; zeta
  by_cases h1 : z.text = Rd.sTrue
  · have e1 : (z.text == [116, 114, 117, 101]) = true := by rw [beq_iff_eq]; exact h1
    have HOK : Hid (true = L.1) := Lib.hid (by rw [HLF.out, decide_eq_true h1]; rfl)
    clear h1
    go_wp2_with fail
    clear z0 z1 z2 z3 z4
    refine (HS.out.need true).mono ?_
    rintro r w2 ⟨rfl, hs2, hk2⟩
    rw [HOK.out] at hs2
    have HS2 := Lib.hid hs2
    have HK2 := Lib.hid (HK0.out.trans hk2)
    have HX2 := Lib.hid (ok8_at hk2 HX.out hxb (by decide))
    clear hs2 hk2
    have y1 := blk_cell HX2.out 1 (.string ⟨z.text.toArray⟩) rfl
    go_wp2_with fail
    refine wp_region_cuts [5] (by kernel_rfl) (by kernel_rfl) ?_; simp only [wpMix, List.take_succ_cons, List.take_zero, List.drop_succ_cons, List.drop_zero, Nat.sub_zero, Nat.reduceSub, Nat.reduceAdd]
    repeat (go_big_quiet_step (fail))
    refine wpQuiet_nil ?_; rintro _ ⟨nq, rfl⟩
    go_wp2_with fail
    refine ((HS2.out.drewN nq).str z.text (by rw [Vl.need_out]; omega)).mono ?_
    rintro r w3 ⟨⟨m, rfl⟩, hs3, hk3⟩
    have HS3 := Lib.hid hs3
    have HK3 : Hid (OK8 b w w3) := Lib.hid (HK2.out.trans hk3)
    clear hs3 hk3
    go_wp2
    refine wpQuiet_nil ?_
    rintro _ ⟨nr, rfl⟩
    go_wp2
    exact HQ.out _ _ (by rw [HT2.out]; exact HS3.out.drewN nr) HK3.out
  have e1 : (z.text == [116, 114, 117, 101]) = false := by rw [beq_eq_false_iff_ne]; exact h1
  obtain ⟨ok, hok⟩ : ∃ ok, ok = (z.text == [102, 97, 108, 115, 101]) := ⟨_, rfl⟩
  have HOK : Hid (ok = L.1) := Lib.hid (by rw [hok, HLF.out, decide_eq_false h1]; show _ = (false || decide (z.text = Rd.sFalse)); rw [Bool.false_or, Bool.eq_iff_iff, beq_iff_eq, decide_eq_true_iff]; exact Iff.rfl)
  clear h1
  go_wp2_with fail
  rw [← hok]
  clear hok z0 z1 z2 z3 z4
  refine (HS.out.need ok).mono ?_
  rintro r w2 ⟨rfl, hs2, hk2⟩
  rw [HOK.out] at hs2
  have HS2 := Lib.hid hs2
  have HK2 := Lib.hid (HK0.out.trans hk2)
  have HX2 := Lib.hid (ok8_at hk2 HX.out hxb (by decide))
  clear hs2 hk2
  have y1 := blk_cell HX2.out 1 (.string ⟨z.text.toArray⟩) rfl
  go_wp2_with fail
  refine wp_region_cuts [5] (by kernel_rfl) (by kernel_rfl) ?_; simp only [wpMix, List.take_succ_cons, List.take_zero, List.drop_succ_cons, List.drop_zero, Nat.sub_zero, Nat.reduceSub, Nat.reduceAdd]
  repeat (go_big_quiet_step (fail))
  refine wpQuiet_nil ?_; rintro _ ⟨nq, rfl⟩
  go_wp2_with fail
  refine ((HS2.out.drewN nq).str z.text (by rw [Vl.need_out]; omega)).mono ?_
  rintro r w3 ⟨⟨m, rfl⟩, hs3, hk3⟩
  have HS3 := Lib.hid hs3
  have HK3 : Hid (OK8 b w w3) := Lib.hid (HK2.out.trans hk3)
  clear hs3 hk3
  go_wp2
  refine wpQuiet_nil ?_
  rintro _ ⟨nr, rfl⟩
  go_wp2
  exact HQ.out _ _ (by rw [HT2.out]; exact HS3.out.drewN nr) HK3.out
set_option maxHeartbeats 800000 in
set_option maxRecDepth 100000 in
theorem val_rest6 (N : Nat) (INN : InnC N) (w0 : World) (b : Nat) (s : Vl.Sh) (z : Vl.Z) (deep x : Nat) (a1 a2 : Option Addr) (n1 n2 : Nat) (w : World) (hN : z.n ≤ N) (HE : Hid (Env w0)) (h3 : 3 ≤ w0.heap.size) (hdp : deep ≤ 16) (hk : z.kind = 6) (L : Bool × List UInt8) (HLF : Hid (L = (decide (z.text = []), Rd.sNull)))
    (HS : Hid (SW w0 b s w)) (hlen : s.out.length + z.cost ≤ 1000000000) (HX : Hid (w.heap[x]? = some (.cells #[.int .i64 z.kind, .string ⟨z.text.toArray⟩, .slice a1 z.items.length n1, .slice a2 z.fields.length n2, .int .i64 z.at_] 25 (0, 0)))) (hxb : x ≠ b) (HRD : Hid (Reads w0 (fun _ => True) z.d (zcells z a1 a2 n1 n2).toList))
    (Q : Exit → Act → World → Prop) (c3 c5 c6 c7 c8 c9 c10 c11 c12 c13 c14 c15 c16 c17 c18 c19 c20 c21 c22 c23 c24 c25 c26 c27 c28 c29 c30 c31 c32 c33 c34 c35 c36 c37 c38 c39 c40 c41 c42 c43 c44 c45 c46 c47 c48 c49 c50 c51 c52 c53 c54 c55 c56 c57 c58 c59 c60 c61 c62 c63 c64 c65 c66 c67 c68 c69 c70 c71 c72 c73 c74 c75 c76 c77 c78 c79 c80 c81 c82 c83 c84 c85 c86 c87 c88 c89 c90 c91 c92 c93 c94 c95 c96 c97 c98 c99 c100 c101 c102 c103 c104 c105 c106 c107 c108 c109 c110 c111 c112 c113 c114 c115 c116 c117 c118 c119 c120 c121 c122 c123 c124 c125 c126 c127 c128 c129 c130 c131 c132 c133 c134 c135 c136 c137 c138 c139 c140 c141 c142 c143 c144 c145 c146 c147 c148 c149 c150 c151 c152 c153 c154 c155 c156 c157 c158 c159 c160 c161 c162 c163 c164 c165 c166 c167 c168 c169 : Value) (HQ : Hid (∀ (tm : Array Value) (w' : World), SW w0 b (Vl.put L.2 (Vl.need L.1 s)) w' → OK8 b w w' → Q .normal ⟨tm, []⟩ w')) :
    Code.wp Tryz.prog valRest Q ⟨#[.pointer (some ⟨b, 0, none⟩), .agg #[.int .i64 z.kind, .string ⟨z.text.toArray⟩, .slice a1 z.items.length n1, .slice a2 z.fields.length n2, .int .i64 z.at_], .int .i64 (deep : Nat), c3, .pointer (some ⟨x, 0, none⟩), c5, c6, c7, c8, c9, c10, c11, c12, c13, c14, c15, c16, c17, c18, c19, c20, c21, c22, c23, c24, c25, c26, c27, c28, c29, c30, c31, c32, c33, c34, c35, c36, c37, c38, c39, c40, c41, c42, c43, c44, c45, c46, c47, c48, c49, c50, c51, c52, c53, c54, c55, c56, c57, c58, c59, c60, c61, c62, c63, c64, c65, c66, c67, c68, c69, c70, c71, c72, c73, c74, c75, c76, c77, c78, c79, c80, c81, c82, c83, c84, c85, c86, c87, c88, c89, c90, c91, c92, c93, c94, c95, c96, c97, c98, c99, c100, c101, c102, c103, c104, c105, c106, c107, c108, c109, c110, c111, c112, c113, c114, c115, c116, c117, c118, c119, c120, c121, c122, c123, c124, c125, c126, c127, c128, c129, c130, c131, c132, c133, c134, c135, c136, c137, c138, c139, c140, c141, c142, c143, c144, c145, c146, c147, c148, c149, c150, c151, c152, c153, c154, c155, c156, c157, c158, c159, c160, c161, c162, c163, c164, c165, c166, c167, c168, c169], []⟩ w := by
  have hcost := Vl.Z.cost_eq z
  have HT2 : Hid (L.2 = Rd.sNull) := Lib.hid (by rw [HLF.out])
  have q1 : (z.kind == 1) = false := by rw [beq_eq_false_iff_ne]; omega
  have q2 : (z.kind == 2) = false := by rw [beq_eq_false_iff_ne]; omega
  have q3 : (z.kind == 3) = false := by rw [beq_eq_false_iff_ne]; omega
  have q4 : (z.kind == 4) = false := by rw [beq_eq_false_iff_ne]; omega
  have q5 : (z.kind == 5) = false := by rw [beq_eq_false_iff_ne]; omega
  have q6 : (z.kind == 6) = true := by rw [beq_iff_eq]; exact hk
  have q7 : (z.kind == 7) = false := by rw [beq_eq_false_iff_ne]; omega
  have q8 : (z.kind == 8) = false := by rw [beq_eq_false_iff_ne]; omega
  have q9 : (z.kind == 9) = false := by rw [beq_eq_false_iff_ne]; omega
  have hz : z.text.length ≤ 1000000000 := by omega
  clear hk hN INN HRD
  have z0 := blk_cell HX.out 0 (.int .i64 z.kind) rfl
  have z1 := blk_cell HX.out 1 (.string ⟨z.text.toArray⟩) rfl
  have z2 := blk_cell HX.out 2 (.slice a1 z.items.length n1) rfl
  have z3 := blk_cell HX.out 3 (.slice a2 z.fields.length n2) rfl
  have z4 := blk_cell HX.out 4 (.int .i64 z.at_) rfl
  have HEW := Lib.hid (HE.out.below HS.out.bel)
  have h3w : 3 ≤ w.heap.size := by have := HS.out.bel.size; omega
  have HK0 : Hid (OK8 b w w) := Lib.hid (Lib.OthersKept.refl _ _ w)
  conv => arg 2; whnf
  conv => arg 4; zeta
  obtain ⟨ok, hok⟩ : ∃ ok, ok = z.text.isEmpty := ⟨_, rfl⟩
  have HOK : Hid (ok = L.1) := Lib.hid (by rw [hok, HLF.out]; cases z.text <;> rfl)
  go_wp2_with fail
  rw [← hok]
  clear hok z0 z1 z2 z3 z4
  refine (HS.out.need ok).mono ?_
  rintro r w2 ⟨rfl, hs2, hk2⟩
  rw [HOK.out] at hs2
  have HS2 := Lib.hid hs2
  have HK2 := Lib.hid (HK0.out.trans hk2)
  have HX2 := Lib.hid (ok8_at hk2 HX.out hxb (by decide))
  clear hs2 hk2
  have y1 := blk_cell HX2.out 1 (.string ⟨z.text.toArray⟩) rfl
  go_wp2_with fail
  refine (HS2.out.str Rd.sNull (by rw [Vl.need_out]; show _ + 4 ≤ _; omega)).mono ?_
  rintro r w3 ⟨⟨m, rfl⟩, hs3, hk3⟩
  have HS3 := Lib.hid hs3
  have HK3 : Hid (OK8 b w w3) := Lib.hid (HK2.out.trans hk3)
  clear hs3 hk3
  go_wp2_with fail
  exact HQ.out _ _ (by rw [HT2.out]; exact HS3.out) HK3.out
set_option maxHeartbeats 800000 in
set_option maxRecDepth 100000 in
theorem val_rest7 (N : Nat) (INN : InnC N) (w0 : World) (b : Nat) (s : Vl.Sh) (z : Vl.Z) (deep x : Nat) (a1 a2 : Option Addr) (n1 n2 : Nat) (w : World) (hN : z.n ≤ N) (HE : Hid (Env w0)) (h3 : 3 ≤ w0.heap.size) (hdp : deep ≤ 16) (hk : z.kind = 7) (L : Bool × List UInt8) (HLF : Hid (L = (Lx.isName z.text && (decide (z.text ≠ Rd.sTrue) && (decide (z.text ≠ Rd.sFalse) && decide (z.text ≠ Rd.sNull))), z.text)))
    (HS : Hid (SW w0 b s w)) (hlen : s.out.length + z.cost ≤ 1000000000) (HX : Hid (w.heap[x]? = some (.cells #[.int .i64 z.kind, .string ⟨z.text.toArray⟩, .slice a1 z.items.length n1, .slice a2 z.fields.length n2, .int .i64 z.at_] 25 (0, 0)))) (hxb : x ≠ b) (HRD : Hid (Reads w0 (fun _ => True) z.d (zcells z a1 a2 n1 n2).toList))
    (Q : Exit → Act → World → Prop) (c3 c5 c6 c7 c8 c9 c10 c11 c12 c13 c14 c15 c16 c17 c18 c19 c20 c21 c22 c23 c24 c25 c26 c27 c28 c29 c30 c31 c32 c33 c34 c35 c36 c37 c38 c39 c40 c41 c42 c43 c44 c45 c46 c47 c48 c49 c50 c51 c52 c53 c54 c55 c56 c57 c58 c59 c60 c61 c62 c63 c64 c65 c66 c67 c68 c69 c70 c71 c72 c73 c74 c75 c76 c77 c78 c79 c80 c81 c82 c83 c84 c85 c86 c87 c88 c89 c90 c91 c92 c93 c94 c95 c96 c97 c98 c99 c100 c101 c102 c103 c104 c105 c106 c107 c108 c109 c110 c111 c112 c113 c114 c115 c116 c117 c118 c119 c120 c121 c122 c123 c124 c125 c126 c127 c128 c129 c130 c131 c132 c133 c134 c135 c136 c137 c138 c139 c140 c141 c142 c143 c144 c145 c146 c147 c148 c149 c150 c151 c152 c153 c154 c155 c156 c157 c158 c159 c160 c161 c162 c163 c164 c165 c166 c167 c168 c169 : Value) (HQ : Hid (∀ (tm : Array Value) (w' : World), SW w0 b (Vl.put L.2 (Vl.need L.1 s)) w' → OK8 b w w' → Q .normal ⟨tm, []⟩ w')) :
    Code.wp Tryz.prog valRest Q ⟨#[.pointer (some ⟨b, 0, none⟩), .agg #[.int .i64 z.kind, .string ⟨z.text.toArray⟩, .slice a1 z.items.length n1, .slice a2 z.fields.length n2, .int .i64 z.at_], .int .i64 (deep : Nat), c3, .pointer (some ⟨x, 0, none⟩), c5, c6, c7, c8, c9, c10, c11, c12, c13, c14, c15, c16, c17, c18, c19, c20, c21, c22, c23, c24, c25, c26, c27, c28, c29, c30, c31, c32, c33, c34, c35, c36, c37, c38, c39, c40, c41, c42, c43, c44, c45, c46, c47, c48, c49, c50, c51, c52, c53, c54, c55, c56, c57, c58, c59, c60, c61, c62, c63, c64, c65, c66, c67, c68, c69, c70, c71, c72, c73, c74, c75, c76, c77, c78, c79, c80, c81, c82, c83, c84, c85, c86, c87, c88, c89, c90, c91, c92, c93, c94, c95, c96, c97, c98, c99, c100, c101, c102, c103, c104, c105, c106, c107, c108, c109, c110, c111, c112, c113, c114, c115, c116, c117, c118, c119, c120, c121, c122, c123, c124, c125, c126, c127, c128, c129, c130, c131, c132, c133, c134, c135, c136, c137, c138, c139, c140, c141, c142, c143, c144, c145, c146, c147, c148, c149, c150, c151, c152, c153, c154, c155, c156, c157, c158, c159, c160, c161, c162, c163, c164, c165, c166, c167, c168, c169], []⟩ w := by
  have hcost := Vl.Z.cost_eq z
  have HT2 : Hid (L.2 = z.text) := Lib.hid (by rw [HLF.out])
  have q1 : (z.kind == 1) = false := by rw [beq_eq_false_iff_ne]; omega
  have q2 : (z.kind == 2) = false := by rw [beq_eq_false_iff_ne]; omega
  have q3 : (z.kind == 3) = false := by rw [beq_eq_false_iff_ne]; omega
  have q4 : (z.kind == 4) = false := by rw [beq_eq_false_iff_ne]; omega
  have q5 : (z.kind == 5) = false := by rw [beq_eq_false_iff_ne]; omega
  have q6 : (z.kind == 6) = false := by rw [beq_eq_false_iff_ne]; omega
  have q7 : (z.kind == 7) = true := by rw [beq_iff_eq]; exact hk
  have q8 : (z.kind == 8) = false := by rw [beq_eq_false_iff_ne]; omega
  have q9 : (z.kind == 9) = false := by rw [beq_eq_false_iff_ne]; omega
  have hz : z.text.length ≤ 1000000000 := by omega
  clear hk hN INN HRD
  have z0 := blk_cell HX.out 0 (.int .i64 z.kind) rfl
  have z1 := blk_cell HX.out 1 (.string ⟨z.text.toArray⟩) rfl
  have z2 := blk_cell HX.out 2 (.slice a1 z.items.length n1) rfl
  have z3 := blk_cell HX.out 3 (.slice a2 z.fields.length n2) rfl
  have z4 := blk_cell HX.out 4 (.int .i64 z.at_) rfl
  have HEW := Lib.hid (HE.out.below HS.out.bel)
  have h3w : 3 ≤ w.heap.size := by have := HS.out.bel.size; omega
  have HK0 : Hid (OK8 b w w) := Lib.hid (Lib.OthersKept.refl _ _ w)
  conv => arg 2; whnf
  conv => arg 4; zeta
  obtain ⟨nm, hnm⟩ : ∃ ok, ok = Lx.isName z.text := ⟨_, rfl⟩
  have HL0 : Hid (L.1 = (nm && (decide (z.text ≠ Rd.sTrue) && (decide (z.text ≠ Rd.sFalse) && decide (z.text ≠ Rd.sNull))))) := Lib.hid (by rw [HLF.out, hnm])
  have HC : Hid (Calls Tryz.prog 87 #[.string ⟨z.text.toArray⟩] w fun e w' => e = .returned (.bool nm) ∧ w' = w) := Lib.hid ((lexName_any ⟨z.text.toArray⟩ w (by show z.text.length ≤ _; omega)).mono (by rintro e w' ⟨rfl, rfl⟩; exact ⟨by rw [hnm], rfl⟩))
  clear hnm
  go_wp2_with fail
  refine HC.out.mono ?_
  rintro r w1 ⟨rfl, hw1⟩
  obtain rfl := hw1.symm
  clear hw1
  cases nm
  · have HOK : Hid (false = L.1) := Lib.hid (by rw [HL0.out]; rfl)
    go_wp2_with fail
    clear z0 z1 z2 z3 z4
    refine (HS.out.need false).mono ?_
    rintro r w2 ⟨rfl, hs2, hk2⟩
    rw [HOK.out] at hs2
    have HS2 := Lib.hid hs2
    have HK2 := Lib.hid (HK0.out.trans hk2)
    have HX2 := Lib.hid (ok8_at hk2 HX.out hxb (by decide))
    clear hs2 hk2
    have y1 := blk_cell HX2.out 1 (.string ⟨z.text.toArray⟩) rfl
    go_wp2_with fail
    refine wp_region_cuts [5] (by kernel_rfl) (by kernel_rfl) ?_; simp only [wpMix, List.take_succ_cons, List.take_zero, List.drop_succ_cons, List.drop_zero, Nat.sub_zero, Nat.reduceSub, Nat.reduceAdd]
    repeat (go_big_quiet_step (fail))
    refine wpQuiet_nil ?_; rintro _ ⟨nq, rfl⟩
    go_wp2_with fail
    refine ((HS2.out.drewN nq).str z.text (by rw [Vl.need_out]; omega)).mono ?_
    rintro r w3 ⟨⟨m, rfl⟩, hs3, hk3⟩
    have HS3 := Lib.hid hs3
    have HK3 : Hid (OK8 b w w3) := Lib.hid (HK2.out.trans hk3)
    clear hs3 hk3
    go_wp2
    refine wpQuiet_nil ?_
    rintro _ ⟨nr, rfl⟩
    go_wp2
    exact HQ.out _ _ (by rw [HT2.out]; exact HS3.out.drewN nr) HK3.out
  by_cases h1 : z.text = Rd.sTrue
  · have e1 : (z.text == [116, 114, 117, 101]) = true := by rw [beq_iff_eq]; exact h1
    have HOK : Hid (false = L.1) := Lib.hid (by rw [HL0.out]; simp [h1])
    clear h1
    go_wp2_with fail
    clear e1 z0 z1 z2 z3 z4
    refine (HS.out.need false).mono ?_
    rintro r w2 ⟨rfl, hs2, hk2⟩
    rw [HOK.out] at hs2
    have HS2 := Lib.hid hs2
    have HK2 := Lib.hid (HK0.out.trans hk2)
    have HX2 := Lib.hid (ok8_at hk2 HX.out hxb (by decide))
    clear hs2 hk2
    have y1 := blk_cell HX2.out 1 (.string ⟨z.text.toArray⟩) rfl
    go_wp2_with fail
    refine wp_region_cuts [5] (by kernel_rfl) (by kernel_rfl) ?_; simp only [wpMix, List.take_succ_cons, List.take_zero, List.drop_succ_cons, List.drop_zero, Nat.sub_zero, Nat.reduceSub, Nat.reduceAdd]
    repeat (go_big_quiet_step (fail))
    refine wpQuiet_nil ?_; rintro _ ⟨nq, rfl⟩
    go_wp2_with fail
    refine ((HS2.out.drewN nq).str z.text (by rw [Vl.need_out]; omega)).mono ?_
    rintro r w3 ⟨⟨m, rfl⟩, hs3, hk3⟩
    have HS3 := Lib.hid hs3
    have HK3 : Hid (OK8 b w w3) := Lib.hid (HK2.out.trans hk3)
    clear hs3 hk3
    go_wp2
    refine wpQuiet_nil ?_
    rintro _ ⟨nr, rfl⟩
    go_wp2
    exact HQ.out _ _ (by rw [HT2.out]; exact HS3.out.drewN nr) HK3.out
  have e1 : (z.text == [116, 114, 117, 101]) = false := by rw [beq_eq_false_iff_ne]; exact h1
  by_cases h2 : z.text = Rd.sFalse
  · have e2 : (z.text == [102, 97, 108, 115, 101]) = true := by rw [beq_iff_eq]; exact h2
    have HOK : Hid (false = L.1) := Lib.hid (by rw [HL0.out]; simp [h2])
    clear h2
    go_wp2_with fail
    clear e2 z0 z1 z2 z3 z4
    refine (HS.out.need false).mono ?_
    rintro r w2 ⟨rfl, hs2, hk2⟩
    rw [HOK.out] at hs2
    have HS2 := Lib.hid hs2
    have HK2 := Lib.hid (HK0.out.trans hk2)
    have HX2 := Lib.hid (ok8_at hk2 HX.out hxb (by decide))
    clear hs2 hk2
    have y1 := blk_cell HX2.out 1 (.string ⟨z.text.toArray⟩) rfl
    go_wp2_with fail
    refine wp_region_cuts [5] (by kernel_rfl) (by kernel_rfl) ?_; simp only [wpMix, List.take_succ_cons, List.take_zero, List.drop_succ_cons, List.drop_zero, Nat.sub_zero, Nat.reduceSub, Nat.reduceAdd]
    repeat (go_big_quiet_step (fail))
    refine wpQuiet_nil ?_; rintro _ ⟨nq, rfl⟩
    go_wp2_with fail
    refine ((HS2.out.drewN nq).str z.text (by rw [Vl.need_out]; omega)).mono ?_
    rintro r w3 ⟨⟨m, rfl⟩, hs3, hk3⟩
    have HS3 := Lib.hid hs3
    have HK3 : Hid (OK8 b w w3) := Lib.hid (HK2.out.trans hk3)
    clear hs3 hk3
    go_wp2
    refine wpQuiet_nil ?_
    rintro _ ⟨nr, rfl⟩
    go_wp2
    exact HQ.out _ _ (by rw [HT2.out]; exact HS3.out.drewN nr) HK3.out
  have e2 : (z.text == [102, 97, 108, 115, 101]) = false := by rw [beq_eq_false_iff_ne]; exact h2
  obtain ⟨ok, hok⟩ : ∃ ok, ok = (!(z.text == [110, 117, 108, 108])) := ⟨_, rfl⟩
  have HOK : Hid (ok = L.1) := Lib.hid (by
    rw [hok, HL0.out, decide_eq_true h1, decide_eq_true h2, show (z.text == [110, 117, 108, 108]) = decide (z.text = Rd.sNull) by (rw [Bool.eq_iff_iff, beq_iff_eq, decide_eq_true_iff]; exact Iff.rfl)]
    by_cases h3 : z.text = Rd.sNull <;> simp [h3])
  clear h1 h2
  go_wp2_with fail
  rw [← hok]
  clear hok e1 e2 z0 z1 z2 z3 z4
  refine (HS.out.need ok).mono ?_
  rintro r w2 ⟨rfl, hs2, hk2⟩
  rw [HOK.out] at hs2
  have HS2 := Lib.hid hs2
  have HK2 := Lib.hid (HK0.out.trans hk2)
  have HX2 := Lib.hid (ok8_at hk2 HX.out hxb (by decide))
  clear hs2 hk2
  have y1 := blk_cell HX2.out 1 (.string ⟨z.text.toArray⟩) rfl
  go_wp2_with fail
  refine wp_region_cuts [5] (by kernel_rfl) (by kernel_rfl) ?_; simp only [wpMix, List.take_succ_cons, List.take_zero, List.drop_succ_cons, List.drop_zero, Nat.sub_zero, Nat.reduceSub, Nat.reduceAdd]
  repeat (go_big_quiet_step (fail))
  refine wpQuiet_nil ?_; rintro _ ⟨nq, rfl⟩
  go_wp2_with fail
  refine ((HS2.out.drewN nq).str z.text (by rw [Vl.need_out]; omega)).mono ?_
  rintro r w3 ⟨⟨m, rfl⟩, hs3, hk3⟩
  have HS3 := Lib.hid hs3
  have HK3 : Hid (OK8 b w w3) := Lib.hid (HK2.out.trans hk3)
  clear hs3 hk3
  go_wp2
  refine wpQuiet_nil ?_
  rintro _ ⟨nr, rfl⟩
  go_wp2
  exact HQ.out _ _ (by rw [HT2.out]; exact HS3.out.drewN nr) HK3.out
end Go.Proofs.YtefjgpkpplkkgaaGreatDoor
