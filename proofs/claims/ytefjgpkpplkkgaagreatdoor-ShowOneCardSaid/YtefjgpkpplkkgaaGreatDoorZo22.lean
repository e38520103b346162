/-
  The shower of values: lists, objects, what is none, walked. The shower of values: value, walked.
-/
import Derived.Test.YtefjgpkpplkkgaaGreatDoorZo21
open Go.Lib renaming hid → QA
namespace Go.Proofs.YtefjgpkpplkkgaaGreatDoor
set_option maxRecDepth 100000
set_option maxHeartbeats 4000000
set_option linter.unusedSimpArgs false
set_option linter.unusedVariables false
open Go Go.RowKit
theorem LW (N:Nat) (INN:Dz N) (w0:World) (b:Nat) (s:Vl.Sh) (z:Vl.Z) (deep x:Nat) (a1 a2:Option Addr) (n1 n2:Nat) (w:World) (hN:z.n≤N) (HE:Hid (Env w0)) (h3:3≤w0.heap.size) (hdp:deep≤16) (hk:z.kind=8)
  (HS:Hid (SW w0 b s w)) (hlen:s.out.length+z.cost≤1000000000) (HX:Hid (w.heap[x]?=some (.cells #[.int .i64 z.kind,.string ⟨z.text.toArray⟩,.slice a1 z.items.length n1,.slice a2 z.fields.length n2,.int .i64 z.at_] 25 (0,0)))) (hxb:x≠b) (HRD:Hid (Reads w0 (λ_=>True) z.d (AN z a1 a2 n1 n2).toList))
  (Q:Exit→Act→World→Prop) (c3 c5 c6 c7 c8 c9 c10 c11 c12 c13 c14 c15 c16 c17 c18 c19 c20 c21 c22 c23 c24 c25 c26 c27 c28 c29 c30 c31 c32 c33 c34 c35 c36 c37 c38 c39 c40 c41 c42 c43 c44 c45 c46 c47 c48 c49 c50 c51 c52 c53 c54 c55 c56 c57 c58 c59 c60 c61 c62 c63 c64 c65 c66 c67 c68 c69 c70 c71 c72 c73 c74 c75 c76 c77 c78 c79 c80 c81 c82 c83 c84 c85 c86 c87 c88 c89 c90 c91 c92 c93 c94 c95 c96 c97 c98 c99 c100 c101 c102 c103 c104 c105 c106 c107 c108 c109 c110 c111 c112 c113 c114 c115 c116 c117 c118 c119 c120 c121 c122 c123 c124 c125 c126 c127 c128 c129 c130 c131 c132 c133 c134 c135 c136 c137 c138 c139 c140 c141 c142 c143 c144 c145 c146 c147 c148 c149 c150 c151 c152 c153 c154 c155 c156 c157 c158 c159 c160 c161 c162 c163 c164 c165 c166 c167 c168 c169:Value) (HQ:Hid (∀(tm:Array Value) (w':World),SW w0 b (if (Vl.need (decide (z.text=[])&&decide (deep<16)) s).bad=true then Vl.need (decide (z.text=[])&&decide (deep<16)) s else z.inner (deep+1) (Vl.need (decide (z.text=[])&&decide (deep<16)) s)) w'→OK8 b w w'→Q .normal ⟨tm,[]⟩ w')) :
  Code.wp Tryz.prog Bd Q ⟨#[.pointer (some ⟨b,0,none⟩),.agg #[.int .i64 z.kind,.string ⟨z.text.toArray⟩,.slice a1 z.items.length n1,.slice a2 z.fields.length n2,.int .i64 z.at_],.int .i64 (deep:Nat),c3,.pointer (some ⟨x,0,none⟩),c5,c6,c7,c8,c9,c10,c11,c12,c13,c14,c15,c16,c17,c18,c19,c20,c21,c22,c23,c24,c25,c26,c27,c28,c29,c30,c31,c32,c33,c34,c35,c36,c37,c38,c39,c40,c41,c42,c43,c44,c45,c46,c47,c48,c49,c50,c51,c52,c53,c54,c55,c56,c57,c58,c59,c60,c61,c62,c63,c64,c65,c66,c67,c68,c69,c70,c71,c72,c73,c74,c75,c76,c77,c78,c79,c80,c81,c82,c83,c84,c85,c86,c87,c88,c89,c90,c91,c92,c93,c94,c95,c96,c97,c98,c99,c100,c101,c102,c103,c104,c105,c106,c107,c108,c109,c110,c111,c112,c113,c114,c115,c116,c117,c118,c119,c120,c121,c122,c123,c124,c125,c126,c127,c128,c129,c130,c131,c132,c133,c134,c135,c136,c137,c138,c139,c140,c141,c142,c143,c144,c145,c146,c147,c148,c149,c150,c151,c152,c153,c154,c155,c156,c157,c158,c159,c160,c161,c162,c163,c164,c165,c166,c167,c168,c169],[]⟩ w:=by
 have U:=Vl.Z.cost_eq z;obtain⟨F,V⟩:∃F,F=(if (Vl.need (decide (z.text=[])&&decide (deep<16)) s).bad=true then Vl.need (decide (z.text=[])&&decide (deep<16)) s else z.inner (deep+1) (Vl.need (decide (z.text=[])&&decide (deep<16)) s)):=⟨_,rfl⟩
 rw[← V]at HQ;have R:=QA V;have O:=QA (λh:deep<16=>INN z hN (by omega) (deep+1) (by omega) w0 b);have q1:(z.kind==1)=false:=by rw[beq_eq_false_iff_ne];omega
 have q2:(z.kind==2)=false:=by rw[beq_eq_false_iff_ne];omega
 have q3:(z.kind==3)=false:=by rw[beq_eq_false_iff_ne];omega
 have Y:(z.kind==4)=false:=by rw[beq_eq_false_iff_ne];omega
 have q5:(z.kind==5)=false:=by rw[beq_eq_false_iff_ne];omega
 have q6:(z.kind==6)=false:=by rw[beq_eq_false_iff_ne];omega
 have q7:(z.kind==7)=false:=by rw[beq_eq_false_iff_ne];omega
 have q8:(z.kind==8)=true:=by rw[beq_iff_eq];exact hk
 have q9:(z.kind==9)=false:=by rw[beq_eq_false_iff_ne];omega
 obtain⟨M,L,I,J,K⟩:=BD HX.out rfl rfl rfl rfl rfl;clear V INN hN hk
 conv=>arg 2;whnf
 conv=>arg 4;zeta
 by_cases ht:z.text=[];rotate_left
 ·have X:z.text.isEmpty=false:=by cases h:z.text with|nil=>exact absurd h ht|cons _ _=>rfl
  have E:Hid ((decide (z.text=[])&&decide (deep<16))=false):=QA (by rw[decide_eq_false ht];rfl);clear ht;go_wp2_with fail;refine (HS.out.need false).mono ?_;rintro r w2 ⟨rfl,hs2,hk2⟩;have A:=QA hs2;have D:=QA hk2;have G:=QA (AD hk2 HX.out hxb (by decide));clear hs2 hk2 M L I J K;obtain⟨M,L,I,J,K⟩:=BD G.out rfl rfl rfl rfl rfl;have P:=A.out.badCell;obtain⟨H,o⟩:∃H,H=(Vl.need false s).bad:=⟨_,rfl⟩
  rw[← o]at P;have B:=QA o;clear o;cases H
  ·exfalso;have:=B.out;simp[Vl.need]at this
  ·have C:Hid (F=Vl.need false s):=QA (by rw[R.out,E.out,if_pos B.out.symm]);go_wp2_with fail;exact HQ.out _ _ (by rw[C.out];exact A.out) D.out
 have X:z.text.isEmpty=true:=by rw[ht];rfl
 by_cases hd:deep<16
 ·have W:decide ((deep:Int)<16)=true:=decide_eq_true (by omega);have E:Hid ((decide (z.text=[])&&decide (deep<16))=true):=QA (by rw[decide_eq_true ht,decide_eq_true hd];rfl);clear ht;go_wp2_with fail;refine (HS.out.need true).mono ?_;rintro r w2 ⟨rfl,hs2,hk2⟩;have A:=QA hs2;have D:=QA hk2;have G:=QA (AD hk2 HX.out hxb (by decide));clear hs2 hk2 M L I J K;obtain⟨M,L,I,J,K⟩:=BD G.out rfl rfl rfl rfl rfl;have P:=A.out.badCell;obtain⟨H,o⟩:∃H,H=(Vl.need true s).bad:=⟨_,rfl⟩
  rw[← o]at P;have B:=QA o;clear o;cases H
  ·have C:Hid (F=z.inner (deep+1) (Vl.need true s)):=QA (by rw[R.out,E.out,if_neg (by rw[← B.out];simp)]);go_wp2_with fail;refine (O.out hd (Vl.need true s) a1 a2 n1 n2 w2 HE.out h3 A.out (by rw[Vl.need_out];omega) HRD.out).mono ?_;rintro r w3 ⟨rfl,hs3,hk3⟩;have T:=QA hs3;have S:Hid (OK8 b w w3):=QA (D.out.trans hk3);clear hs3 hk3;go_wp2_with fail;exact HQ.out _ _ (by rw[C.out];exact T.out) S.out
  ·have C:Hid (F=Vl.need true s):=QA (by rw[R.out,E.out,if_pos B.out.symm]);go_wp2_with fail;exact HQ.out _ _ (by rw[C.out];exact A.out) D.out
 ·have W:decide ((deep:Int)<16)=false:=decide_eq_false (by omega);have E:Hid ((decide (z.text=[])&&decide (deep<16))=false):=QA (by rw[decide_eq_true ht,decide_eq_false hd];rfl);clear ht;go_wp2_with fail;refine (HS.out.need false).mono ?_;rintro r w2 ⟨rfl,hs2,hk2⟩;have A:=QA hs2;have D:=QA hk2;have G:=QA (AD hk2 HX.out hxb (by decide));clear hs2 hk2 M L I J K;obtain⟨M,L,I,J,K⟩:=BD G.out rfl rfl rfl rfl rfl;have P:=A.out.badCell;obtain⟨H,o⟩:∃H,H=(Vl.need false s).bad:=⟨_,rfl⟩
  rw[← o]at P;have B:=QA o;clear o;cases H
  ·exfalso;have:=B.out;simp[Vl.need]at this
  ·have C:Hid (F=Vl.need false s):=QA (by rw[R.out,E.out,if_pos B.out.symm]);go_wp2_with fail;exact HQ.out _ _ (by rw[C.out];exact A.out) D.out
theorem KO (N:Nat) (INN:Dz N) (w0:World) (b:Nat) (s:Vl.Sh) (z:Vl.Z) (deep x:Nat) (a1 a2:Option Addr) (n1 n2:Nat) (w:World) (hN:z.n≤N) (HE:Hid (Env w0)) (h3:3≤w0.heap.size) (hdp:deep≤16) (hk:z.kind=9)
  (HS:Hid (SW w0 b s w)) (hlen:s.out.length+z.cost≤1000000000) (HX:Hid (w.heap[x]?=some (.cells #[.int .i64 z.kind,.string ⟨z.text.toArray⟩,.slice a1 z.items.length n1,.slice a2 z.fields.length n2,.int .i64 z.at_] 25 (0,0)))) (hxb:x≠b) (HRD:Hid (Reads w0 (λ_=>True) z.d (AN z a1 a2 n1 n2).toList))
  (Q:Exit→Act→World→Prop) (c3 c5 c6 c7 c8 c9 c10 c11 c12 c13 c14 c15 c16 c17 c18 c19 c20 c21 c22 c23 c24 c25 c26 c27 c28 c29 c30 c31 c32 c33 c34 c35 c36 c37 c38 c39 c40 c41 c42 c43 c44 c45 c46 c47 c48 c49 c50 c51 c52 c53 c54 c55 c56 c57 c58 c59 c60 c61 c62 c63 c64 c65 c66 c67 c68 c69 c70 c71 c72 c73 c74 c75 c76 c77 c78 c79 c80 c81 c82 c83 c84 c85 c86 c87 c88 c89 c90 c91 c92 c93 c94 c95 c96 c97 c98 c99 c100 c101 c102 c103 c104 c105 c106 c107 c108 c109 c110 c111 c112 c113 c114 c115 c116 c117 c118 c119 c120 c121 c122 c123 c124 c125 c126 c127 c128 c129 c130 c131 c132 c133 c134 c135 c136 c137 c138 c139 c140 c141 c142 c143 c144 c145 c146 c147 c148 c149 c150 c151 c152 c153 c154 c155 c156 c157 c158 c159 c160 c161 c162 c163 c164 c165 c166 c167 c168 c169:Value) (HQ:Hid (∀(tm:Array Value) (w':World),SW w0 b (if (Vl.need (decide (z.text=[])&&decide (deep<16)) s).bad=true then Vl.need (decide (z.text=[])&&decide (deep<16)) s else z.inner (deep+1) (Vl.need (decide (z.text=[])&&decide (deep<16)) s)) w'→OK8 b w w'→Q .normal ⟨tm,[]⟩ w')) :
  Code.wp Tryz.prog Bd Q ⟨#[.pointer (some ⟨b,0,none⟩),.agg #[.int .i64 z.kind,.string ⟨z.text.toArray⟩,.slice a1 z.items.length n1,.slice a2 z.fields.length n2,.int .i64 z.at_],.int .i64 (deep:Nat),c3,.pointer (some ⟨x,0,none⟩),c5,c6,c7,c8,c9,c10,c11,c12,c13,c14,c15,c16,c17,c18,c19,c20,c21,c22,c23,c24,c25,c26,c27,c28,c29,c30,c31,c32,c33,c34,c35,c36,c37,c38,c39,c40,c41,c42,c43,c44,c45,c46,c47,c48,c49,c50,c51,c52,c53,c54,c55,c56,c57,c58,c59,c60,c61,c62,c63,c64,c65,c66,c67,c68,c69,c70,c71,c72,c73,c74,c75,c76,c77,c78,c79,c80,c81,c82,c83,c84,c85,c86,c87,c88,c89,c90,c91,c92,c93,c94,c95,c96,c97,c98,c99,c100,c101,c102,c103,c104,c105,c106,c107,c108,c109,c110,c111,c112,c113,c114,c115,c116,c117,c118,c119,c120,c121,c122,c123,c124,c125,c126,c127,c128,c129,c130,c131,c132,c133,c134,c135,c136,c137,c138,c139,c140,c141,c142,c143,c144,c145,c146,c147,c148,c149,c150,c151,c152,c153,c154,c155,c156,c157,c158,c159,c160,c161,c162,c163,c164,c165,c166,c167,c168,c169],[]⟩ w:=by
 have U:=Vl.Z.cost_eq z;obtain⟨F,V⟩:∃F,F=(if (Vl.need (decide (z.text=[])&&decide (deep<16)) s).bad=true then Vl.need (decide (z.text=[])&&decide (deep<16)) s else z.inner (deep+1) (Vl.need (decide (z.text=[])&&decide (deep<16)) s)):=⟨_,rfl⟩
 rw[← V]at HQ;have R:=QA V;have O:=QA (λh:deep<16=>INN z hN (by omega) (deep+1) (by omega) w0 b);have q1:(z.kind==1)=false:=by rw[beq_eq_false_iff_ne];omega
 have q2:(z.kind==2)=false:=by rw[beq_eq_false_iff_ne];omega
 have q3:(z.kind==3)=false:=by rw[beq_eq_false_iff_ne];omega
 have Y:(z.kind==4)=false:=by rw[beq_eq_false_iff_ne];omega
 have q5:(z.kind==5)=false:=by rw[beq_eq_false_iff_ne];omega
 have q6:(z.kind==6)=false:=by rw[beq_eq_false_iff_ne];omega
 have q7:(z.kind==7)=false:=by rw[beq_eq_false_iff_ne];omega
 have q8:(z.kind==8)=false:=by rw[beq_eq_false_iff_ne];omega
 have q9:(z.kind==9)=true:=by rw[beq_iff_eq];exact hk
 obtain⟨M,L,I,J,K⟩:=BD HX.out rfl rfl rfl rfl rfl;clear V INN hN hk
 conv=>arg 2;whnf
 conv=>arg 4;zeta
 by_cases ht:z.text=[];rotate_left
 ·have X:z.text.isEmpty=false:=by cases h:z.text with|nil=>exact absurd h ht|cons _ _=>rfl
  have E:Hid ((decide (z.text=[])&&decide (deep<16))=false):=QA (by rw[decide_eq_false ht];rfl);clear ht;go_wp2_with fail;refine (HS.out.need false).mono ?_;rintro r w2 ⟨rfl,hs2,hk2⟩;have A:=QA hs2;have D:=QA hk2;have G:=QA (AD hk2 HX.out hxb (by decide));clear hs2 hk2 M L I J K;obtain⟨M,L,I,J,K⟩:=BD G.out rfl rfl rfl rfl rfl;have P:=A.out.badCell;obtain⟨H,o⟩:∃H,H=(Vl.need false s).bad:=⟨_,rfl⟩
  rw[← o]at P;have B:=QA o;clear o;cases H
  ·exfalso;have:=B.out;simp[Vl.need]at this
  ·have C:Hid (F=Vl.need false s):=QA (by rw[R.out,E.out,if_pos B.out.symm]);go_wp2_with fail;exact HQ.out _ _ (by rw[C.out];exact A.out) D.out
 have X:z.text.isEmpty=true:=by rw[ht];rfl
 by_cases hd:deep<16
 ·have W:decide ((deep:Int)<16)=true:=decide_eq_true (by omega);have E:Hid ((decide (z.text=[])&&decide (deep<16))=true):=QA (by rw[decide_eq_true ht,decide_eq_true hd];rfl);clear ht;go_wp2_with fail;refine (HS.out.need true).mono ?_;rintro r w2 ⟨rfl,hs2,hk2⟩;have A:=QA hs2;have D:=QA hk2;have G:=QA (AD hk2 HX.out hxb (by decide));clear hs2 hk2 M L I J K;obtain⟨M,L,I,J,K⟩:=BD G.out rfl rfl rfl rfl rfl;have P:=A.out.badCell;obtain⟨H,o⟩:∃H,H=(Vl.need true s).bad:=⟨_,rfl⟩
  rw[← o]at P;have B:=QA o;clear o;cases H
  ·have C:Hid (F=z.inner (deep+1) (Vl.need true s)):=QA (by rw[R.out,E.out,if_neg (by rw[← B.out];simp)]);go_wp2_with fail;refine (O.out hd (Vl.need true s) a1 a2 n1 n2 w2 HE.out h3 A.out (by rw[Vl.need_out];omega) HRD.out).mono ?_;rintro r w3 ⟨rfl,hs3,hk3⟩;have T:=QA hs3;have S:Hid (OK8 b w w3):=QA (D.out.trans hk3);clear hs3 hk3;go_wp2_with fail;exact HQ.out _ _ (by rw[C.out];exact T.out) S.out
  ·have C:Hid (F=Vl.need true s):=QA (by rw[R.out,E.out,if_pos B.out.symm]);go_wp2_with fail;exact HQ.out _ _ (by rw[C.out];exact A.out) D.out
 ·have W:decide ((deep:Int)<16)=false:=decide_eq_false (by omega);have E:Hid ((decide (z.text=[])&&decide (deep<16))=false):=QA (by rw[decide_eq_true ht,decide_eq_false hd];rfl);clear ht;go_wp2_with fail;refine (HS.out.need false).mono ?_;rintro r w2 ⟨rfl,hs2,hk2⟩;have A:=QA hs2;have D:=QA hk2;have G:=QA (AD hk2 HX.out hxb (by decide));clear hs2 hk2 M L I J K;obtain⟨M,L,I,J,K⟩:=BD G.out rfl rfl rfl rfl rfl;have P:=A.out.badCell;obtain⟨H,o⟩:∃H,H=(Vl.need false s).bad:=⟨_,rfl⟩
  rw[← o]at P;have B:=QA o;clear o;cases H
  ·exfalso;have:=B.out;simp[Vl.need]at this
  ·have C:Hid (F=Vl.need false s):=QA (by rw[R.out,E.out,if_pos B.out.symm]);go_wp2_with fail;exact HQ.out _ _ (by rw[C.out];exact A.out) D.out
theorem LQ (N:Nat) (INN:Dz N) (w0:World) (b:Nat) (s:Vl.Sh) (z:Vl.Z) (deep x:Nat) (a1 a2:Option Addr) (n1 n2:Nat) (w:World) (hN:z.n≤N) (HE:Hid (Env w0)) (h3:3≤w0.heap.size) (hdp:deep≤16) (hk:¬(1≤z.kind∧z.kind≤9))
  (HS:Hid (SW w0 b s w)) (hlen:s.out.length+z.cost≤1000000000) (HX:Hid (w.heap[x]?=some (.cells #[.int .i64 z.kind,.string ⟨z.text.toArray⟩,.slice a1 z.items.length n1,.slice a2 z.fields.length n2,.int .i64 z.at_] 25 (0,0)))) (hxb:x≠b) (HRD:Hid (Reads w0 (λ_=>True) z.d (AN z a1 a2 n1 n2).toList))
  (Q:Exit→Act→World→Prop) (c3 c5 c6 c7 c8 c9 c10 c11 c12 c13 c14 c15 c16 c17 c18 c19 c20 c21 c22 c23 c24 c25 c26 c27 c28 c29 c30 c31 c32 c33 c34 c35 c36 c37 c38 c39 c40 c41 c42 c43 c44 c45 c46 c47 c48 c49 c50 c51 c52 c53 c54 c55 c56 c57 c58 c59 c60 c61 c62 c63 c64 c65 c66 c67 c68 c69 c70 c71 c72 c73 c74 c75 c76 c77 c78 c79 c80 c81 c82 c83 c84 c85 c86 c87 c88 c89 c90 c91 c92 c93 c94 c95 c96 c97 c98 c99 c100 c101 c102 c103 c104 c105 c106 c107 c108 c109 c110 c111 c112 c113 c114 c115 c116 c117 c118 c119 c120 c121 c122 c123 c124 c125 c126 c127 c128 c129 c130 c131 c132 c133 c134 c135 c136 c137 c138 c139 c140 c141 c142 c143 c144 c145 c146 c147 c148 c149 c150 c151 c152 c153 c154 c155 c156 c157 c158 c159 c160 c161 c162 c163 c164 c165 c166 c167 c168 c169:Value) (HQ:Hid (∀(tm:Array Value) (w':World),SW w0 b (Vl.need false s) w'→OK8 b w w'→Q .normal ⟨tm,[]⟩ w')) :
  Code.wp Tryz.prog Bd Q ⟨#[.pointer (some ⟨b,0,none⟩),.agg #[.int .i64 z.kind,.string ⟨z.text.toArray⟩,.slice a1 z.items.length n1,.slice a2 z.fields.length n2,.int .i64 z.at_],.int .i64 (deep:Nat),c3,.pointer (some ⟨x,0,none⟩),c5,c6,c7,c8,c9,c10,c11,c12,c13,c14,c15,c16,c17,c18,c19,c20,c21,c22,c23,c24,c25,c26,c27,c28,c29,c30,c31,c32,c33,c34,c35,c36,c37,c38,c39,c40,c41,c42,c43,c44,c45,c46,c47,c48,c49,c50,c51,c52,c53,c54,c55,c56,c57,c58,c59,c60,c61,c62,c63,c64,c65,c66,c67,c68,c69,c70,c71,c72,c73,c74,c75,c76,c77,c78,c79,c80,c81,c82,c83,c84,c85,c86,c87,c88,c89,c90,c91,c92,c93,c94,c95,c96,c97,c98,c99,c100,c101,c102,c103,c104,c105,c106,c107,c108,c109,c110,c111,c112,c113,c114,c115,c116,c117,c118,c119,c120,c121,c122,c123,c124,c125,c126,c127,c128,c129,c130,c131,c132,c133,c134,c135,c136,c137,c138,c139,c140,c141,c142,c143,c144,c145,c146,c147,c148,c149,c150,c151,c152,c153,c154,c155,c156,c157,c158,c159,c160,c161,c162,c163,c164,c165,c166,c167,c168,c169],[]⟩ w:=by
 have B:=Vl.Z.cost_eq z;have E:(z.kind==1)=false:=by rw[beq_eq_false_iff_ne];omega
 have J:(z.kind==2)=false:=by rw[beq_eq_false_iff_ne];omega
 have L:(z.kind==3)=false:=by rw[beq_eq_false_iff_ne];omega
 have C:(z.kind==4)=false:=by rw[beq_eq_false_iff_ne];omega
 have R:(z.kind==5)=false:=by rw[beq_eq_false_iff_ne];omega
 have K:(z.kind==6)=false:=by rw[beq_eq_false_iff_ne];omega
 have P:(z.kind==7)=false:=by rw[beq_eq_false_iff_ne];omega
 have F:(z.kind==8)=false:=by rw[beq_eq_false_iff_ne];omega
 have O:(z.kind==9)=false:=by rw[beq_eq_false_iff_ne];omega
 obtain⟨M,D,G,H,I⟩:=BD HX.out rfl rfl rfl rfl rfl;clear INN hN hk
 conv=>arg 2;whnf
 conv=>arg 4;zeta
 go_wp2_with fail;refine (HS.out.need false).mono ?_;rintro r w2 ⟨rfl,hs2,hk2⟩;have A:=QA hs2;have o:=QA hk2;clear hs2 hk2;go_wp2_with fail;exact HQ.out _ _ A.out o.out
theorem Ly (N:Nat) (INN:Dz N) (w0:World) (b:Nat) (s:Vl.Sh) (z:Vl.Z) (deep x:Nat) (a1 a2:Option Addr) (n1 n2:Nat) (w:World) (hN:z.n≤N) (HE:Hid (Env w0)) (h3:3≤w0.heap.size) (hdp:deep≤16)
  (HS:Hid (SW w0 b s w)) (hlen:s.out.length+z.cost≤1000000000) (HX:Hid (w.heap[x]?=some (.cells #[.int .i64 z.kind,.string ⟨z.text.toArray⟩,.slice a1 z.items.length n1,.slice a2 z.fields.length n2,.int .i64 z.at_] 25 (0,0)))) (hxb:x≠b) (HRD:Hid (Reads w0 (λ_=>True) z.d (AN z a1 a2 n1 n2).toList))
  (Q:Exit→Act→World→Prop) (c3 c5 c6 c7 c8 c9 c10 c11 c12 c13 c14 c15 c16 c17 c18 c19 c20 c21 c22 c23 c24 c25 c26 c27 c28 c29 c30 c31 c32 c33 c34 c35 c36 c37 c38 c39 c40 c41 c42 c43 c44 c45 c46 c47 c48 c49 c50 c51 c52 c53 c54 c55 c56 c57 c58 c59 c60 c61 c62 c63 c64 c65 c66 c67 c68 c69 c70 c71 c72 c73 c74 c75 c76 c77 c78 c79 c80 c81 c82 c83 c84 c85 c86 c87 c88 c89 c90 c91 c92 c93 c94 c95 c96 c97 c98 c99 c100 c101 c102 c103 c104 c105 c106 c107 c108 c109 c110 c111 c112 c113 c114 c115 c116 c117 c118 c119 c120 c121 c122 c123 c124 c125 c126 c127 c128 c129 c130 c131 c132 c133 c134 c135 c136 c137 c138 c139 c140 c141 c142 c143 c144 c145 c146 c147 c148 c149 c150 c151 c152 c153 c154 c155 c156 c157 c158 c159 c160 c161 c162 c163 c164 c165 c166 c167 c168 c169:Value) (HQ:Hid (∀(tm:Array Value) (w':World),SW w0 b (z.rest deep s) w'→OK8 b w w'→Q .normal ⟨tm,[]⟩ w')) :
  Code.wp Tryz.prog Bd Q ⟨#[.pointer (some ⟨b,0,none⟩),.agg #[.int .i64 z.kind,.string ⟨z.text.toArray⟩,.slice a1 z.items.length n1,.slice a2 z.fields.length n2,.int .i64 z.at_],.int .i64 (deep:Nat),c3,.pointer (some ⟨x,0,none⟩),c5,c6,c7,c8,c9,c10,c11,c12,c13,c14,c15,c16,c17,c18,c19,c20,c21,c22,c23,c24,c25,c26,c27,c28,c29,c30,c31,c32,c33,c34,c35,c36,c37,c38,c39,c40,c41,c42,c43,c44,c45,c46,c47,c48,c49,c50,c51,c52,c53,c54,c55,c56,c57,c58,c59,c60,c61,c62,c63,c64,c65,c66,c67,c68,c69,c70,c71,c72,c73,c74,c75,c76,c77,c78,c79,c80,c81,c82,c83,c84,c85,c86,c87,c88,c89,c90,c91,c92,c93,c94,c95,c96,c97,c98,c99,c100,c101,c102,c103,c104,c105,c106,c107,c108,c109,c110,c111,c112,c113,c114,c115,c116,c117,c118,c119,c120,c121,c122,c123,c124,c125,c126,c127,c128,c129,c130,c131,c132,c133,c134,c135,c136,c137,c138,c139,c140,c141,c142,c143,c144,c145,c146,c147,c148,c149,c150,c151,c152,c153,c154,c155,c156,c157,c158,c159,c160,c161,c162,c163,c164,c165,c166,c167,c168,c169],[]⟩ w:=by
 by_cases h1:1≤z.kind∧z.kind≤7
 ·have A:z.rest deep s=Vl.put (Vl.leaf z.kind z.text).2 (Vl.need (Vl.leaf z.kind z.text).1 s):=by unfold Vl.Z.rest;exact if_pos h1
  rw[A]at HQ;have o:z.kind=1∨z.kind=2∨z.kind=3∨z.kind=4∨z.kind=5∨z.kind=6∨z.kind=7:=by omega
  rcases o with o|o|o|o|o|o|o
  ·exact LJ N INN w0 b s z deep x a1 a2 n1 n2 w hN HE h3 hdp o _ (QA (by rw[o];unfold Vl.leaf;simp)) HS hlen HX hxb HRD Q _ _ _ _ _ _ _ _ _ _ _ _ _ _ _ _ _ _ _ _ _ _ _ _ _ _ _ _ _ _ _ _ _ _ _ _ _ _ _ _ _ _ _ _ _ _ _ _ _ _ _ _ _ _ _ _ _ _ _ _ _ _ _ _ _ _ _ _ _ _ _ _ _ _ _ _ _ _ _ _ _ _ _ _ _ _ _ _ _ _ _ _ _ _ _ _ _ _ _ _ _ _ _ _ _ _ _ _ _ _ _ _ _ _ _ _ _ _ _ _ _ _ _ _ _ _ _ _ _ _ _ _ _ _ _ _ _ _ _ _ _ _ _ _ _ _ _ _ _ _ _ _ _ _ _ _ _ _ _ _ _ _ _ _ _ _ HQ
  ·exact LL N INN w0 b s z deep x a1 a2 n1 n2 w hN HE h3 hdp o _ (QA (by rw[o];unfold Vl.leaf;simp)) HS hlen HX hxb HRD Q _ _ _ _ _ _ _ _ _ _ _ _ _ _ _ _ _ _ _ _ _ _ _ _ _ _ _ _ _ _ _ _ _ _ _ _ _ _ _ _ _ _ _ _ _ _ _ _ _ _ _ _ _ _ _ _ _ _ _ _ _ _ _ _ _ _ _ _ _ _ _ _ _ _ _ _ _ _ _ _ _ _ _ _ _ _ _ _ _ _ _ _ _ _ _ _ _ _ _ _ _ _ _ _ _ _ _ _ _ _ _ _ _ _ _ _ _ _ _ _ _ _ _ _ _ _ _ _ _ _ _ _ _ _ _ _ _ _ _ _ _ _ _ _ _ _ _ _ _ _ _ _ _ _ _ _ _ _ _ _ _ _ _ _ _ _ HQ
  ·exact Ky N INN w0 b s z deep x a1 a2 n1 n2 w hN HE h3 hdp o _ (QA (by rw[o];unfold Vl.leaf;simp)) HS hlen HX hxb HRD Q _ _ _ _ _ _ _ _ _ _ _ _ _ _ _ _ _ _ _ _ _ _ _ _ _ _ _ _ _ _ _ _ _ _ _ _ _ _ _ _ _ _ _ _ _ _ _ _ _ _ _ _ _ _ _ _ _ _ _ _ _ _ _ _ _ _ _ _ _ _ _ _ _ _ _ _ _ _ _ _ _ _ _ _ _ _ _ _ _ _ _ _ _ _ _ _ _ _ _ _ _ _ _ _ _ _ _ _ _ _ _ _ _ _ _ _ _ _ _ _ _ _ _ _ _ _ _ _ _ _ _ _ _ _ _ _ _ _ _ _ _ _ _ _ _ _ _ _ _ _ _ _ _ _ _ _ _ _ _ _ _ _ _ _ _ _ HQ
  ·exact Kd N INN w0 b s z deep x a1 a2 n1 n2 w hN HE h3 hdp o _ (QA (by rw[o];unfold Vl.leaf;simp)) HS hlen HX hxb HRD Q _ _ _ _ _ _ _ _ _ _ _ _ _ _ _ _ _ _ _ _ _ _ _ _ _ _ _ _ _ _ _ _ _ _ _ _ _ _ _ _ _ _ _ _ _ _ _ _ _ _ _ _ _ _ _ _ _ _ _ _ _ _ _ _ _ _ _ _ _ _ _ _ _ _ _ _ _ _ _ _ _ _ _ _ _ _ _ _ _ _ _ _ _ _ _ _ _ _ _ _ _ _ _ _ _ _ _ _ _ _ _ _ _ _ _ _ _ _ _ _ _ _ _ _ _ _ _ _ _ _ _ _ _ _ _ _ _ _ _ _ _ _ _ _ _ _ _ _ _ _ _ _ _ _ _ _ _ _ _ _ _ _ _ _ _ _ HQ
  ·exact LO N INN w0 b s z deep x a1 a2 n1 n2 w hN HE h3 hdp o _ (QA (by rw[o];unfold Vl.leaf;simp)) HS hlen HX hxb HRD Q _ _ _ _ _ _ _ _ _ _ _ _ _ _ _ _ _ _ _ _ _ _ _ _ _ _ _ _ _ _ _ _ _ _ _ _ _ _ _ _ _ _ _ _ _ _ _ _ _ _ _ _ _ _ _ _ _ _ _ _ _ _ _ _ _ _ _ _ _ _ _ _ _ _ _ _ _ _ _ _ _ _ _ _ _ _ _ _ _ _ _ _ _ _ _ _ _ _ _ _ _ _ _ _ _ _ _ _ _ _ _ _ _ _ _ _ _ _ _ _ _ _ _ _ _ _ _ _ _ _ _ _ _ _ _ _ _ _ _ _ _ _ _ _ _ _ _ _ _ _ _ _ _ _ _ _ _ _ _ _ _ _ _ _ _ _ HQ
  ·exact Kl N INN w0 b s z deep x a1 a2 n1 n2 w hN HE h3 hdp o _ (QA (by rw[o];unfold Vl.leaf;simp)) HS hlen HX hxb HRD Q _ _ _ _ _ _ _ _ _ _ _ _ _ _ _ _ _ _ _ _ _ _ _ _ _ _ _ _ _ _ _ _ _ _ _ _ _ _ _ _ _ _ _ _ _ _ _ _ _ _ _ _ _ _ _ _ _ _ _ _ _ _ _ _ _ _ _ _ _ _ _ _ _ _ _ _ _ _ _ _ _ _ _ _ _ _ _ _ _ _ _ _ _ _ _ _ _ _ _ _ _ _ _ _ _ _ _ _ _ _ _ _ _ _ _ _ _ _ _ _ _ _ _ _ _ _ _ _ _ _ _ _ _ _ _ _ _ _ _ _ _ _ _ _ _ _ _ _ _ _ _ _ _ _ _ _ _ _ _ _ _ _ _ _ _ _ HQ
  ·exact LZ N INN w0 b s z deep x a1 a2 n1 n2 w hN HE h3 hdp o _ (QA (by rw[o];unfold Vl.leaf;simp)) HS hlen HX hxb HRD Q _ _ _ _ _ _ _ _ _ _ _ _ _ _ _ _ _ _ _ _ _ _ _ _ _ _ _ _ _ _ _ _ _ _ _ _ _ _ _ _ _ _ _ _ _ _ _ _ _ _ _ _ _ _ _ _ _ _ _ _ _ _ _ _ _ _ _ _ _ _ _ _ _ _ _ _ _ _ _ _ _ _ _ _ _ _ _ _ _ _ _ _ _ _ _ _ _ _ _ _ _ _ _ _ _ _ _ _ _ _ _ _ _ _ _ _ _ _ _ _ _ _ _ _ _ _ _ _ _ _ _ _ _ _ _ _ _ _ _ _ _ _ _ _ _ _ _ _ _ _ _ _ _ _ _ _ _ _ _ _ _ _ _ _ _ _ HQ
 by_cases h8:z.kind=8∨z.kind=9
 ·have A:z.rest deep s=(if (Vl.need (decide (z.text=[])&&decide (deep<16)) s).bad=true then Vl.need (decide (z.text=[])&&decide (deep<16)) s else z.inner (deep+1) (Vl.need (decide (z.text=[])&&decide (deep<16)) s)):=by unfold Vl.Z.rest;rw[if_neg h1,if_pos h8]
  rw[A]at HQ;rcases h8 with o|o
  ·exact LW N INN w0 b s z deep x a1 a2 n1 n2 w hN HE h3 hdp o HS hlen HX hxb HRD Q _ _ _ _ _ _ _ _ _ _ _ _ _ _ _ _ _ _ _ _ _ _ _ _ _ _ _ _ _ _ _ _ _ _ _ _ _ _ _ _ _ _ _ _ _ _ _ _ _ _ _ _ _ _ _ _ _ _ _ _ _ _ _ _ _ _ _ _ _ _ _ _ _ _ _ _ _ _ _ _ _ _ _ _ _ _ _ _ _ _ _ _ _ _ _ _ _ _ _ _ _ _ _ _ _ _ _ _ _ _ _ _ _ _ _ _ _ _ _ _ _ _ _ _ _ _ _ _ _ _ _ _ _ _ _ _ _ _ _ _ _ _ _ _ _ _ _ _ _ _ _ _ _ _ _ _ _ _ _ _ _ _ _ _ _ _ HQ
  ·exact KO N INN w0 b s z deep x a1 a2 n1 n2 w hN HE h3 hdp o HS hlen HX hxb HRD Q _ _ _ _ _ _ _ _ _ _ _ _ _ _ _ _ _ _ _ _ _ _ _ _ _ _ _ _ _ _ _ _ _ _ _ _ _ _ _ _ _ _ _ _ _ _ _ _ _ _ _ _ _ _ _ _ _ _ _ _ _ _ _ _ _ _ _ _ _ _ _ _ _ _ _ _ _ _ _ _ _ _ _ _ _ _ _ _ _ _ _ _ _ _ _ _ _ _ _ _ _ _ _ _ _ _ _ _ _ _ _ _ _ _ _ _ _ _ _ _ _ _ _ _ _ _ _ _ _ _ _ _ _ _ _ _ _ _ _ _ _ _ _ _ _ _ _ _ _ _ _ _ _ _ _ _ _ _ _ _ _ _ _ _ _ _ HQ
 ·have A:z.rest deep s=Vl.need false s:=by unfold Vl.Z.rest;rw[if_neg h1,if_neg h8]
  rw[A]at HQ;exact LQ N INN w0 b s z deep x a1 a2 n1 n2 w hN HE h3 hdp (by omega) HS hlen HX hxb HRD Q _ _ _ _ _ _ _ _ _ _ _ _ _ _ _ _ _ _ _ _ _ _ _ _ _ _ _ _ _ _ _ _ _ _ _ _ _ _ _ _ _ _ _ _ _ _ _ _ _ _ _ _ _ _ _ _ _ _ _ _ _ _ _ _ _ _ _ _ _ _ _ _ _ _ _ _ _ _ _ _ _ _ _ _ _ _ _ _ _ _ _ _ _ _ _ _ _ _ _ _ _ _ _ _ _ _ _ _ _ _ _ _ _ _ _ _ _ _ _ _ _ _ _ _ _ _ _ _ _ _ _ _ _ _ _ _ _ _ _ _ _ _ _ _ _ _ _ _ _ _ _ _ _ _ _ _ _ _ _ _ _ _ _ _ _ _ HQ
def Nm (N:Nat):Prop:=∀(z:Vl.Z),z.n≤N→∀(deep:Nat),deep≤16→∀(w0:World) (b:Nat) (s:Vl.Sh) (a1 a2:Option Addr) (n1 n2:Nat) (w:World),Env w0→3≤w0.heap.size→SW w0 b s w→s.out.length+z.cost≤1000000000 →
 Reads w0 (λ_=>True) z.d (AN z a1 a2 n1 n2).toList →
 Calls Tryz.prog 32 #[.pointer (some ⟨b,0,none⟩),.agg (AN z a1 a2 n1 n2),.int .i64 deep] w (λe w'=>e=.returned (.tuple #[])∧SW w0 b (z.show deep s) w'∧OK8 b w w')
set_option maxHeartbeats 8000000 in
theorem Es (N:Nat) (INN:Dz N):Nm N:=by
 intro z hN deep hdp w0 b s a1 a2 n1 n2 w hE h3 hS hlen hR;unfold AN;obtain⟨I,A⟩:∃v,v=w.alloc (.cells #[.int .i64 z.kind,.string ⟨z.text.toArray⟩,.slice a1 z.items.length n1,.slice a2 z.fields.length n2,.int .i64 z.at_] 25):=⟨_,rfl⟩
 have K:SW w0 b s I:=by rw[A];exact hS.alloc _
 have G:I.heap[w.heap.size]?=some (.cells #[.int .i64 z.kind,.string ⟨z.text.toArray⟩,.slice a1 z.items.length n1,.slice a2 z.fields.length n2,.int .i64 z.at_] 25 (0,0)):=by rw[A];exact AC _ _
 have H:w.heap.size≠b:=by have:=hS.sh.lt;omega
 have F:OK8 b w I:=by rw[A];exact Ab ((Below.refl _ _).alloc (Nat.le_refl _) _)
 have J:Hid (z.show deep s=z.rest deep (Vl.need (Vl.parts z.kind z.items.length z.fields.length) s)):=QA (Vl.Z.show_rest deep z s);have HE:=QA hE;have D:=QA INN;have HN:=QA hN;have Q:=QA hlen;have L:=QA A;have T:=QA K;have V:=QA G;have Y:=QA F;have P:=QA hR;obtain⟨E,B⟩:∃p,p=Vl.parts z.kind z.items.length z.fields.length:=⟨_,rfl⟩
 rw[← B]at J;have HM:Hid (∀q,q=E→Calls Tryz.prog 86 #[.pointer (some ⟨b,0,none⟩),.bool q] I λe w'=>e=.returned (.tuple #[])∧SW w0 b (Vl.need E s) w'∧OK8 b I w'):=QA (λq h=>by rw[h];exact T.out.need E);have aa:=QA B;rw[A]at HM;clear hE INN hN hlen A K G F hR hS B;by_cases h8:z.kind=8<;>by_cases h9:z.kind=9<;>by_cases hi:z.items.length=0<;>by_cases hf:z.fields.length=0
 all_goals
  have M:(z.kind==8)=decide (z.kind=8):=by rw[Bool.eq_iff_iff,beq_iff_eq,decide_eq_true_iff]
  have U:(z.kind==9)=decide (z.kind=9):=by rw[Bool.eq_iff_iff,beq_iff_eq,decide_eq_true_iff]
  have R:((z.items.length:Int)==0)=decide (z.items.length=0):=by rw[Bool.eq_iff_iff,beq_iff_eq,decide_eq_true_iff];omega
  have ef:((z.fields.length:Int)==0)=decide (z.fields.length=0):=by rw[Bool.eq_iff_iff,beq_iff_eq,decide_eq_true_iff];omega
  have o:Hid (E=((decide (z.kind=8)||decide (z.items.length=0))&&(decide (z.kind=9)||decide (z.fields.length=0)))):=QA (by rw[aa.out];rfl)
  first
   | rw[decide_eq_true h8]at M o
   | rw[decide_eq_false h8]at M o
  first
   | rw[decide_eq_true h9]at U o
   | rw[decide_eq_false h9]at U o
  first
   | rw[decide_eq_true hi]at R o
   | rw[decide_eq_false hi]at R o
  first
   | rw[decide_eq_true hf]at ef o
   | rw[decide_eq_false hf]at ef o
  have C:=o.out;simp only[Bool.or_true,Bool.true_or,Bool.or_false,Bool.false_or,Bool.and_true,Bool.and_false,Bool.true_and,Bool.false_and,Bool.and_self,Bool.or_self]at C;have O:=QA C;clear h8 h9 hi hf C o;go_enter Tryz.func32,Tryz.ntmps32;go_wp2_with fail;refine (HM.out _ O.out.symm).mono ?_;rintro r w2 ⟨rfl,hs2,hk2⟩;rw[← L.out]at hk2;have X:=QA hs2;have W:Hid (OK8 b w w2):=QA (Y.out.trans hk2);have S:=QA (AD hk2 V.out H (by decide));clear hs2 hk2 M U R ef;rename_i QQ K1 hK1 K2 hK2;refine hK2 _ _ (hK1 _ _ ?_);refine Ly N D.out w0 b (Vl.need E s) z deep w.heap.size a1 a2 n1 n2 w2 HN.out HE h3 hdp X (by rw[Vl.need_out];exact Q.out) S H P _ _ _ _ _ _ _ _ _ _ _ _ _ _ _ _ _ _ _ _ _ _ _ _ _ _ _ _ _ _ _ _ _ _ _ _ _ _ _ _ _ _ _ _ _ _ _ _ _ _ _ _ _ _ _ _ _ _ _ _ _ _ _ _ _ _ _ _ _ _ _ _ _ _ _ _ _ _ _ _ _ _ _ _ _ _ _ _ _ _ _ _ _ _ _ _ _ _ _ _ _ _ _ _ _ _ _ _ _ _ _ _ _ _ _ _ _ _ _ _ _ _ _ _ _ _ _ _ _ _ _ _ _ _ _ _ _ _ _ _ _ _ _ _ _ _ _ _ _ _ _ _ _ _ _ _ _ _ _ _ _ _ _ _ _ _ _ (QA ?_);intro tm w' h1 h2;go_end0;exact⟨rfl,by rw[J.out];exact h1,W.out.trans h2⟩
end Go.Proofs.YtefjgpkpplkkgaaGreatDoor
