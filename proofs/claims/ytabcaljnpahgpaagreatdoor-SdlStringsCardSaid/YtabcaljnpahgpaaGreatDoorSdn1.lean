/-
  'SdlJoins', walked.
-/
import Derived.Test.YtabcaljnpahgpaaGreatDoorSdk
import Derived.Test.YtabcaljnpahgpaaGreatDoorSds
import Derived.Test.YtabcaljnpahgpaaGreatDoorSdb
namespace Go.Proofs.YtabcaljnpahgpaaGreatDoor
set_option linter.unusedSimpArgs false
set_option linter.unusedVariables false
open Go Go.RowKit

section
variable {w w' : World} {P Q : Nat → Prop} {k : Nat}
theorem seq_rows {a : Option Addr} : ∀ {i : Nat} {ds : List D}, ReadsS w P k a i ds → ∀ (g o : Nat), a = some ⟨g, o, none⟩ → ∃ news, RowsD w P k ds news ∧ (∀ (j : Nat) u, news[j]? = some u → w.cell? ⟨g, o + i * k + j, none⟩ = some u) ∧ ∀ u ∈ news, u.oneCell' = true
  | _, _, .nil, g, o, _ => ⟨[], .nil, fun j u h => by simp at h, fun u h => by simp at h⟩
  | i, _ :: ds, .cons (cs := cs) e hP hg hl hc h t, g, o, ha => by
    obtain ⟨news, h1, h2, h3⟩ := seq_rows t g o ha
    rw [ha] at e
    simp only [Option.some.injEq, Addr.mk.injEq, and_true] at e
    obtain ⟨rfl, rfl⟩ := e
    refine ⟨cs ++ news, .cons h hl h1, fun j u hj => ?_, fun u hu => ?_⟩
    · rcases Nat.lt_or_ge j cs.length with hlt | hge
      · rw [List.getElem?_append_left hlt] at hj
        exact hc j u hj
      · rw [List.getElem?_append_right hge] at hj
        have := h2 (j - cs.length) u hj
        rw [Nat.succ_mul] at this
        rw [show o + i * k + j = o + (i * k + k) + (j - cs.length) by omega]
        exact this
    · rcases List.mem_append.1 hu with hu | hu
      · exact Reads.one h u hu
      · exact h3 u hu
theorem RowsD.append : ∀ {ds es : List D} {cs cs' : List Value}, RowsD w P k ds cs → RowsD w P k es cs' → RowsD w P k (ds ++ es) (cs ++ cs')
  | _, _, _, _, .nil, h => h
  | _, _, _, _, .cons h hl t, h2 => by
    rw [List.append_assoc]
    exact .cons h hl (t.append h2)
end
namespace Sd
theorem defs_ne (n : Nat) : ∀ (k : Nat) (s : Rd.St) (out : List Td), out ≠ [] → (defs n k s out).2 ≠ []
  | 0, s, out, h => by rw [defs]; exact h
  | k + 1, s, out, h => by
    rw [defs_succ]
    split
    · exact defs_ne n k _ _ (by simp)
    · exact h
theorem parse_ne {l : List UInt8} (h : (parse l).1.err = 0) : (parse l).2 ≠ [] := by
  unfold parse at h ⊢
  dsimp only at h ⊢
  split
  · exact defs_ne _ _ _ _ (by simp)
  · rename_i he
    rw [if_neg he] at h
    exact absurd h he
theorem mV_pos (v : Rd.V) : 1 ≤ Rd.mV v := by unfold Rd.mV; exact Vl.Z.n_pos _
theorem small_of {l : List UInt8} {K : Nat} (h : (parse l).1.err = 0) (hK : (Rd.begin_ l).rest.length ≤ K) (hKb : K ≤ 1000000) : (∀ x ∈ (parse l).2, SmTd x) ∧ (parse l).2.length ≤ 1000000 := by
  have hm := parse_m h
  have hin : ∀ x : In, 1 ≤ mIn x := fun x => mV_pos _
  have hfd : ∀ x : Fd, 1 ≤ mFd x := fun x => by unfold mFd; omega
  have htd : ∀ x : Td, 1 ≤ mTd x := fun x => by unfold mTd; omega
  refine ⟨fun x hx => ?_, ?_⟩
  · have h1 := mem_sum (m := mTd) hx
    have h2 := len_sum hfd x.fields
    have h3 := len_sum hin x.inputs
    have h4 : mTd x = 1 + x.impl.length + (x.fields.map mFd).sum + x.members.length + (x.inputs.map mIn).sum := rfl
    have smin : ∀ y ∈ x.inputs, SmIn y := fun y hy => by
      have := mem_sum (m := mIn) hy
      show Rd.mV y.dflt ≤ _
      have e : mIn y = Rd.mV y.dflt := rfl
      omega
    refine ⟨by omega, by omega, by omega, by omega, smin, fun f hf => ?_⟩
    have h5 := mem_sum (m := mFd) hf
    have h6 : mFd f = 1 + (f.args.map mIn).sum := rfl
    have h7 := len_sum hin f.args
    refine ⟨by omega, fun y hy => ?_⟩
    have := mem_sum (m := mIn) hy
    show Rd.mV y.dflt ≤ _
    have e : mIn y = Rd.mV y.dflt := rfl
    omega
  · have := len_sum htd (parse l).2
    omega
end Sd
theorem begin_le {l : List UInt8} (h : StdAll l) : (Rd.begin_ l).rest.length ≤ 10000 := by
  unfold Rd.begin_
  cases hl : Lx.lex l with
  | ok ts =>
    have := (tsOk_of (s := ⟨l.toArray⟩) hl (h ts hl)).1.len
    show ts.length ≤ _
    omega
  | err a c => show 1 ≤ _; omega
theorem blist (s : ByteArray) : s = ⟨s.data.toList.toArray⟩ := by cases s; simp

theorem bom_short {t : ByteArray} (h : t.size ≤ 2) : Lx.bom t.data.toList = false := by
  unfold Lx.bom
  rw [decide_eq_false_iff_not]
  intro e
  have := congrArg List.length e
  rw [List.length_take] at this
  have h2 : t.data.toList.length = t.size := rfl
  simp at this
  omega
theorem bom_no {t : ByteArray} (h : ((t.extract 0 3).toList == [239, 187, 191]) = false) : Lx.bom t.data.toList = false := by
  unfold Lx.bom
  rw [decide_eq_false_iff_not]
  intro e
  rw [Lib.toList_data, extract_between, sfx, List.drop_zero, Nat.sub_zero] at h
  simp only [beq_eq_false_iff_ne] at h
  exact h (by simpa using e)
theorem sd_below_grown {lo n k : Nat} {E : TypeId} {v : Value} {cs : List Value} {w1 wr w8 : World} (h : Below lo w1 wr) (hx : wr.ownsRow lo E k v n cs) (hs : lo ≤ wr.heap.size) (hg : wr.grownBy w8 v.ownBlock) : Below lo w1 w8 :=
  ⟨hg.os.trans h.os, hg.tape.trans h.tape, hg.output.trans h.output, Nat.le_trans h.size hg.size, fun k hk => by rw [hg.block k (by omega) (fun e => by have := (hx.lt k e.symm).1; omega)]; exact h.block k hk⟩
/-- The kit's own row, appended to at an operation whose guard says yes. -/
theorem wpList_append_want {P : Program} {w : World} {ops : Array Oper} {rest : List Oper} {o : Oper} {a : Act} {Q : Exit → Act → World → Prop} (hwt : Region.wanted o (yielded ops a.tmps) = true) (s x : Operand) (t : TypeId)
    (ho : o.op = .call { callee := .builtin .append, args := #[s, x], argTypes := #[t, t] })
    (base : Nat) (e : TypeId) (i : TypeInfo) (z : Value) (size bytes : Nat) (ht : P.underlying t = some (.slice e)) (hi : P.info? e = some i) (hz : i.zero = some z)
    (hsize : i.size = size) (hby : i.bytes = bytes) (hzs : z.cells.size = size) (hsz : 0 < size)
    (v : Value) (n : Nat) (xs : List Value) (hs : a.eval s = v) (hown : w.ownsRow base e size v n xs)
    (ad : Addr) (m c : Nat) (news : List Value) (hx : a.eval x = .slice (some ad) m c) (hl : news.length = m * size) (hnews : ∀ j u, news[j]? = some u → w.cell? (ad.add j) = some u) (h1 : ∀ u ∈ news, u.oneCell' = true)
    (h63 : n + m ≤ maxLen) (hbytes : (n + m) * bytes ≤ 140737488355328) (hbase : base ≤ w.heap.size)
    (h : ∀ v' w', w'.ownsRow base e size v' (n + m) (xs ++ news) → w.grownBy w' v.ownBlock → (v' = .slice none 0 0 ↔ v = .slice none 0 0 ∧ m = 0) → (v'.ownBlock = v.ownBlock ∨ v'.ownBlock = some w.heap.size) → wpList P ops Q rest (a.put o.dst v') w') :
    wpList P ops Q (o :: rest) a w := by
  refine BigFrame.wpList_want hwt fun K hK => ?_
  obtain ⟨v', w', hr, h2, h3, h4, h5⟩ := run_append_own_at (P := P) w base t o.type e i z size bytes ht hi hz hsize hby hzs hsz v n xs hown ad m c news hl hnews h1 h63 hbytes hbase
  unfold Oper.wp execOp
  simp only [ho, resolve, invoke, builtin, Sem.run_bind, Sem.run_pure, Result.andThen_ok, List.map_toArray, List.map_cons, List.map_nil, hs, hx, hr]
  exact hK _ _ (h v' w' h2 h3 h4 h5)
theorem addr_at (g o j : Nat) : (⟨g, o, none⟩ : Addr).add j = ⟨g, o + j, none⟩ := by
  by_cases h : j = 0
  · subst h; simp [Addr.add]
  · simp [Addr.add, h]
theorem seq_news {w : World} {P : Nat → Prop} {k : Nat} {xs : List D} {g o n c : Nat} (h : Reads w P (.seq k xs) [.slice (some ⟨g, o, none⟩) n c]) : ∃ news, RowsD w P k xs news ∧ (∀ (j : Nat) u, news[j]? = some u → w.cell? ((⟨g, o, none⟩ : Addr).add j) = some u) ∧ ∀ u ∈ news, u.oneCell' = true := by
  obtain ⟨a, c', e, hs⟩ := h.seq_inv
  simp only [List.cons.injEq, Value.slice.injEq, and_true] at e
  obtain ⟨news, h1, h2, h3⟩ := seq_rows hs g o e.1.symm
  refine ⟨news, h1, fun j u hj => ?_, h3⟩
  have := h2 j u hj
  rw [Nat.zero_mul, Nat.add_zero] at this
  rw [addr_at]; exact this
theorem sd_lit {w4 w5 w6 : World} {E : TypeId} {gy oy : Nat} {ny : List Value} {c : Nat} (hg : (w4.alloc (.cells #[] E)).grownBy w6 (Value.slice (some ⟨w4.heap.size, 0, none⟩) 0 c).ownBlock) (h5 : w5 = w4.alloc (.cells #[] E)) (hl : ∀ (j : Nat) u, ny[j]? = some u → w5.cell? ((⟨gy, oy, none⟩ : Addr).add j) = some u) (hlt : gy < w4.heap.size) (hlt5 : gy < w5.heap.size) :
    ∀ (j : Nat) u, ny[j]? = some u → w6.cell? ((⟨gy, oy, none⟩ : Addr).add j) = some u := by
  intro j u hj
  have := hl j u hj
  rw [addr_at] at this ⊢
  rw [World.cell?_of_block (w := w5) (a := ⟨gy, oy + j, none⟩)]
  · exact this
  · rw [h5] at hlt5 ⊢
    exact hg.block gy hlt5 (fun e => by simp [Value.ownBlock] at e; omega)
set_option maxHeartbeats 2000000 in
set_option maxRecDepth 100000 in
theorem sdjoins_any (s t : ByteArray) (w : World) (hs : s.size ≤ 9223372036854775807) (ht : t.size ≤ 9223372036854775807) (hE : Env w) (h3 : 3 ≤ w.heap.size) :
    Calls Tryz.prog 3 #[.string s, .string t] w (fun e w' => e = .returned (.bool true) ∧ Below w.heap.size w w') := by
  obtain ⟨i0, hi, hz0, hz1, hz2⟩ := info_parts infoTd
  have HE := Lib.hid hE
  have hs0 : (0 : Int) ≤ s.size := by omega
  have ht0 : (0 : Int) ≤ t.size := by omega
  clear hE
  go_enter Tryz.func3, Tryz.ntmps3
  go_wp2_with fail
  refine (sdAwake_any w HE.out h3).mono ?_
  rintro e w1 ⟨rfl, hb1, hE1⟩
  have HB1 := Lib.hid hb1
  have HE1 := Lib.hid hE1
  have h31 : 3 ≤ w1.heap.size := by have := hb1.size; omega
  clear hb1 hE1
  by_cases h1 : s.size ≤ 2000
  rotate_left
  · have e1 : decide ((2000 : Int) < (s.size : Int)) = true := decide_eq_true (by omega)
    go_wp2_with fail
    refine (sdAwake_any w1 HE1.out h31).mono ?_
    rintro e w2 ⟨rfl, hb2, hE2⟩
    have HB2 := Lib.hid (HB1.out.trans (hb2.mono HB1.out.size))
    clear hb2 hE2
    go_wp2_with fail
    go_ret
    exact ⟨rfl, HB2.out⟩
  have e1 : decide ((2000 : Int) < (s.size : Int)) = false := decide_eq_false (by omega)
  by_cases h2 : t.size ≤ 2000
  rotate_left
  · have e2 : decide ((2000 : Int) < (t.size : Int)) = true := decide_eq_true (by omega)
    go_wp2_with fail
    refine (sdAwake_any w1 HE1.out h31).mono ?_
    rintro e w2 ⟨rfl, hb2, hE2⟩
    have HB2 := Lib.hid (HB1.out.trans (hb2.mono HB1.out.size))
    clear hb2 hE2
    go_wp2_with fail
    go_ret
    exact ⟨rfl, HB2.out⟩
  have e2 : decide ((2000 : Int) < (t.size : Int)) = false := decide_eq_false (by omega)
  go_wp2_with fail
  refine (sparse_any s w1 hs HE1.out h31).mono ?_
  rintro e w2 ⟨hb2, hst1, hres1⟩
  have HB2 := Lib.hid (HB1.out.trans (hb2.mono HB1.out.size))
  have HE2 := Lib.hid (HE1.out.below hb2)
  have h32 : 3 ≤ w2.heap.size := by have := hb2.size; omega
  clear hb2
  have hr1 : ∃ (v1 : Value) (at1 : Int) (er1 : Nat), e = .returned (.tuple #[v1, .int .i64 at1, .int .i64 er1]) ∧ er1 = (Sd.parse s.data.toList).1.err ∧ (∃ p n c, v1 = .slice p n c) ∧ ((Sd.parse s.data.toList).1.err = 0 → ∃ a c, v1 = .slice a (Sd.parse s.data.toList).2.length c ∧ Reads w2 (fun _ => True) (.seq 7 ((Sd.parse s.data.toList).2.map Sd.Td.d)) [.slice a (Sd.parse s.data.toList).2.length c]) := by
    rcases hres1 with ⟨a, c, he, rfl, hr⟩ | ⟨he, rfl⟩
    · exact ⟨_, 0, 0, rfl, he.symm, ⟨_, _, _, rfl⟩, fun _ => ⟨a, c, rfl, hr.to (Stands.sub _ (fun _ _ _ => trivial))⟩⟩
    · exact ⟨_, _, _, rfl, rfl, ⟨_, _, _, rfl⟩, fun h => absurd h he⟩
  obtain ⟨v1, at1, er1, rfl, her1, ⟨p1, n1, c1, rfl⟩, hread1⟩ := hr1
  have HER1 := Lib.hid her1
  have HRD1 := Lib.hid hread1
  have HST1 := Lib.hid hst1
  clear hres1 her1 hread1 hst1
  go_wp2_with fail
  refine (sparse_any t w2 ht HE2.out h32).mono ?_
  rintro e w3 ⟨hb3, hst2, hres2⟩
  have HB3 := Lib.hid (HB2.out.trans (hb3.mono HB2.out.size))
  have HE3 := Lib.hid (HE2.out.below hb3)
  have h33 : 3 ≤ w3.heap.size := by have := hb3.size; omega
  have HB23 := Lib.hid hb3
  clear hb3
  have hr2 : ∃ (v2 : Value) (at2 : Int) (er2 : Nat), e = .returned (.tuple #[v2, .int .i64 at2, .int .i64 er2]) ∧ er2 = (Sd.parse t.data.toList).1.err ∧ (∃ p n c, v2 = .slice p n c) ∧ ((Sd.parse t.data.toList).1.err = 0 → ∃ a c, v2 = .slice a (Sd.parse t.data.toList).2.length c ∧ Reads w3 (fun _ => True) (.seq 7 ((Sd.parse t.data.toList).2.map Sd.Td.d)) [.slice a (Sd.parse t.data.toList).2.length c]) := by
    rcases hres2 with ⟨a, c, he, rfl, hr⟩ | ⟨he, rfl⟩
    · exact ⟨_, 0, 0, rfl, he.symm, ⟨_, _, _, rfl⟩, fun _ => ⟨a, c, rfl, hr.to (Stands.sub _ (fun _ _ _ => trivial))⟩⟩
    · exact ⟨_, _, _, rfl, rfl, ⟨_, _, _, rfl⟩, fun h => absurd h he⟩
  obtain ⟨v2, at2, er2, rfl, her2, ⟨p2, n2, c2, rfl⟩, hread2⟩ := hr2
  have HER2 := Lib.hid her2
  have HRD2 := Lib.hid hread2
  have HST2 := Lib.hid hst2
  clear hres2 her2 hread2 hst2
  by_cases hz1 : er1 = 0
  rotate_left
  · have e3 : ((er1 : Int) != 0) = true := neT (by omega)
    clear hz1
    go_wp2_with fail
    go_ret
    exact ⟨rfl, HB3.out⟩
  by_cases hz2' : er2 = 0
  rotate_left
  · have e3 : ((er1 : Int) != 0) = false := neF (by omega)
    have e4 : ((er2 : Int) != 0) = true := neT (by omega)
    clear hz1 hz2'
    go_wp2_with fail
    go_ret
    exact ⟨rfl, HB3.out⟩
  have e3 : ((er1 : Int) != 0) = false := neF (by omega)
  have e4 : ((er2 : Int) != 0) = false := neF (by omega)
  have HP1 : Hid ((Sd.parse s.data.toList).1.err = 0) := Lib.hid (by rw [← HER1.out]; exact hz1)
  have HP2 : Hid ((Sd.parse t.data.toList).1.err = 0) := Lib.hid (by rw [← HER2.out]; exact hz2')
  clear hz1 hz2'
  by_cases h5 : 2 < t.size
  · have e5 : decide ((2 : Int) < (t.size : Int)) = true := decide_eq_true (by omega)
    have h53 : (3 : Int) ≤ (t.size : Int) := by omega
    go_wp2_with fail
    · go_ret
      exact ⟨rfl, HB3.out⟩
    · have HBM : Hid (Lx.bom t.data.toList = false) := Lib.hid (bom_no (by assumption))
      obtain ⟨T, hT⟩ : ∃ T : ByteArray, T = (s ++ ⟨#[10]⟩) ++ t := ⟨_, rfl⟩
      have HTL : Hid (T.data.toList = s.data.toList ++ 10 :: t.data.toList) := Lib.hid (by rw [hT, ByteArray.data_append, ByteArray.data_append, Array.toList_append, Array.toList_append, List.append_assoc]; rfl)
      have HTS : Hid (T.size ≤ 9223372036854775807) := Lib.hid (by rw [hT, ByteArray.size_append, ByteArray.size_append]; have : (⟨#[10]⟩ : ByteArray).size = 1 := rfl; omega)
      rw [← hT]
      clear hT
      refine (sparse_any T w3 HTS.out HE3.out h33).mono ?_
      rintro e w4 ⟨hb4, hst3, hres3⟩
      have HB4 := Lib.hid (HB3.out.trans (hb4.mono HB3.out.size))
      have HB34 := Lib.hid hb4
      have HJ := Lib.hid (Sd.parse_join HP1.out HP2.out HBM.out (by show s.size + t.size + 1 ≤ 4096; omega))
      clear hb4
      rw [HTL.out] at hres3 hst3
      have HST3 := Lib.hid hst3
      clear hst3
      rcases hres3 with ⟨a3, c3, he, rfl, hr⟩ | ⟨he, rfl⟩
      rotate_left
      · have h8 : (Sd.parse (s.data.toList ++ 10 :: t.data.toList)).1.err = 8 := by
          rcases HJ.out with h | h
          · exact h
          · exact absurd h.1 he
        rw [h8]
        clear he h8
        go_wp2_with fail
        go_ret
        exact ⟨rfl, HB4.out⟩
      have hun : (Sd.parse (s.data.toList ++ 10 :: t.data.toList)).2.map Sd.Td.un = ((Sd.parse s.data.toList).2 ++ (Sd.parse t.data.toList).2).map Sd.Td.un := by
        rcases HJ.out with h | h
        · rw [h] at he; cases he
        · exact h.2
      obtain ⟨zs, hzs⟩ : ∃ q, q = (Sd.parse (s.data.toList ++ 10 :: t.data.toList)).2 := ⟨_, rfl⟩
      obtain ⟨xs, hxs⟩ : ∃ q, q = (Sd.parse s.data.toList).2 := ⟨_, rfl⟩
      obtain ⟨ys, hys⟩ : ∃ q, q = (Sd.parse t.data.toList).2 := ⟨_, rfl⟩
      obtain ⟨smz, hlz⟩ := Sd.small_of he (begin_le HST3.out) (by omega)
      obtain ⟨-, hlx⟩ := Sd.small_of HP1.out (begin_le HST1.out) (by omega)
      obtain ⟨-, hly⟩ := Sd.small_of HP2.out (begin_le HST2.out) (by omega)
      have hnx := Sd.parse_ne HP1.out
      have hny := Sd.parse_ne HP2.out
      obtain ⟨q1, q2, q3, hrx⟩ := HRD1.out HP1.out
      obtain ⟨q4, q5, q6, hry⟩ := HRD2.out HP2.out
      rw [← hzs] at hun smz hlz hr ⊢
      rw [← hxs] at hun hlx hnx q3 hrx
      rw [← hys] at hun hly hny q6 hry
      obtain ⟨rfl, rfl, rfl⟩ : p1 = q1 ∧ n1 = xs.length ∧ c1 = q2 := by simpa using q3
      obtain ⟨rfl, rfl, rfl⟩ : p2 = q4 ∧ n2 = ys.length ∧ c2 = q5 := by simpa using q6
      have hxl := List.length_pos_iff.2 hnx
      have hyl := List.length_pos_iff.2 hny
      obtain ⟨gx, ox, -, rfl, -⟩ := hrx.el 0 (Sd.Td.d xs[0]) (by rw [List.getElem?_map, List.getElem?_eq_getElem hxl]; rfl)
      obtain ⟨gy, oy, -, rfl, -⟩ := hry.el 0 (Sd.Td.d ys[0]) (by rw [List.getElem?_map, List.getElem?_eq_getElem hyl]; rfl)
      obtain ⟨w5, hw5⟩ : ∃ q, q = w4.alloc (.cells #[] 38) := ⟨_, rfl⟩
      have hb45 : Below w4.heap.size w4 w5 := by rw [hw5]; exact (Below.refl _ _).alloc (Nat.le_refl _) _
      have hbx5 : Below w2.heap.size w2 w5 := HB23.out.trans ((HB34.out.trans (hb45.mono HB34.out.size)).mono HB23.out.size)
      have hby5 : Below w3.heap.size w3 w5 := HB34.out.trans (hb45.mono HB34.out.size)
      have hrx5 := (hrx.to (Stands.sub w2 (Q := fun x => x < w4.heap.size) (fun g hg _ => by have h1 := HB23.out.size; have h2 := HB34.out.size; show g < w4.heap.size; omega))).to (Stands.below hbx5)
      have hry5 := (hry.to (Stands.sub w3 (Q := fun x => x < w4.heap.size) (fun g hg _ => by have h2 := HB34.out.size; show g < w4.heap.size; omega))).to (Stands.below hby5)
      have hrz5 := (hr.to (Stands.sub w4 (Q := fun x => x < w4.heap.size) (fun g hg _ => hg))).to (Stands.below hb45)
      obtain ⟨nx, hnx1, hlit1, hnx3⟩ := seq_news hrx5
      obtain ⟨ny, hny1, hlit2, hny3⟩ := seq_news hry5
      have hlnx : nx.length = xs.length * 7 := by rw [hnx1.len, List.length_map]
      have hlny : ny.length = ys.length * 7 := by rw [hny1.len, List.length_map]
      have hown : w5.ownsRow w4.heap.size 38 7 (.slice (some ⟨w4.heap.size, 0, none⟩) 0 0) 0 [] :=
        ⟨rfl, .inr ⟨w4.heap.size, 0, #[], rfl, Nat.le_refl _, by rw [hw5]; exact heap_at_new _ _, Nat.le_refl _, by unfold maxLen; omega, rfl, rfl⟩⟩
      have HB45 := Lib.hid (HB4.out.trans (hb45.mono HB4.out.size))
      have HLT2 : Hid (gy < w5.heap.size ∧ gx < w5.heap.size) := by
        obtain ⟨_, _, _, e1', _, hg1, _⟩ := hrx5.el 0 (Sd.Td.d xs[0]) (by rw [List.getElem?_map, List.getElem?_eq_getElem hxl]; rfl)
        obtain ⟨_, _, _, e2', _, hg2, _⟩ := hry5.el 0 (Sd.Td.d ys[0]) (by rw [List.getElem?_map, List.getElem?_eq_getElem hyl]; rfl)
        simp only [Option.some.injEq, Addr.mk.injEq, and_true] at e1' e2'
        rw [← e1'.1] at hg1
        rw [← e2'.1] at hg2
        exact Lib.hid ⟨hg2, hg1⟩
      have HGY : Hid (gy < w3.heap.size) := by
        obtain ⟨_, _, _, e2', _, hg2, _⟩ := hry.el 0 (Sd.Td.d ys[0]) (by rw [List.getElem?_map, List.getElem?_eq_getElem hyl]; rfl)
        simp only [Option.some.injEq, Addr.mk.injEq, and_true] at e2'
        rw [← e2'.1] at hg2
        exact Lib.hid hg2
      have hs34 := HB34.out.size
      have hs45 := hb45.size
      have HRX5 := Lib.hid hnx1
      have HRY5 := Lib.hid hny1
      have HRZ5 := Lib.hid hrz5
      have HOWN := Lib.hid hown
      have HLIT1 := Lib.hid hlit1
      have HLIT2 := Lib.hid hlit2
      have HONE1 := Lib.hid hnx3
      have HONE2 := Lib.hid hny3
      have HLNX := Lib.hid hlnx
      have HLNY := Lib.hid hlny
      have HW5 := Lib.hid hw5
      have HUN := Lib.hid hun
      have HSMZ := Lib.hid smz
      have hbase : w4.heap.size ≤ (w4.alloc (.cells #[] 38)).heap.size := by simp
      rw [hw5] at HOWN HLIT1
      clear hzs hxs hys hbx5 hby5 hrx5 hry5 hrz5 hrx hry hr hb45 hnx1 hny1 hlit1 hlit2 hnx3 hny3 hlnx hlny hown hw5 hun smz hnx hny q3 q6 he
      go_wp2_with (first | (at_builtin; refine wpList_append_want (by kernel_rfl) _ _ 23 rfl w4.heap.size 38 i0 _ 7 128 Tryz.underlying23 hi hz0 hz1 hz2 rfl (by decide) (.slice (some ⟨w4.heap.size, 0, none⟩) 0 0) 0 [] rfl HOWN.out ⟨gx, ox, none⟩ xs.length _ nx rfl HLNX.out HLIT1.out HONE1.out (by unfold maxLen; omega) (by omega) hbase ?_; intro v6 w6 hrow6 hg6 hnil6 hloc6; clear hnil6 hloc6; rw [Nat.zero_add, List.nil_append] at hrow6; obtain ⟨g6, c6, rfl, hg61, hg62⟩ := rowForm hrow6 (by omega); have HROW6 := Lib.hid hrow6; have HG6 := Lib.hid hg6; have HL26 := Lib.hid (sd_lit HG6.out HW5.out HLIT2.out (by have := HGY.out; omega) HLT2.out.1); have hbase6 : w4.heap.size ≤ w6.heap.size := (by omega); clear hrow6 hg6 hg62)
                                                                  | (at_builtin; refine wpList_append_want (by kernel_rfl) _ _ 23 rfl w4.heap.size 38 i0 _ 7 128 Tryz.underlying23 hi hz0 hz1 hz2 rfl (by decide) (.slice (some ⟨g6, 0, none⟩) xs.length c6) xs.length nx rfl HROW6.out ⟨gy, oy, none⟩ ys.length _ ny rfl HLNY.out HL26.out HONE2.out (by unfold maxLen; omega) (by omega) hbase6 ?_; intro v7 w7 hrow7 hg7 hnil7 hloc7; clear hnil7 hloc7; obtain ⟨g7, c7, rfl, hg71, hg72⟩ := rowForm hrow7 (by omega); have HROW7 := Lib.hid hrow7; have HG7 := Lib.hid hg7; clear hrow7 hg7) | fail)
      have hb6 : Below w4.heap.size w4 w6 := sd_below_grown ((Below.refl _ _).alloc (Nat.le_refl _) _) HOWN.out hbase HG6.out
      have hb7 : Below w4.heap.size w4 w7 := sd_below_grown hb6 HROW6.out hbase6 HG7.out
      have hst57 : Stands w5 (fun x => x < w4.heap.size) w7 (fun x => x < w4.heap.size) := by
        refine ⟨by rw [HW5.out]; exact Nat.le_trans HG6.out.size HG7.out.size, fun g hg hp => ⟨hp, ?_⟩⟩
        rw [hb7.block g hp, HW5.out, Lib.alloc_old _ _ _ hp]
      have hrow := (HRX5.out.append HRY5.out).to hst57
      rw [← List.map_append] at hrow
      have hlen7 : (xs ++ ys).length = xs.length + ys.length := List.length_append
      have hgr : Grows w7 (fun x => x < w4.heap.size) w4.heap.size 38 7 (.slice (some ⟨g7, 0, none⟩) (xs.length + ys.length) c7) ((xs ++ ys).map Sd.Td.d) := by
        refine ⟨⟨nx ++ ny, ?_, hrow⟩, fun g hg hp => ?_⟩
        · rw [List.length_map, hlen7]; exact HROW7.out
        · have := (HROW7.out.lt g hg).1
          have hp' : g < w4.heap.size := hp
          omega
      have hr7 := hgr.reads.to (Stands.sub w7 (Q := fun _ => True) (fun _ _ _ => trivial))
      rw [← hlen7] at hr7
      have hcall := sdSame_eq zs (xs ++ ys) HUN.out HSMZ.out a3 (some ⟨g7, 0, none⟩) c3 c7 w7 (fun _ => True) (by omega) ((HRZ5.out.to hst57).to (Stands.sub w7 (fun _ _ _ => trivial))) hr7
      rw [hlen7] at hcall
      refine hcall.mono ?_
      rintro r w8 ⟨rfl, hb8⟩
      have HB8 := Lib.hid (HB4.out.trans ((hb7.trans (hb8.mono hb7.size)).mono HB4.out.size))
      clear hb6 hb7 hst57 hrow hgr hr7 hcall hb8
      go_wp2_with fail
      go_ret
      exact ⟨rfl, HB8.out⟩
  · have e5 : decide ((2 : Int) < (t.size : Int)) = false := decide_eq_false (by omega)
    have HBM : Hid (Lx.bom t.data.toList = false) := Lib.hid (bom_short (by omega))
    go_wp2_with fail
    obtain ⟨T, hT⟩ : ∃ T : ByteArray, T = (s ++ ⟨#[10]⟩) ++ t := ⟨_, rfl⟩
    have HTL : Hid (T.data.toList = s.data.toList ++ 10 :: t.data.toList) := Lib.hid (by rw [hT, ByteArray.data_append, ByteArray.data_append, Array.toList_append, Array.toList_append, List.append_assoc]; rfl)
    have HTS : Hid (T.size ≤ 9223372036854775807) := Lib.hid (by rw [hT, ByteArray.size_append, ByteArray.size_append]; have : (⟨#[10]⟩ : ByteArray).size = 1 := rfl; omega)
    rw [← hT]
    clear hT
    refine (sparse_any T w3 HTS.out HE3.out h33).mono ?_
    rintro e w4 ⟨hb4, hst3, hres3⟩
    have HB4 := Lib.hid (HB3.out.trans (hb4.mono HB3.out.size))
    have HB34 := Lib.hid hb4
    have HJ := Lib.hid (Sd.parse_join HP1.out HP2.out HBM.out (by show s.size + t.size + 1 ≤ 4096; omega))
    clear hb4
    rw [HTL.out] at hres3 hst3
    have HST3 := Lib.hid hst3
    clear hst3
    rcases hres3 with ⟨a3, c3, he, rfl, hr⟩ | ⟨he, rfl⟩
    rotate_left
    · have h8 : (Sd.parse (s.data.toList ++ 10 :: t.data.toList)).1.err = 8 := by
        rcases HJ.out with h | h
        · exact h
        · exact absurd h.1 he
      rw [h8]
      clear he h8
      go_wp2_with fail
      go_ret
      exact ⟨rfl, HB4.out⟩
    have hun : (Sd.parse (s.data.toList ++ 10 :: t.data.toList)).2.map Sd.Td.un = ((Sd.parse s.data.toList).2 ++ (Sd.parse t.data.toList).2).map Sd.Td.un := by
      rcases HJ.out with h | h
      · rw [h] at he; cases he
      · exact h.2
    obtain ⟨zs, hzs⟩ : ∃ q, q = (Sd.parse (s.data.toList ++ 10 :: t.data.toList)).2 := ⟨_, rfl⟩
    obtain ⟨xs, hxs⟩ : ∃ q, q = (Sd.parse s.data.toList).2 := ⟨_, rfl⟩
    obtain ⟨ys, hys⟩ : ∃ q, q = (Sd.parse t.data.toList).2 := ⟨_, rfl⟩
    obtain ⟨smz, hlz⟩ := Sd.small_of he (begin_le HST3.out) (by omega)
    obtain ⟨-, hlx⟩ := Sd.small_of HP1.out (begin_le HST1.out) (by omega)
    obtain ⟨-, hly⟩ := Sd.small_of HP2.out (begin_le HST2.out) (by omega)
    have hnx := Sd.parse_ne HP1.out
    have hny := Sd.parse_ne HP2.out
    obtain ⟨q1, q2, q3, hrx⟩ := HRD1.out HP1.out
    obtain ⟨q4, q5, q6, hry⟩ := HRD2.out HP2.out
    rw [← hzs] at hun smz hlz hr ⊢
    rw [← hxs] at hun hlx hnx q3 hrx
    rw [← hys] at hun hly hny q6 hry
    obtain ⟨rfl, rfl, rfl⟩ : p1 = q1 ∧ n1 = xs.length ∧ c1 = q2 := by simpa using q3
    obtain ⟨rfl, rfl, rfl⟩ : p2 = q4 ∧ n2 = ys.length ∧ c2 = q5 := by simpa using q6
    have hxl := List.length_pos_iff.2 hnx
    have hyl := List.length_pos_iff.2 hny
    obtain ⟨gx, ox, -, rfl, -⟩ := hrx.el 0 (Sd.Td.d xs[0]) (by rw [List.getElem?_map, List.getElem?_eq_getElem hxl]; rfl)
    obtain ⟨gy, oy, -, rfl, -⟩ := hry.el 0 (Sd.Td.d ys[0]) (by rw [List.getElem?_map, List.getElem?_eq_getElem hyl]; rfl)
    obtain ⟨w5, hw5⟩ : ∃ q, q = w4.alloc (.cells #[] 38) := ⟨_, rfl⟩
    have hb45 : Below w4.heap.size w4 w5 := by rw [hw5]; exact (Below.refl _ _).alloc (Nat.le_refl _) _
    have hbx5 : Below w2.heap.size w2 w5 := HB23.out.trans ((HB34.out.trans (hb45.mono HB34.out.size)).mono HB23.out.size)
    have hby5 : Below w3.heap.size w3 w5 := HB34.out.trans (hb45.mono HB34.out.size)
    have hrx5 := (hrx.to (Stands.sub w2 (Q := fun x => x < w4.heap.size) (fun g hg _ => by have h1 := HB23.out.size; have h2 := HB34.out.size; show g < w4.heap.size; omega))).to (Stands.below hbx5)
    have hry5 := (hry.to (Stands.sub w3 (Q := fun x => x < w4.heap.size) (fun g hg _ => by have h2 := HB34.out.size; show g < w4.heap.size; omega))).to (Stands.below hby5)
    have hrz5 := (hr.to (Stands.sub w4 (Q := fun x => x < w4.heap.size) (fun g hg _ => hg))).to (Stands.below hb45)
    obtain ⟨nx, hnx1, hlit1, hnx3⟩ := seq_news hrx5
    obtain ⟨ny, hny1, hlit2, hny3⟩ := seq_news hry5
    have hlnx : nx.length = xs.length * 7 := by rw [hnx1.len, List.length_map]
    have hlny : ny.length = ys.length * 7 := by rw [hny1.len, List.length_map]
    have hown : w5.ownsRow w4.heap.size 38 7 (.slice (some ⟨w4.heap.size, 0, none⟩) 0 0) 0 [] :=
      ⟨rfl, .inr ⟨w4.heap.size, 0, #[], rfl, Nat.le_refl _, by rw [hw5]; exact heap_at_new _ _, Nat.le_refl _, by unfold maxLen; omega, rfl, rfl⟩⟩
    have HB45 := Lib.hid (HB4.out.trans (hb45.mono HB4.out.size))
    have HLT2 : Hid (gy < w5.heap.size ∧ gx < w5.heap.size) := by
      obtain ⟨_, _, _, e1', _, hg1, _⟩ := hrx5.el 0 (Sd.Td.d xs[0]) (by rw [List.getElem?_map, List.getElem?_eq_getElem hxl]; rfl)
      obtain ⟨_, _, _, e2', _, hg2, _⟩ := hry5.el 0 (Sd.Td.d ys[0]) (by rw [List.getElem?_map, List.getElem?_eq_getElem hyl]; rfl)
      simp only [Option.some.injEq, Addr.mk.injEq, and_true] at e1' e2'
      rw [← e1'.1] at hg1
      rw [← e2'.1] at hg2
      exact Lib.hid ⟨hg2, hg1⟩
    have HGY : Hid (gy < w3.heap.size) := by
      obtain ⟨_, _, _, e2', _, hg2, _⟩ := hry.el 0 (Sd.Td.d ys[0]) (by rw [List.getElem?_map, List.getElem?_eq_getElem hyl]; rfl)
      simp only [Option.some.injEq, Addr.mk.injEq, and_true] at e2'
      rw [← e2'.1] at hg2
      exact Lib.hid hg2
    have hs34 := HB34.out.size
    have hs45 := hb45.size
    have HRX5 := Lib.hid hnx1
    have HRY5 := Lib.hid hny1
    have HRZ5 := Lib.hid hrz5
    have HOWN := Lib.hid hown
    have HLIT1 := Lib.hid hlit1
    have HLIT2 := Lib.hid hlit2
    have HONE1 := Lib.hid hnx3
    have HONE2 := Lib.hid hny3
    have HLNX := Lib.hid hlnx
    have HLNY := Lib.hid hlny
    have HW5 := Lib.hid hw5
    have HUN := Lib.hid hun
    have HSMZ := Lib.hid smz
    have hbase : w4.heap.size ≤ (w4.alloc (.cells #[] 38)).heap.size := by simp
    rw [hw5] at HOWN HLIT1
    clear hzs hxs hys hbx5 hby5 hrx5 hry5 hrz5 hrx hry hr hb45 hnx1 hny1 hlit1 hlit2 hnx3 hny3 hlnx hlny hown hw5 hun smz hnx hny q3 q6 he
    go_wp2_with (first | (at_builtin; refine wpList_append_want (by kernel_rfl) _ _ 23 rfl w4.heap.size 38 i0 _ 7 128 Tryz.underlying23 hi hz0 hz1 hz2 rfl (by decide) (.slice (some ⟨w4.heap.size, 0, none⟩) 0 0) 0 [] rfl HOWN.out ⟨gx, ox, none⟩ xs.length _ nx rfl HLNX.out HLIT1.out HONE1.out (by unfold maxLen; omega) (by omega) hbase ?_; intro v6 w6 hrow6 hg6 hnil6 hloc6; clear hnil6 hloc6; rw [Nat.zero_add, List.nil_append] at hrow6; obtain ⟨g6, c6, rfl, hg61, hg62⟩ := rowForm hrow6 (by omega); have HROW6 := Lib.hid hrow6; have HG6 := Lib.hid hg6; have HL26 := Lib.hid (sd_lit HG6.out HW5.out HLIT2.out (by have := HGY.out; omega) HLT2.out.1); have hbase6 : w4.heap.size ≤ w6.heap.size := (by omega); clear hrow6 hg6 hg62)
                                                                | (at_builtin; refine wpList_append_want (by kernel_rfl) _ _ 23 rfl w4.heap.size 38 i0 _ 7 128 Tryz.underlying23 hi hz0 hz1 hz2 rfl (by decide) (.slice (some ⟨g6, 0, none⟩) xs.length c6) xs.length nx rfl HROW6.out ⟨gy, oy, none⟩ ys.length _ ny rfl HLNY.out HL26.out HONE2.out (by unfold maxLen; omega) (by omega) hbase6 ?_; intro v7 w7 hrow7 hg7 hnil7 hloc7; clear hnil7 hloc7; obtain ⟨g7, c7, rfl, hg71, hg72⟩ := rowForm hrow7 (by omega); have HROW7 := Lib.hid hrow7; have HG7 := Lib.hid hg7; clear hrow7 hg7) | fail)
    have hb6 : Below w4.heap.size w4 w6 := sd_below_grown ((Below.refl _ _).alloc (Nat.le_refl _) _) HOWN.out hbase HG6.out
    have hb7 : Below w4.heap.size w4 w7 := sd_below_grown hb6 HROW6.out hbase6 HG7.out
    have hst57 : Stands w5 (fun x => x < w4.heap.size) w7 (fun x => x < w4.heap.size) := by
      refine ⟨by rw [HW5.out]; exact Nat.le_trans HG6.out.size HG7.out.size, fun g hg hp => ⟨hp, ?_⟩⟩
      rw [hb7.block g hp, HW5.out, Lib.alloc_old _ _ _ hp]
    have hrow := (HRX5.out.append HRY5.out).to hst57
    rw [← List.map_append] at hrow
    have hlen7 : (xs ++ ys).length = xs.length + ys.length := List.length_append
    have hgr : Grows w7 (fun x => x < w4.heap.size) w4.heap.size 38 7 (.slice (some ⟨g7, 0, none⟩) (xs.length + ys.length) c7) ((xs ++ ys).map Sd.Td.d) := by
      refine ⟨⟨nx ++ ny, ?_, hrow⟩, fun g hg hp => ?_⟩
      · rw [List.length_map, hlen7]; exact HROW7.out
      · have := (HROW7.out.lt g hg).1
        have hp' : g < w4.heap.size := hp
        omega
    have hr7 := hgr.reads.to (Stands.sub w7 (Q := fun _ => True) (fun _ _ _ => trivial))
    rw [← hlen7] at hr7
    have hcall := sdSame_eq zs (xs ++ ys) HUN.out HSMZ.out a3 (some ⟨g7, 0, none⟩) c3 c7 w7 (fun _ => True) (by omega) ((HRZ5.out.to hst57).to (Stands.sub w7 (fun _ _ _ => trivial))) hr7
    rw [hlen7] at hcall
    refine hcall.mono ?_
    rintro r w8 ⟨rfl, hb8⟩
    have HB8 := Lib.hid (HB4.out.trans ((hb7.trans (hb8.mono hb7.size)).mono HB4.out.size))
    clear hb6 hb7 hst57 hrow hgr hr7 hcall hb8
    go_wp2_with fail
    go_ret
    exact ⟨rfl, HB8.out⟩
end Go.Proofs.YtabcaljnpahgpaaGreatDoor
