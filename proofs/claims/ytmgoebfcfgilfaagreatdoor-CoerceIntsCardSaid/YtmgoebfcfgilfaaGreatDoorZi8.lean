/-
  Problems in memory; the document's list of them compared, walked. Problems of the call's own; the document's list with one more, walked. The document's list of problems with one more, and in order, walked. The document's list of problems in order, walked; two numbers compared. How two problems are compared, walked. slices.SortFunc at problems: the kit's contract, laid by name. Lists of problems one behind the other, walked; a row that is cleared from some place on. Of equal neighbours the first alone (slices.Compact at problems), walked.
-/
import Derived.Test.YtmgoebfcfgilfaaGreatDoorZi7
import Derived.Test.YtmgoebfcfgilfaaGreatDoorZi1
import Derived.Laws.StructEq
import Derived.Deep.LoopGhost
import Derived.Maps.AppendAt
import Derived.Laws.AppendOwnNone
import Derived.OpenShut
import Derived.Shelf.SlSortCmp.InsertionK
import Derived.Shelf.SlSortCmp.WholeK
import Derived.Shelf.SlSortCmp.NoneTotal
import Derived.Shelf.Spec.SlicesGrow
import Derived.Lib.SliceRun
namespace Go.Proofs.YtmgoebfcfgilfaaGreatDoor
set_option linter.unusedSimpArgs false
set_option linter.unusedVariables false
open Go Go.RowKit

/-- A problem as data. -/
def Cp.d (p : Cp.Pb) : D := .obj [.int p.1, .int p.2]
/-- Are they one? -/
def Cp.eqb (p q : Cp.Pb) : Bool := decide (p = q)
theorem Cp.eqb_true {p q : Cp.Pb} (h : p = q) : Cp.eqb p q = true := decide_eq_true h
theorem Cp.eqb_false {p q : Cp.Pb} (h : p ≠ q) : Cp.eqb p q = false := decide_eq_false h
/-- A slice of problems, in blocks that P names. -/
def Pbs (w : World) (P : Nat → Prop) (v : Value) (l : List Cp.Pb) : Prop := Reads w P (.seq 2 (l.map Cp.d)) [v]
section
variable {w : World} {P : Nat → Prop}
theorem Pbs.form {v : Value} {l : List Cp.Pb} (h : Pbs w P v l) : ∃ a c, v = .slice a l.length c := by
  obtain ⟨a, c, e, _⟩ := h.seq_inv
  refine ⟨a, c, ?_⟩
  rw [List.length_map] at e
  simpa using e
theorem Pbs.at {a : Option Addr} {n c : Nat} {l : List Cp.Pb} (h : Pbs w P (.slice a n c) l) {j : Nat} {p : Cp.Pb} (hj : l[j]? = some p) :
    ∃ g o, a = some ⟨g, o, none⟩ ∧ P g ∧ g < w.heap.size ∧ w.cell? ⟨g, o + j * 2, none⟩ = some (.int .i64 p.1) ∧ w.cell? ⟨g, o + j * 2 + 1, none⟩ = some (.int .i64 p.2) := by
  obtain ⟨a', c', e, hr⟩ := h.seq_inv
  rw [List.length_map] at e
  obtain ⟨rfl, rfl, rfl⟩ : a = a' ∧ n = l.length ∧ c = c' := by simpa using e
  obtain ⟨g, o, cs, e1, e2, e3, e4, e5, e6⟩ := hr.at j (Cp.d p) (by rw [List.getElem?_map, hj]; rfl)
  have e7 := e6.obj_inv
  obtain ⟨c1, r1, rfl, h1, h2⟩ := e7.cons_inv
  obtain ⟨c2, r2, rfl, h3, h4⟩ := h2.cons_inv
  rw [h1.int_inv, h3.int_inv, h4.nil_inv] at e5
  rw [Nat.zero_add] at e5
  exact ⟨g, o, e1, e2, e3, by have := e5 0 (.int .i64 p.1) rfl; rwa [Nat.add_zero] at this, e5 1 (.int .i64 p.2) rfl⟩
theorem Pbs.to {w' : World} {Q : Nat → Prop} {v : Value} {l : List Cp.Pb} (h : Pbs w P v l) (hs : Stands w P w' Q) : Pbs w' Q v l := Reads.to hs h
theorem Pbs.len {a : Option Addr} {n c : Nat} {l : List Cp.Pb} (h : Pbs w P (.slice a n c) l) : n = l.length := by
  obtain ⟨a', c', e⟩ := h.form
  simp at e
  exact e.2.1
end

@[go_sem high] theorem pb_guard (op : BinOp) (x y : Operand) (xs ys : Array Value) (w : World) : (eqGuard op 42 x y (.agg xs) (.agg ys)).run Tryz.prog w = .ok () w :=
  run_eqGuard_agg w op _ x y xs ys (by kernel_rfl)
theorem pb_equal (a b c d : Int) (w : World) : (Op.equalIn 10000 42 (.agg #[.int .i64 a, .int .i64 b]) (.agg #[.int .i64 c, .int .i64 d])).run Tryz.prog w = .ok (Cp.eqb (a, b) (c, d)) w := by
  have u3 := Tryz.underlying3
  have a3 := Tryz.isAgg3
  have z3 := Tryz.sizeOf3
  have hS : Tryz.prog.underlying 42 = some (.struct (Tryz.prog.fieldsOf 42)) := by kernel_rfl
  have hp : Tryz.prog.stoodInHeld 42 = false := by kernel_rfl
  rw [show (10000 : Nat) = 9999 + 1 from rfl, run_equalIn_agg w 9999 _ _ _ hS hp]
  simp only [Program.fieldsOf, Tryz.underlying42]
  go_simp
  unfold Cp.eqb
  by_cases h1 : a = c <;> by_cases h2 : b = d <;> simp [h1, h2]
@[go_sem high] theorem pb_eql (a b c d : Int) (w : World) : (binOp .eql 42 (.agg #[.int .i64 a, .int .i64 b]) (.agg #[.int .i64 c, .int .i64 d])).run Tryz.prog w = .ok (.bool (Cp.eqb (a, b) (c, d))) w := by
  rw [run_eql_struct, pb_equal]; rfl
@[go_sem high] theorem pb_neq (a b c d : Int) (w : World) : (binOp .neq 42 (.agg #[.int .i64 a, .int .i64 b]) (.agg #[.int .i64 c, .int .i64 d])).run Tryz.prog w = .ok (.bool (!(Cp.eqb (a, b) (c, d)))) w := by
  rw [run_neq_struct, pb_equal]; rfl

theorem same_at {a b : List Cp.Pb} (h : a.length = b.length) (he : ∀ (i : Nat) x y, a[i]? = some x → b[i]? = some y → x = y) : a = b := by
  apply List.ext_getElem h
  intro i h1 h2
  exact he i _ _ (List.getElem?_eq_getElem h1) (List.getElem?_eq_getElem h2)

set_option maxHeartbeats 1000000 in
set_option maxRecDepth 100000 in
theorem rsame_any (x y : Value) (l m : List Cp.Pb) (w : World) (P Q : Nat → Prop) (hl : l.length ≤ 9223372036854775807) (hx : Pbs w P x l) (hy : Pbs w Q y m) :
    Calls Tryz.prog 18 #[x, y] w fun e w' => e = .returned (.bool (decide (l = m))) ∧ ∃ n, w' = w.drewN n := by
  obtain ⟨xa, xc, rfl⟩ := hx.form
  obtain ⟨ya, yc, rfl⟩ := hy.form
  have HX := Lib.hid hx
  have HY := Lib.hid hy
  clear hx hy
  by_cases hlen : l.length = m.length
  rotate_left
  · have e0 : ((l.length : Int) != (m.length : Int)) = true := neT (by omega)
    have HF : Hid (decide (l = m) = false) := Lib.hid (decide_eq_false (fun e => hlen (by rw [e])))
    go_enter Tryz.func18, Tryz.ntmps18
    go_wp2_with fail
    go_ret
    exact ⟨by rw [HF.out]; rfl, 0, rfl⟩
  have e0 : ((l.length : Int) != (m.length : Int)) = false := neF (by omega)
  have HLEN := Lib.hid hlen
  clear hlen
  obtain ⟨B, hB⟩ : ∃ B, B = decide (l = m) := ⟨_, rfl⟩
  have HB := Lib.hid hB
  rw [← hB]
  clear hB
  go_enter Tryz.func18, Tryz.ntmps18
  go_wp2_with fail
  go_loopg [13] l.length (fun k s wr => ∃ j : Nat, j ≤ l.length ∧ k = l.length - j ∧ s = .int .i64 (j : Nat) ∧ (∀ (i : Nat) p q, i < j → l[i]? = some p → m[i]? = some q → p = q) ∧ ∃ n, wr = w.drewN n)
  case atStart => exact ⟨0, Nat.zero_le _, rfl, rfl, fun i _ _ h => absurd h (Nat.not_lt_zero _), 0, rfl⟩
  case round =>
    obtain ⟨j, hj, hk, rfl, heq, n, hwr⟩ := hrel
    have HK := Lib.hid hk
    have HE := Lib.hid heq
    clear hk heq
    have hj0 : (0 : Int) ≤ (j : Int) := Int.natCast_nonneg _
    by_cases hjn : j < l.length
    · have hjn1 : (j : Int) < (l.length : Int) := by omega
      have hjm1 : (j : Int) < (m.length : Int) := by have := HLEN.out; omega
      obtain ⟨p, hp⟩ : ∃ p, l[j]? = some p := ⟨_, List.getElem?_eq_getElem hjn⟩
      obtain ⟨q, hq⟩ : ∃ q, m[j]? = some q := ⟨_, List.getElem?_eq_getElem (by omega)⟩
      obtain ⟨g, o, rfl, -, hg, c1, c2⟩ := HX.out.at hp
      obtain ⟨g', o', rfl, -, hg', c1', c2'⟩ := HY.out.at hq
      obtain ⟨p1, p2⟩ := p
      obtain ⟨q1, q2⟩ := q
      dsimp only at c1 c2 c1' c2'
      have C1 : ∀ k, (w.drewN k).cell? ⟨g, o + j * 2, none⟩ = some (.int .i64 p1) := fun _ => c1
      have C2 : ∀ k, (w.drewN k).cell? ⟨g, o + j * 2 + 1, none⟩ = some (.int .i64 p2) := fun _ => c2
      have D1 : ∀ k, (w.drewN k).cell? ⟨g', o' + j * 2, none⟩ = some (.int .i64 q1) := fun _ => c1'
      have D2 : ∀ k, (w.drewN k).cell? ⟨g', o' + j * 2 + 1, none⟩ = some (.int .i64 q2) := fun _ => c2'
      clear c1 c2 c1' c2'
      have HP := Lib.hid hp
      have HQ := Lib.hid hq
      have HWR := Lib.hid hwr
      clear hp hq
      subst hwr
      by_cases hpq : ((p1, p2) : Cp.Pb) = (q1, q2)
      · have hb := Cp.eqb_true hpq
        have HPQ := Lib.hid hpq
        clear hpq
        go_wp2_with fail
        refine wp_region_cuts [] (by kernel_rfl) (by kernel_rfl) ?_; simp only [wpMix, List.take_succ_cons, List.take_zero, List.drop_succ_cons, List.drop_zero, Nat.sub_zero, Nat.reduceSub, Nat.reduceAdd]
        repeat (go_big_quiet_step (fail))
        refine wpQuiet_nil ?_; rintro _ ⟨nq, rfl⟩
        go_wp2_with fail
        go_roundg (l.length - (j + 1))
        case measure => rw [HK.out]; omega
        case rel =>
          refine ⟨j + 1, by omega, rfl, by simp, fun i p q hi h1 h2 => ?_, _, rfl⟩
          rcases Nat.lt_or_ge i j with h3 | h3
          · exact HE.out i p q h3 h1 h2
          · obtain rfl : i = j := by omega
            rw [HP.out] at h1
            rw [HQ.out] at h2
            cases h1
            cases h2
            exact HPQ.out
      · have hb := Cp.eqb_false hpq
        have HPQ := Lib.hid hpq
        clear hpq
        go_wp2_with fail
        refine wp_region_cuts [] (by kernel_rfl) (by kernel_rfl) ?_; simp only [wpMix, List.take_succ_cons, List.take_zero, List.drop_succ_cons, List.drop_zero, Nat.sub_zero, Nat.reduceSub, Nat.reduceAdd]
        repeat (go_big_quiet_step (fail))
        refine wpQuiet_nil ?_; rintro _ ⟨nq, rfl⟩
        go_wp2_with fail
        go_ret
        refine ⟨?_, _, World.drewN_drewN _ _ _⟩
        rw [HB.out, decide_eq_false]
        · rfl
        intro e
        have h1 := HP.out
        rw [e, HQ.out] at h1
        exact HPQ.out (Option.some.inj h1).symm
    · have hjn1 : (l.length : Int) ≤ (j : Int) := by omega
      subst hwr
      go_wp2_with fail
      go_ret
      refine ⟨?_, _, rfl⟩
      rw [HB.out, decide_eq_true]
      · rfl
      refine same_at HLEN.out fun i x y h1 h2 => HE.out i x y ?_ h1 h2
      have := (List.getElem?_eq_some_iff.1 h1).1
      omega
end Go.Proofs.YtmgoebfcfgilfaaGreatDoor
namespace Go.Proofs.YtmgoebfcfgilfaaGreatDoor
set_option linter.unusedSimpArgs false
set_option linter.unusedVariables false
open Go Go.RowKit
open Go.Maps Go.WideMaps

/-- A problem's cells. -/
def Cp.enc (p : Cp.Pb) : List Value := [.int .i64 p.1, .int .i64 p.2]
def pbCells (l : List Cp.Pb) : List Value := l.flatMap Cp.enc
theorem pbCells_app (a b : List Cp.Pb) : pbCells (a ++ b) = pbCells a ++ pbCells b := by unfold pbCells; rw [List.flatMap_append]
theorem pbCells_cons (p : Cp.Pb) (l : List Cp.Pb) : pbCells (p :: l) = [.int .i64 p.1, .int .i64 p.2] ++ pbCells l := by unfold pbCells; rw [List.flatMap_cons]; rfl
theorem pbCells_len : ∀ l : List Cp.Pb, (pbCells l).length = l.length * 2
  | [] => rfl
  | p :: r => by rw [pbCells_cons, List.length_append, pbCells_len r, List.length_cons]; simp; omega
theorem pbCells_oneCell (l : List Cp.Pb) : ∀ u ∈ pbCells l, u.oneCell' = true := fun u hu => by
  unfold pbCells at hu
  obtain ⟨c, _, hc⟩ := List.mem_flatMap.1 hu
  simp [Cp.enc] at hc
  rcases hc with rfl | rfl <;> rfl
theorem pbCells_at : ∀ (l : List Cp.Pb) (j : Nat) (p : Cp.Pb), l[j]? = some p → (pbCells l)[j * 2]? = some (.int .i64 p.1) ∧ (pbCells l)[j * 2 + 1]? = some (.int .i64 p.2)
  | [], j, p, h => by simp at h
  | x :: r, 0, p, h => by simp at h; subst h; rw [pbCells_cons]; exact ⟨rfl, rfl⟩
  | x :: r, j + 1, p, h => by
    have := pbCells_at r j p (by simpa using h)
    rw [pbCells_cons, show (j + 1) * 2 = j * 2 + 1 + 1 by omega]
    exact this
theorem pbCells_inv : ∀ (l : List Cp.Pb) (k : Nat) (u : Value), (pbCells l)[k]? = some u → ∃ p, l[k / 2]? = some p ∧ u = if k % 2 = 0 then .int .i64 p.1 else .int .i64 p.2
  | [], k, u, h => by simp [pbCells] at h
  | x :: r, 0, u, h => by rw [pbCells_cons] at h; simp at h; exact ⟨x, rfl, by rw [← h]; rfl⟩
  | x :: r, 1, u, h => by rw [pbCells_cons] at h; simp at h; exact ⟨x, rfl, by rw [← h]; rfl⟩
  | x :: r, k + 2, u, h => by
    rw [pbCells_cons] at h
    obtain ⟨p, h1, h2⟩ := pbCells_inv r k u (by simpa using h)
    rw [show (k + 2) / 2 = k / 2 + 1 by omega, show (k + 2) % 2 = k % 2 by omega]
    exact ⟨p, by simpa using h1, h2⟩
/-- Problems of the call's own. -/
def OwnP (w : World) (base : Nat) (v : Value) (l : List Cp.Pb) : Prop := w.ownsRow base 42 2 v l.length (pbCells l)
theorem infoP : (Tryz.prog.info? 42).map (fun i => (i.zero, i.size, i.bytes)) = some (some (.agg #[.int .i64 0, .int .i64 0]), 2, 16) := by kernel_rfl
theorem infoP_parts : ∃ i, Tryz.prog.info? 42 = some i ∧ i.zero = some (.agg #[.int .i64 0, .int .i64 0]) ∧ i.size = 2 ∧ i.bytes = 16 := by
  have h := infoP
  cases hh : Tryz.prog.info? 42 with
  | none => rw [hh] at h; cases h
  | some i =>
    rw [hh] at h
    simp only [Option.map_some, Option.some.injEq, Prod.mk.injEq] at h
    exact ⟨i, rfl, h.1, h.2.1, h.2.2⟩
theorem OwnP.mono {w : World} {base base' : Nat} {v : Value} {l : List Cp.Pb} (h : OwnP w base v l) (hb : base' ≤ base) : OwnP w base' v l := by
  refine ⟨h.1, ?_⟩
  rcases h.2 with h2 | ⟨g, cap, cur, hv, hg, r⟩
  · exact .inl h2
  · exact .inr ⟨g, cap, cur, hv, Nat.le_trans hb hg, r⟩
theorem OwnP.lt {w : World} {base : Nat} {v : Value} {l : List Cp.Pb} (h : OwnP w base v l) : ∀ g, v.ownBlock = some g → base ≤ g ∧ g < w.heap.size := fun g hg => World.ownsRow.lt h g hg
theorem OwnP.heap {w w' : World} {base : Nat} {v : Value} {l : List Cp.Pb} (h : OwnP w base v l) (hb : ∀ g, v.ownBlock = some g → w'.heap[g]? = w.heap[g]?) : OwnP w' base v l := row_to h hb
theorem OwnP.keep {w w' : World} {base : Nat} {v : Value} {l : List Cp.Pb} (h : OwnP w base v l) (hb : Below w.heap.size w w') : OwnP w' base v l :=
  h.heap (fun g hg => hb.block g (h.lt g hg).2)
theorem OwnP.form {w : World} {base : Nat} {v : Value} {l : List Cp.Pb} (h : OwnP w base v l) : ∃ a n c, v = .slice a n c ∧ Hid (n = l.length) := by
  rcases h.2 with ⟨h4, h5⟩ | ⟨g, cap, cur, hv, _⟩
  · exact ⟨none, 0, 0, h4, Lib.hid h5.symm⟩
  · exact ⟨_, _, _, hv, Lib.hid rfl⟩
theorem OwnP.nil (w : World) (base : Nat) : OwnP w base (.slice none 0 0) [] := World.ownsRow_nil _ _ _ _
theorem rows_pb (w : World) (P : Nat → Prop) : ∀ l : List Cp.Pb, RowsD w P 2 (l.map Cp.d) (pbCells l)
  | [] => .nil
  | p :: r => by
    rw [pbCells_cons]
    have h1 : Reads w P (Cp.d p) [.int .i64 p.1, .int .i64 p.2] := .obj (.cons (.int _) (.cons (.int _) .nil))
    exact .cons h1 rfl (rows_pb w P r)
theorem OwnP.pbs {w : World} {base : Nat} {v : Value} {l : List Cp.Pb} (h : OwnP w base v l) : Pbs w (fun g => v.ownBlock = some g) v l := by
  have hg : Grows w (fun _ => False) base 42 2 v (l.map Cp.d) := ⟨⟨pbCells l, by rw [List.length_map]; exact h, rows_pb w _ l⟩, fun _ _ h => h⟩
  exact hg.reads.to (Stands.sub _ (fun g _ hh => hh.elim False.elim id))
/-- Where a row grew, all that lay below its base stands. -/
theorem OwnP.grown {w wr w5 : World} {base : Nat} {v : Value} {l : List Cp.Pb} (ho : OwnP wr base v l) (hb : Below base w wr) (hg : wr.grownBy w5 v.ownBlock) (hbase : base ≤ wr.heap.size) : Below base w w5 := by
  refine ⟨hg.os.trans hb.os, hg.tape.trans hb.tape, hg.output.trans hb.output, Nat.le_trans hb.size hg.size, fun j hj => ?_⟩
  rw [← hb.block j hj]
  exact hg.block j (by omega) (fun e => by
    have := (ho.lt j e.symm).1
    omega)
theorem addrAddP (g o k : Nat) : (⟨g, o, none⟩ : Addr).add k = ⟨g, o + k, none⟩ := by
  by_cases h : k = 0
  · subst h; simp [Addr.add]
  · simp [Addr.add, h]
/-- A slice that is none has no room. -/
def NilCap (v : Value) : Prop := ∀ n c, v = .slice none n c → c = 0
theorem OwnP.nilCap {w : World} {base : Nat} {v : Value} {l : List Cp.Pb} (h : OwnP w base v l) : NilCap v := by
  intro n c e
  rcases h.2 with ⟨h4, h5⟩ | ⟨g, cap, cur, hv, _⟩
  · rw [h4] at e; cases e; rfl
  · rw [hv] at e; cases e
/-- One problem behind problems of one's own. -/
theorem wpList_append_pb {ops : Array Oper} {rest : List Oper} {o : Oper} {a : Act} {w : World} {Q : Exit → Act → World → Prop} (hgd : o.guard = none) (s x : Operand)
    (ho : o.op = .call { callee := .builtin .append, args := #[s, x], argTypes := #[37, 37] })
    (base : Nat) (v : Value) (l : List Cp.Pb) (hs : a.eval s = v) (hown : OwnP w base v l) (n : Cp.Pb) (b : Nat) (hx : a.eval x = .slice (some ⟨b, 0, none⟩) 1 1)
    (h0 : w.cell? ⟨b, 0, none⟩ = some (.int .i64 n.1)) (h1 : w.cell? ⟨b, 1, none⟩ = some (.int .i64 n.2)) (h63 : l.length ≤ 1000000000) (hbase : base ≤ w.heap.size)
    (h : ∀ v' w', OwnP w' base v' (l ++ [n]) → w.grownBy w' v.ownBlock → (v'.ownBlock = v.ownBlock ∨ v'.ownBlock = some w.heap.size) → wpList Tryz.prog ops Q rest (a.put o.dst v') w') :
    wpList Tryz.prog ops Q (o :: rest) a w := by
  obtain ⟨i0, hi, hz0, hz1, hz2⟩ := infoP_parts
  refine wpList_append_own_at w hgd s x _ ho base 42 i0 (.agg #[.int .i64 0, .int .i64 0]) 2 16 Tryz.underlying37 hi hz0 hz1 hz2 rfl (by decide) v l.length (pbCells l) hs hown ⟨b, 0, none⟩ 1 1 (pbCells [n]) hx rfl ?_ (pbCells_oneCell [n]) (by unfold maxLen; omega) (by omega) hbase ?_
  · intro j u hj
    rw [addr_add0]
    match j, hj with
    | 0, hj => simp [pbCells, Cp.enc] at hj; subst hj; exact h0
    | 1, hj => simp [pbCells, Cp.enc] at hj; subst hj; exact h1
    | j + 2, hj => simp [pbCells, Cp.enc] at hj
  · intro v' w' g1 g2 _ g4
    exact h v' w' (by unfold OwnP; rw [List.length_append, pbCells_app]; exact g1) g2 g4
/-- Problems, wherever they lie, behind problems of one's own. -/
theorem wpList_append_pbs {ops : Array Oper} {rest : List Oper} {o : Oper} {a : Act} {w : World} {Q : Exit → Act → World → Prop} (hgd : o.guard = none) (s x : Operand)
    (ho : o.op = .call { callee := .builtin .append, args := #[s, x], argTypes := #[37, 37] })
    (base : Nat) (v : Value) (l : List Cp.Pb) (hs : a.eval s = v) (hown : OwnP w base v l) (xv : Value) (P : Nat → Prop) (news : List Cp.Pb) (hx : a.eval x = xv) (hB : Pbs w P xv news)
    (h63 : l.length + news.length ≤ 1000000000) (hbase : base ≤ w.heap.size) (hnil : NilCap xv)
    (h : ∀ v' w', OwnP w' base v' (l ++ news) → w.grownBy w' v.ownBlock → (v'.ownBlock = v.ownBlock ∨ v'.ownBlock = some w.heap.size) → wpList Tryz.prog ops Q rest (a.put o.dst v') w') :
    wpList Tryz.prog ops Q (o :: rest) a w := by
  obtain ⟨i0, hi, hz0, hz1, hz2⟩ := infoP_parts
  obtain ⟨xa, xc, rfl⟩ := hB.form
  cases xa with
  | none =>
    have h0 : news = [] := by
      cases news with
      | nil => rfl
      | cons p r =>
        obtain ⟨g, o, e, _⟩ := hB.at (j := 0) (p := p) rfl
        cases e
    subst h0
    have hc0 : xc = 0 := hnil _ _ rfl
    subst hc0
    refine wpList_append_own_none hgd s x _ ho base 42 i0 2 Tryz.underlying37 hi v _ _ hs hown hx ?_
    exact h v w (by rw [List.append_nil]; exact hown) ⟨rfl, rfl, rfl, Nat.le_refl _, fun _ _ _ => rfl⟩ (.inl rfl)
  | some ad =>
    refine wpList_append_own_at w hgd s x _ ho base 42 i0 (.agg #[.int .i64 0, .int .i64 0]) 2 16 Tryz.underlying37 hi hz0 hz1 hz2 rfl (by decide) v l.length (pbCells l) hs hown ad news.length xc (pbCells news) hx (by rw [pbCells_len]) ?_ (pbCells_oneCell news) (by unfold maxLen; omega) (by omega) hbase ?_
    · intro j u hj
      obtain ⟨p, h1, h2⟩ := pbCells_inv _ _ _ hj
      obtain ⟨b, off, e1, _, _, e3, e4⟩ := hB.at h1
      cases e1
      rw [addrAddP]
      by_cases hj2 : j % 2 = 0
      · rw [if_pos hj2] at h2
        rw [h2, show off + j = off + j / 2 * 2 by omega]
        exact e3
      · rw [if_neg hj2] at h2
        rw [h2, show off + j = off + j / 2 * 2 + 1 by omega]
        exact e4
    · intro v' w' h1 h2 _ h4
      exact h v' w' (by unfold OwnP; rw [List.length_append, pbCells_app]; exact h1) h2 h4
end Go.Proofs.YtmgoebfcfgilfaaGreatDoor
namespace Go.Proofs.YtmgoebfcfgilfaaGreatDoor
set_option linter.unusedSimpArgs false
set_option linter.unusedVariables false
open Go Go.RowKit
open Go.Maps Go.WideMaps

namespace Cp
end Cp
/-- What stands while problems are gone through. -/
structure PRd (base : Nat) (wA : World) (p x : Cp.Pb) (bx b o : Nat) (v : Value) (out : List Cp.Pb) (w : World) : Prop where
  own : OwnP w base v out
  bel : Below base wA w
  hb : base ≤ w.heap.size
  z0 : w.cell? ⟨bx, 0, none⟩ = some (.int .i64 p.1)
  z1 : w.cell? ⟨bx, 1, none⟩ = some (.int .i64 p.2)
  c0 : w.cell? ⟨b, o, none⟩ = some (.int .i64 x.1)
  c1 : w.cell? ⟨b, o + 1, none⟩ = some (.int .i64 x.2)
theorem cellLtP {w : World} {a : Addr} {v : Value} (h : w.cell? a = some v) : a.block < w.heap.size := by
  rcases Nat.lt_or_ge a.block w.heap.size with h' | h'
  · exact h'
  · unfold World.cell? at h
    simp [Array.getElem?_eq_none h'] at h
theorem PRd.below {base : Nat} {wA : World} {p x : Cp.Pb} {bx b o : Nat} {v : Value} {out : List Cp.Pb} {w w' : World} (h : PRd base wA p x bx b o v out w) (hb : Below w.heap.size w w') : PRd base wA p x bx b o v out w' :=
  ⟨h.own.keep hb, h.bel.trans (hb.mono h.hb), Nat.le_trans h.hb hb.size, by rw [hb.cell (cellLtP h.z0)]; exact h.z0, by rw [hb.cell (cellLtP h.z1)]; exact h.z1, by rw [hb.cell (cellLtP h.c0)]; exact h.c0, by rw [hb.cell (cellLtP h.c1)]; exact h.c1⟩
theorem PRd.grown {base : Nat} {wA : World} {p x : Cp.Pb} {bx b o : Nat} {v v' : Value} {out out' : List Cp.Pb} {w w' : World} (h : PRd base wA p x bx b o v out w) (hbx : bx < base) (hbb : b < base) (ho : OwnP w' base v' out') (hg : w.grownBy w' v.ownBlock) : PRd base wA p x bx b o v' out' w' := by
  have hB : Below base w w' := h.own.grown (Below.refl _ _) hg h.hb
  exact ⟨ho, h.bel.trans hB, Nat.le_trans h.hb hB.size, by rw [hB.cell hbx]; exact h.z0, by rw [hB.cell hbx]; exact h.z1, by rw [hB.cell hbb]; exact h.c0, by rw [hB.cell hbb]; exact h.c1⟩
end Go.Proofs.YtmgoebfcfgilfaaGreatDoor
namespace Go.Proofs.YtmgoebfcfgilfaaGreatDoor
set_option linter.unusedSimpArgs false
set_option linter.unusedVariables false
open Go Go.RowKit
open Go.Maps Go.WideMaps

namespace Cp
end Cp
theorem isNaN_any (x : Int) (w : World) : Calls Tryz.prog 114 #[.int .i64 x] w fun e w' => e = .returned (.bool false) ∧ w' = w := by
  have e0 : (x != x) = false := by simp
  go_enter Tryz.func114, Tryz.ntmps114
  go_wp2_with fail
  go_ret
  exact ⟨rfl, rfl⟩
def Cp.cmp (x y : Int) : Int := if x < y then -1 else if y < x then 1 else 0
theorem compare_any (x y : Int) (w : World) : Calls Tryz.prog 53 #[.int .i64 x, .int .i64 y] w fun e w' => e = .returned (.int .i64 (Cp.cmp x y)) ∧ w' = w := by
  obtain ⟨r, hr⟩ : ∃ r, r = Cp.cmp x y := ⟨_, rfl⟩
  have HR := Lib.hid hr
  rw [← hr]
  clear hr
  by_cases h1 : x < y
  · have e1 : decide (x < y) = true := decide_eq_true h1
    have HV : Hid (Cp.cmp x y = -1) := Lib.hid (if_pos h1)
    go_enter Tryz.func53, Tryz.ntmps53
    go_wp2_with fail
    refine (isNaN_any x w).mono ?_
    rintro e w1 ⟨rfl, rfl⟩
    go_wp2_with fail
    refine (isNaN_any y w1).mono ?_
    rintro e w2 ⟨rfl, rfl⟩
    go_wp2_with fail
    go_ret
    exact ⟨by rw [HR.out, HV.out]; rfl, rfl⟩
  · have e1 : decide (x < y) = false := decide_eq_false h1
    by_cases h2 : y < x
    · have e2 : decide (y < x) = true := decide_eq_true h2
      have e3 : decide (x > y) = true := decide_eq_true h2
      have HV : Hid (Cp.cmp x y = 1) := Lib.hid (by unfold Cp.cmp; rw [if_neg h1, if_pos h2])
      go_enter Tryz.func53, Tryz.ntmps53
      go_wp2_with fail
      refine (isNaN_any x w).mono ?_
      rintro e w1 ⟨rfl, rfl⟩
      go_wp2_with fail
      refine (isNaN_any y w1).mono ?_
      rintro e w2 ⟨rfl, rfl⟩
      go_wp2_with fail
      go_ret
      exact ⟨by rw [HR.out, HV.out]; rfl, rfl⟩
    · have e2 : decide (y < x) = false := decide_eq_false h2
      have e3 : decide (x > y) = false := decide_eq_false h2
      have HV : Hid (Cp.cmp x y = 0) := Lib.hid (by unfold Cp.cmp; rw [if_neg h1, if_neg h2])
      go_enter Tryz.func53, Tryz.ntmps53
      go_wp2_with fail
      refine (isNaN_any x w).mono ?_
      rintro e w1 ⟨rfl, rfl⟩
      go_wp2_with fail
      refine (isNaN_any y w1).mono ?_
      rintro e w2 ⟨rfl, rfl⟩
      go_wp2_with fail
      go_ret
      exact ⟨by rw [HR.out, HV.out]; rfl, rfl⟩
end Go.Proofs.YtmgoebfcfgilfaaGreatDoor
namespace Go.Proofs.YtmgoebfcfgilfaaGreatDoor
set_option linter.unusedSimpArgs false
set_option linter.unusedVariables false
open Go Go.RowKit
open Go.Maps Go.WideMaps

set_option maxHeartbeats 1000000 in
set_option maxRecDepth 100000 in
theorem or_any (x y : Int) (b : Nat) (w : World) (h0 : w.cell? ⟨b, 0, none⟩ = some (.int .i64 x)) (h1 : w.cell? ⟨b, 1, none⟩ = some (.int .i64 y)) :
    Calls Tryz.prog 52 #[.slice (some ⟨b, 0, none⟩) 2 2] w fun e w' => e = .returned (.int .i64 (if x = 0 then y else x)) ∧ w' = w := by
  obtain ⟨r, hr⟩ : ∃ r, r = (if x = 0 then y else x) := ⟨_, rfl⟩
  have HR := Lib.hid hr
  rw [← hr]
  clear hr
  go_enter Tryz.func52, Tryz.ntmps52
  go_wp2_with fail
  go_loopg [5, 8] 3 (fun k s5 s8 wq => ∃ i : Nat, i ≤ 2 ∧ k = 3 - i ∧ s8 = .int .i64 (i : Nat) ∧ (1 ≤ i → x = 0) ∧ (2 ≤ i → y = 0) ∧ wq = w)
  case atStart => exact ⟨0, Nat.zero_le _, rfl, rfl, fun h => by omega, fun h => by omega, rfl⟩
  case round =>
    obtain ⟨i, hi, hk, rfl, hx, hy, hwr⟩ := hrel
    have HK := Lib.hid hk
    have HX := Lib.hid hx
    have HY := Lib.hid hy
    clear hk hx hy
    subst hwr
    have hi0 : (0 : Int) ≤ (i : Int) := Int.natCast_nonneg _
    match i, hi, HK, HX, HY, hi0 with
    | 0, _, HK, HX, HY, _ =>
      by_cases h : x = 0
      · have e1 : (x != 0) = false := by rw [h]; rfl
        have HH := Lib.hid h
        clear h
        go_wp2_with fail
        go_roundg 2
        case measure => rw [HK.out]; omega
        case rel => exact ⟨1, by omega, rfl, rfl, fun _ => HH.out, fun h => by omega, rfl⟩
      · have e1 : (x != 0) = true := by simp [h]
        go_wp2_with fail
        go_ret
        exact ⟨by rw [HR.out, if_neg h]; rfl, rfl⟩
    | 1, _, HK, HX, HY, _ =>
      have HH := Lib.hid (HX.out (Nat.le_refl _))
      by_cases h : y = 0
      · have e1 : (y != 0) = false := by rw [h]; rfl
        have HH2 := Lib.hid h
        clear h
        go_wp2_with fail
        go_roundg 1
        case measure => rw [HK.out]; omega
        case rel => exact ⟨2, by omega, rfl, rfl, fun _ => HH.out, fun _ => HH2.out, rfl⟩
      · have e1 : (y != 0) = true := by simp [h]
        go_wp2_with fail
        go_ret
        exact ⟨by rw [HR.out, if_pos HH.out]; rfl, rfl⟩
    | 2, _, HK, HX, HY, _ =>
      have HH := Lib.hid (HX.out (by omega))
      have HH2 := Lib.hid (HY.out (by omega))
      go_wp2_with fail
      go_ret
      exact ⟨by rw [HR.out, if_pos HH.out, HH2.out]; rfl, rfl⟩
    | i + 3, hi, _, _, _, _ => exact absurd hi (by omega)

open Go.Sort Go.Lib in
theorem grow_three (W : World) (A B C : Obj) (n m k : Nat) : (((((W.alloc A).alloc B).drewN n).alloc C).drewN m).drewN k = grow (W.drewN (n + m + k)) #[A, B, C] := by
  have hh : ((W.heap.push A).push B).push C = W.heap ++ #[A, B, C] := by
    apply Array.toList_inj.1
    rw [Array.toList_push, Array.toList_push, Array.toList_push, Array.toList_append]
    simp
  have hd : W.drawn + n + m + k = W.drawn + (n + m + k) := by omega
  exact congr (congrArg (fun h d => ({ W with heap := h, drawn := d } : World)) hh) hd
/-- Which of two problems comes first. -/
def Cp.cf (p q : Cp.Pb) : Int := if Cp.cmp p.2 q.2 = 0 then Cp.cmp p.1 q.1 else Cp.cmp p.2 q.2
open Go.Sort Go.Lib in
set_option maxHeartbeats 1000000 in
set_option maxRecDepth 100000 in
theorem closure_any (x y : Cp.Pb) (W : World) : Calls Tryz.prog 51 #[.agg #[.int .i64 x.1, .int .i64 x.2], .agg #[.int .i64 y.1, .int .i64 y.2]] W fun e w' => e = .returned (.int .i64 (Cp.cf x y)) ∧ ∃ q os', w' = grow (W.drewN q) os' := by
  obtain ⟨x1, x2⟩ := x
  obtain ⟨y1, y2⟩ := y
  dsimp only
  obtain ⟨r, hr⟩ : ∃ r, r = Cp.cf (x1, x2) (y1, y2) := ⟨_, rfl⟩
  have HR := Lib.hid hr
  rw [← hr]
  clear hr
  have hc2 := fun w => compare_any x2 y2 w
  have hc1 := fun w => compare_any x1 y1 w
  obtain ⟨c2, h2⟩ : ∃ c, c = Cp.cmp x2 y2 := ⟨_, rfl⟩
  obtain ⟨c1, h1⟩ : ∃ c, c = Cp.cmp x1 y1 := ⟨_, rfl⟩
  rw [← h2] at hc2
  rw [← h1] at hc1
  have H2 := Lib.hid h2
  have H1 := Lib.hid h1
  clear h2 h1
  obtain ⟨X, hX⟩ : ∃ X, X = W.alloc (.cells #[.int .i64 x1, .int .i64 x2] 42) := ⟨_, rfl⟩
  obtain ⟨Y, hY⟩ : ∃ Y, Y = X.alloc (.cells #[.int .i64 y1, .int .i64 y2] 42) := ⟨_, rfl⟩
  have hsx : X.heap.size = W.heap.size + 1 := by rw [hX]; simp
  have x0 : Y.cell? ⟨W.heap.size, 0, none⟩ = some (.int .i64 x1) := by
    rw [hY, ((Below.refl X.heap.size X).alloc (Nat.le_refl _) _).cell (by simp [hsx]), hX]
    exact cell_at_new W #[.int .i64 x1, .int .i64 x2] 42 (0, 0) 0 _ rfl
  have x1' : Y.cell? ⟨W.heap.size, 1, none⟩ = some (.int .i64 x2) := by
    rw [hY, ((Below.refl X.heap.size X).alloc (Nat.le_refl _) _).cell (by simp [hsx]), hX]
    exact cell_at_new W #[.int .i64 x1, .int .i64 x2] 42 (0, 0) 1 _ rfl
  have y0 : Y.cell? ⟨W.heap.size + 1, 0, none⟩ = some (.int .i64 y1) := by
    rw [hY, ← hsx]
    exact cell_at_new X #[.int .i64 y1, .int .i64 y2] 42 (0, 0) 0 _ rfl
  have y1' : Y.cell? ⟨W.heap.size + 1, 1, none⟩ = some (.int .i64 y2) := by
    rw [hY, ← hsx]
    exact cell_at_new X #[.int .i64 y1, .int .i64 y2] 42 (0, 0) 1 _ rfl
  have HX := Lib.hid hX
  have HY := Lib.hid hY
  have hyw : (W.alloc (.cells #[.int .i64 x1, .int .i64 x2] 42)).alloc (.cells #[.int .i64 y1, .int .i64 y2] 42) = Y := by rw [hY, hX]
  clear hX hY hsx
  go_enter Tryz.func51, Tryz.ntmps51
  go_wp2_with fail
  clear hyw
  refine wp_region_cuts [10, 11] (by kernel_rfl) (by kernel_rfl) ?_; simp only [wpMix, List.take_succ_cons, List.take_zero, List.drop_succ_cons, List.drop_zero, Nat.sub_zero, Nat.reduceSub, Nat.reduceAdd]
  repeat (go_big_quiet_step ((first | with_reducible exact Calls.quiet_of_same (hc2 _) | with_reducible exact Calls.quiet_of_same (hc1 _))))
  refine wpQuiet_nil ?_; rintro _ ⟨nq, rfl⟩
  go_wp2_with fail
  refine wpQuiet_nil ?_
  rintro _ ⟨nq2, rfl⟩
  have o0 : (((Y.drewN nq).alloc (.cells #[.int .i64 c2, .int .i64 c1] 3)).drewN nq2).cell? ⟨Y.heap.size, 0, none⟩ = some (.int .i64 c2) := cell_at_new (Y.drewN nq) #[.int .i64 c2, .int .i64 c1] 3 (0, 0) 0 _ rfl
  have o1 : (((Y.drewN nq).alloc (.cells #[.int .i64 c2, .int .i64 c1] 3)).drewN nq2).cell? ⟨Y.heap.size, 1, none⟩ = some (.int .i64 c1) := cell_at_new (Y.drewN nq) #[.int .i64 c2, .int .i64 c1] 3 (0, 0) 1 _ rfl
  have ho := or_any c2 c1 Y.heap.size _ o0 o1
  obtain ⟨oo, hoo⟩ : ∃ oo, oo = (if c2 = 0 then c1 else c2) := ⟨_, rfl⟩
  rw [← hoo] at ho
  have HOO := Lib.hid hoo
  have HO := Lib.hid ho
  clear ho hoo
  clear o0 o1 x0 x1' y0 y1' hc1 hc2
  go_wp2_with fail
  refine HO.out.mono ?_
  rintro e w6 ⟨rfl, rfl⟩
  go_wp2
  repeat (go_big_quiet_step (fail))
  refine wpQuiet_nil ?_
  rintro w8 ⟨n8, rfl⟩
  go_wp2_with fail
  go_ret
  have hr2 : r = oo := by rw [HR.out, HOO.out]; unfold Cp.cf; dsimp only; rw [← H1.out, ← H2.out]
  refine ⟨by rw [hr2]; rfl, nq + nq2 + n8, #[.cells #[.int .i64 x1, .int .i64 x2] 42, .cells #[.int .i64 y1, .int .i64 y2] 42, .cells #[.int .i64 c2, .int .i64 c1] 3], ?_⟩
  rw [HY.out, HX.out]
  exact grow_three W _ _ _ nq nq2 n8
end Go.Proofs.YtmgoebfcfgilfaaGreatDoor
namespace Go.Proofs.YtmgoebfcfgilfaaGreatDoor
set_option linter.unusedSimpArgs false
set_option linter.unusedVariables false
open Go Go.RowKit
open Go.Maps Go.WideMaps

def sortPb_ren : Go.Shelf.Ren := ⟨fun | 6 => 50 | 15 => 113 | 14 => 112 | 28 => 178 | 29 => 179 | 20 => 170 | 21 => 171 | 22 => 172 | 23 => 173 | 24 => 174 | 25 => 175 | 26 => 176 | 27 => 177 | 46 => 225 | 47 => 226 | 48 => 227 | 49 => 228 | 50 => 229 | 57 => 251 | n => n, fun | 22 => 37 | 24 => 42 | 25 => 109 | 3 => 3 | 39 => 175 | 0 => 0 | 53 => 239 | 55 => 241 | 4 => 4 | 46 => 233 | 45 => 232 | 50 => 90 | 5 => 5 | 9 => 9 | 66 => 272 | 70 => 198 | 76 => 289 | 77 => 157 | n => n, fun | n => n⟩
theorem sortPb_lays : Go.Proofs.SlLaysF0.n6 Tryz.prog sortPb_ren := {
  mixed := by kernel_rfl
  f6 := ⟨Tryz.f50.name, by decide, Tryz.func50.trans (congrArg some (by kernel_rfl))⟩
  f14 := ⟨Tryz.f112.name, by decide, Tryz.func112.trans (congrArg some (by kernel_rfl))⟩
  f15 := Tryz.func113.trans (congrArg some (by kernel_rfl))
  f20 := ⟨Tryz.f170.name, by decide, Tryz.func170.trans (congrArg some (by kernel_rfl))⟩
  f21 := ⟨Tryz.f171.name, by decide, Tryz.func171.trans (congrArg some (by kernel_rfl))⟩
  f22 := ⟨Tryz.f172.name, by decide, Tryz.func172.trans (congrArg some (by kernel_rfl))⟩
  f23 := ⟨Tryz.f173.name, by decide, Tryz.func173.trans (congrArg some (by kernel_rfl))⟩
  f24 := ⟨Tryz.f174.name, by decide, Tryz.func174.trans (congrArg some (by kernel_rfl))⟩
  f25 := ⟨Tryz.f175.name, by decide, Tryz.func175.trans (congrArg some (by kernel_rfl))⟩
  f26 := ⟨Tryz.f176.name, by decide, Tryz.func176.trans (congrArg some (by kernel_rfl))⟩
  f27 := ⟨Tryz.f177.name, by decide, Tryz.func177.trans (congrArg some (by kernel_rfl))⟩
  f28 := Tryz.func178.trans (congrArg some (by kernel_rfl))
  f29 := Tryz.func179.trans (congrArg some (by kernel_rfl))
  f46 := ⟨Tryz.f225.name, by decide, Tryz.func225.trans (congrArg some (by kernel_rfl))⟩
  f47 := Tryz.func226.trans (congrArg some (by kernel_rfl))
  f48 := Tryz.func227.trans (congrArg some (by kernel_rfl))
  f49 := ⟨Tryz.f228.name, by decide, Tryz.func228.trans (congrArg some (by kernel_rfl))⟩
  f50 := ⟨Tryz.f229.name, by decide, Tryz.func229.trans (congrArg some (by kernel_rfl))⟩
  f57 := ⟨Tryz.f251.name, by decide, Tryz.func251.trans (congrArg some (by kernel_rfl))⟩
  t0 := Tryz.underlying0
  a0 := Tryz.isAgg0
  z0 := Tryz.sizeOf0
  v0 := Tryz.zeroValue0
  t3 := Tryz.underlying3
  a3 := Tryz.isAgg3
  z3 := Tryz.sizeOf3
  v3 := Tryz.zeroValue3
  t4 := Tryz.underlying4
  a4 := Tryz.isAgg4
  z4 := Tryz.sizeOf4
  v4 := Tryz.zeroValue4
  t5 := Tryz.underlying5
  a5 := Tryz.isAgg5
  z5 := Tryz.sizeOf5
  v5 := Tryz.zeroValue5
  t9 := Tryz.underlying9
  a9 := Tryz.isAgg9
  z9 := Tryz.sizeOf9
  v9 := Tryz.zeroValue9
  t22 := Tryz.underlying37
  a22 := Tryz.isAgg37
  z22 := Tryz.sizeOf37
  v22 := Tryz.zeroValue37
  t25 := Tryz.underlying109
  a25 := Tryz.isAgg109
  z25 := Tryz.sizeOf109
  v25 := Tryz.zeroValue109
  t39 := Tryz.underlying175
  a39 := Tryz.isAgg175
  z39 := Tryz.sizeOf175
  v39 := Tryz.zeroValue175
  t45 := Tryz.underlying232
  a45 := Tryz.isAgg232
  z45 := Tryz.sizeOf232
  v45 := Tryz.zeroValue232
  t46 := Tryz.underlying233
  a46 := Tryz.isAgg233
  z46 := Tryz.sizeOf233
  v46 := Tryz.zeroValue233
  t50 := Tryz.underlying90
  a50 := Tryz.isAgg90
  z50 := Tryz.sizeOf90
  v50 := Tryz.zeroValue90
  t53 := Tryz.underlying239
  a53 := Tryz.isAgg239
  z53 := Tryz.sizeOf239
  v53 := Tryz.zeroValue239
  t55 := Tryz.underlying241
  a55 := Tryz.isAgg241
  z55 := Tryz.sizeOf241
  v55 := Tryz.zeroValue241
  t66 := Tryz.underlying272
  a66 := Tryz.isAgg272
  z66 := Tryz.sizeOf272
  v66 := Tryz.zeroValue272
  t70 := Tryz.underlying198
  a70 := Tryz.isAgg198
  z70 := Tryz.sizeOf198
  v70 := Tryz.zeroValue198
  t76 := Tryz.underlying289
  a76 := Tryz.isAgg289
  z76 := Tryz.sizeOf289
  v76 := Tryz.zeroValue289
  t77 := Tryz.underlying157
  a77 := Tryz.isAgg157
  z77 := Tryz.sizeOf157
  v77 := Tryz.zeroValue157 }

open Go.Sort Go.Lib
/-- Problems in a row of the call's own: put in order. -/
theorem cp_lt (x y : Cp.Pb) : ltOf Cp.cf x y = Cp.lt x y := by
  obtain ⟨x1, x2⟩ := x
  obtain ⟨y1, y2⟩ := y
  rw [Bool.eq_iff_iff]
  unfold ltOf
  rw [Cp.lt_iff]
  unfold Cp.cf Cp.cmp
  simp only
  repeat' split
  all_goals (simp; try omega)
theorem cp_swo : SWO (ltOf Cp.cf) where
  irrefl x := by rw [cp_lt]; exact Cp.lt_irrefl x
  trans x y z h1 h2 := by rw [cp_lt] at *; exact Cp.lt_trans h1 h2
  ntrans x y z h1 h2 := by
    rw [cp_lt, ← Bool.not_eq_true, Cp.lt_iff] at *
    omega
theorem cmpLaysP (blk off size : Nat) (w : World) : CmpLays Tryz.prog 51 #[] Cp.enc 2 Cp.cf blk off size w :=
  fun _ _ _ _ x y => closure_any x y _
theorem flatK_eq (l : List Cp.Pb) : flatK Cp.enc 2 l.toArray = (pbCells l).toArray := by
  refine ext_get! (by rw [size_flatK, List.size_toArray, List.size_toArray, pbCells_len]) fun t ht => ?_
  have ht' : t < l.toArray.size * 2 := by rw [size_flatK] at ht; exact ht
  rw [get_flatK _ _ _ _ ht']
  have ht2 : t < (pbCells l).length := by rw [pbCells_len]; simpa using ht'
  obtain ⟨p, h1, h2⟩ := pbCells_inv l t _ (List.getElem?_eq_getElem ht2)
  have e1 : l.toArray[t / 2]! = p := by
    have hq := (List.getElem?_eq_some_iff.1 h1)
    rw [getElem!_pos _ _ (by simpa using hq.1)]
    simpa using hq.2
  have e2 : (pbCells l).toArray[t]! = (pbCells l)[t] := by
    rw [getElem!_pos _ _ (by simpa using ht2)]
    rfl
  rw [e1, e2, h2]
  unfold Cp.enc
  rcases Nat.mod_two_eq_zero_or_one t with h | h <;> rw [h] <;> rfl
theorem OwnP.holds {w : World} {base blk n cap : Nat} {l : List Cp.Pb} (h : OwnP w base (.slice (some ⟨blk, 0, none⟩) n cap) l) : HoldsK Cp.enc 2 w blk 0 l.toArray := by
  unfold HoldsK
  rw [flatK_eq]
  rcases h.2 with ⟨h4, h5⟩ | ⟨g, cap', cur, hv, hg, hb, hc, hm, hs, ht⟩
  · cases h4
  cases hv
  intro j hj
  have hj' : j < (pbCells l).length := by simpa using hj
  have e2 : (pbCells l).toArray[j]! = (pbCells l)[j] := by
    rw [getElem!_pos _ _ (by simpa using hj')]
    rfl
  have hlen := pbCells_len l
  have hcj : j < cur.size := by omega
  have e3 : (pbCells l)[j] = cur[j] := by
    have : (pbCells l)[j]? = cur.toList[j]? := by
      rw [← ht, List.getElem?_take_of_lt (by omega)]
    rw [List.getElem?_eq_getElem hj', List.getElem?_eq_getElem (by simpa using hcj)] at this
    simpa using this
  refine ⟨?_, ?_⟩
  · unfold World.cell?
    dsimp only
    rw [hb]
    simp only [Option.isSome_none, Bool.false_eq_true, if_false]
    rw [e2, e3, Nat.zero_add]
    simp [hcj]
  · unfold World.frozen?
    dsimp only
    rw [hb]
    simp
theorem OwnP.sorted {w : World} {base blk n cap : Nat} {l d : List Cp.Pb} (h : OwnP w base (.slice (some ⟨blk, 0, none⟩) n cap) l) (hd : d.length = l.length) (m : Nat) (os : Array Obj) :
    OwnP (sortWorldK Cp.enc 2 w blk 0 m d.toArray os) base (.slice (some ⟨blk, 0, none⟩) n cap) d ∧ (base ≤ w.heap.size → Below base w (sortWorldK Cp.enc 2 w blk 0 m d.toArray os)) := by
  rcases h.2 with ⟨h4, h5⟩ | ⟨g, cap', cur, hv, hg, hb, hc, hm, hs, ht⟩
  · cases h4
  have hn : n = l.length := by cases hv; rfl
  cases hv
  have hbl : blk < w.heap.size := block_lt hb
  have hw : (sortWorldK Cp.enc 2 w blk 0 m d.toArray os).heap[blk]? = some (.cells (putCells id 0 (pbCells d).toArray cur) 42 (0, 0)) := by
    unfold sortWorldK
    rw [heap_grow_old _ _ (by show blk < (Array.modify _ _ _).size; rw [Array.size_modify]; exact hbl)]
    unfold putRowK putRow
    rw [flatK_eq]
    show (Array.modify _ blk _)[blk]? = _
    rw [Array.getElem?_modify, if_pos rfl]
    show Option.map _ w.heap[blk]? = _
    rw [hb]
    rfl
  have hlen := pbCells_len d
  refine ⟨⟨by rw [pbCells_len], .inr ⟨blk, cap, _, by rw [hd], hg, hw, by omega, hm, by unfold putCells; rw [Array.size_mapIdx]; exact hs, ?_⟩⟩, fun hbw => ?_⟩
  · apply List.ext_getElem?
    intro j
    by_cases hj : j < d.length * 2
    · rw [List.getElem?_take_of_lt hj]
      have hcj : j < cur.size := by omega
      have hj' : j < (pbCells d).length := by omega
      unfold putCells
      rw [Array.getElem?_toList, Array.getElem?_mapIdx, Array.getElem?_eq_getElem hcj]
      simp only [Option.map_some, id]
      rw [if_pos ⟨Nat.zero_le _, by simpa using hj'⟩, List.getElem?_eq_getElem hj', Nat.sub_zero, getElem!_pos _ _ (by simpa using hj')]
      rfl
    · rw [List.getElem?_take, if_neg hj, List.getElem?_eq_none (by omega)]
  · unfold sortWorldK
    refine ⟨rfl, rfl, rfl, ?_, fun k hk => ?_⟩
    · show w.heap.size ≤ (Array.modify _ _ _ ++ os).size
      rw [Array.size_append, Array.size_modify]
      exact Nat.le_add_right _ _
    · rw [heap_grow_old _ _ (by show k < (Array.modify _ _ _).size; rw [Array.size_modify]; show k < w.heap.size; omega)]
      unfold putRowK putRow
      show (Array.modify _ blk _)[k]? = _
      rw [Array.getElem?_modify, if_neg (by omega)]
      rfl
set_option maxHeartbeats 1000000 in
theorem sortP_any (v : Value) (l : List Cp.Pb) (w : World) (base : Nat) (ho : OwnP w base v l) (hbw : base ≤ w.heap.size) (hl : l.length ≤ 1000000000) :
    Calls Tryz.prog 50 #[v, .func (.func 51) #[] #[]] w fun e w' => e = .returned (.tuple #[]) ∧ ∃ d : List Cp.Pb, d.length = l.length ∧ (∀ x, x ∈ d ↔ x ∈ l) ∧ (d.Pairwise fun x y => Cp.lt y x = false) ∧ OwnP w' base v d ∧ Below base w w' := by
  rcases ho.2 with ⟨h4, h5⟩ | ⟨g, cap, cur, hv, hg, hb, hc, hm, hs, ht⟩
  · subst h4
    refine (AnyF.slices_SortFunc_none sortPb_lays none 0 _ w).mono ?_
    rintro e w' ⟨rfl, rfl⟩
    have : l = [] := List.eq_nil_of_length_eq_zero h5
    subst this
    exact ⟨rfl, [], rfl, fun _ => Iff.rfl, List.Pairwise.nil, ho, Below.refl _ _⟩
  · subst hv
    have eg : ∀ args w, (callFunc 51 args).run Tryz.prog w = .ok (.enter 51 args) w := enters_of Tryz.func51 (by kernel_rfl) rfl
    have hcon := AnyQ.slices_SortFunc_total sortPb_lays 2 Tryz.isAgg42 Tryz.sizeOf42 Cp.enc (fun _ => rfl) (fun x v hv => by simp [Cp.enc] at hv; rcases hv with rfl | rfl <;> rfl) Cp.cf cp_swo 51 #[] g 0 cap l.toArray w eg (cmpLaysP g 0 _ w) ho.holds (block_lt hb) (by simp; omega)
      (fun x y h1 h2 => by
        rw [cp_lt] at h1 h2
        rcases Cp.lt_total x y with h | h | h
        · rw [h] at h1; cases h1
        · exact h
        · rw [h] at h2; cases h2)
    refine hcon.mono ?_
    rintro e w' ⟨rfl, n, os, rfl⟩
    obtain ⟨d, hd⟩ : ∃ d, d = l.mergeSort (fun x y => !ltOf Cp.cf y x) := ⟨_, rfl⟩
    have hp : d.Perm l := by rw [hd]; exact List.mergeSort_perm _ _
    have hs2 := ho.sorted hp.length_eq n os
    rw [show (l.toArray.toList.mergeSort fun x y => !ltOf Cp.cf y x) = d by rw [hd]]
    refine ⟨rfl, d, hp.length_eq, fun x => hp.mem_iff, ?_, hs2.1, hs2.2 hbw⟩
    have hso : d.Pairwise (fun x y => (!ltOf Cp.cf y x) = true) := by
      rw [hd]
      refine List.pairwise_mergeSort (fun a b c h1 h2 => ?_) (fun a b => ?_) l
      · rw [cp_lt] at *
        simp only [Bool.not_eq_true'] at *
        rw [← Bool.not_eq_true, Cp.lt_iff] at *
        omega
      · rw [cp_lt, cp_lt]
        rcases Cp.lt_total a b with h | h | h
        · rw [Cp.lt_asymm h]; simp
        · rw [h, Cp.lt_irrefl]; simp
        · rw [Cp.lt_asymm h]; simp
    exact hso.imp (fun {x y} h => by rw [cp_lt] at h; simpa using h)
end Go.Proofs.YtmgoebfcfgilfaaGreatDoor
namespace Go.Proofs.YtmgoebfcfgilfaaGreatDoor
set_option linter.unusedSimpArgs false
set_option linter.unusedVariables false
open Go Go.RowKit
open Go.Maps Go.WideMaps

def growP_ren : Go.Shelf.Ren := ⟨fun | 4 => 111 | n => n, fun | 0 => 0 | 3 => 3 | 4 => 4 | 9 => 9 | 20 => 20 | 22 => 37 | 25 => 42 | n => n, fun | n => n⟩
theorem growP_lays : Go.Proofs.Lays8.n4 Tryz.prog growP_ren := {
  mixed := by kernel_rfl
  f4 := ⟨Tryz.f111.name, by decide, Tryz.func111.trans (congrArg some (by kernel_rfl))⟩
  t0 := Tryz.underlying0
  a0 := Tryz.isAgg0
  z0 := Tryz.sizeOf0
  v0 := Tryz.zeroValue0
  t3 := Tryz.underlying3
  a3 := Tryz.isAgg3
  z3 := Tryz.sizeOf3
  v3 := Tryz.zeroValue3
  t4 := Tryz.underlying4
  a4 := Tryz.isAgg4
  z4 := Tryz.sizeOf4
  v4 := Tryz.zeroValue4
  t9 := Tryz.underlying9
  a9 := Tryz.isAgg9
  z9 := Tryz.sizeOf9
  v9 := Tryz.zeroValue9
  t20 := Tryz.underlying20
  a20 := Tryz.isAgg20
  z20 := Tryz.sizeOf20
  v20 := Tryz.zeroValue20
  t22 := Tryz.underlying37
  a22 := Tryz.isAgg37
  z22 := Tryz.sizeOf37
  v22 := Tryz.zeroValue37 }

theorem growP_any (n : Nat) (w : World) (hn : n ≤ 1000000000) :
    Calls Tryz.prog 111 #[.slice none 0 0, .int .i64 n] w fun e w' => ∃ v, e = .returned v ∧ OwnP w' w.heap.size v [] ∧ Below w.heap.size w w' := by
  obtain ⟨i0, hi, hz0, hz1, hz2⟩ := infoP_parts
  by_cases h0 : n = 0
  · subst h0
    refine (Any8.slices_Grow_room growP_lays none 0 0 0 w (by omega) (by omega) (by omega) (by omega)).mono ?_
    rintro e w' ⟨rfl, rfl⟩
    exact ⟨_, rfl, World.ownsRow_nil _ _ _ _, Below.refl _ _⟩
  · refine (Any8.slices_Grow_grow growP_lays i0 (.agg #[.int .i64 0, .int .i64 0]) hi hz0 (by rw [hz1]; omega) none 0 0 n [] w (by omega) (by omega) (by rw [hz2]; omega) (by omega) (by simp) (fun _ => rfl) (fun a h => by cases h)).mono ?_
    rintro e w' ⟨rfl, rfl⟩
    refine ⟨_, rfl, ?_, ⟨rfl, rfl, rfl, by simp, fun k hk => Below.heap_alloc w.drew _ _ hk⟩⟩
    have hcap := grownCap_le_maxLen w (0 + n) 0 (growP_ren.t 25) (by unfold maxLen; omega)
    have hge := grownCap_ge w (0 + n) 0 (growP_ren.t 25)
    refine ⟨rfl, .inr ⟨w.heap.size, _, _, rfl, Nat.le_refl _, heap_at_new w.drew _, Nat.zero_le _, hcap, ?_, ?_⟩⟩
    · rw [Nat.zero_add] at hge
      simp [Builtin.zeroCells, Value.cells]
      omega
    · rfl
/-- A slice of such. -/
def Prp (w : World) (v : Value) (ls : List (List Cp.Pb)) : Prop :=
  ∃ a cap, v = .slice a ls.length cap ∧ ∀ (i : Nat) l, ls[i]? = some l → ∃ b off v' P, a = some ⟨b, off, none⟩ ∧ b < w.heap.size ∧ w.cell? ⟨b, off + i, none⟩ = some v' ∧ NilCap v' ∧ Pbs w P v' l
theorem Prp.form {w : World} {v : Value} {l : List (List Cp.Pb)} (h : Prp w v l) : ∃ a cap, v = .slice a l.length cap := by
  obtain ⟨a, cap, h1, h2⟩ := h
  exact ⟨a, cap, h1⟩
theorem Prp.at {w : World} {a : Option Addr} {n cap : Nat} {ls : List (List Cp.Pb)} (h : Prp w (.slice a n cap) ls) {i : Nat} {l : List Cp.Pb} (hi : ls[i]? = some l) :
    ∃ b off v' P, a = some ⟨b, off, none⟩ ∧ b < w.heap.size ∧ w.cell? ⟨b, off + i, none⟩ = some v' ∧ NilCap v' ∧ Pbs w P v' l := by
  obtain ⟨a', cap', h1, h2⟩ := h
  obtain ⟨b, off, v', P, e, h3, h4, h5, h6⟩ := h2 i l hi
  simp only [Value.slice.injEq] at h1
  exact ⟨b, off, v', P, by rw [h1.1, e], h3, h4, h5, h6⟩
theorem flat_takeP {α} (ls : List (List α)) (j : Nat) (l : List α) (h : ls[j]? = some l) : (ls.take (j + 1)).flatten = (ls.take j).flatten ++ l := by
  rw [List.take_add_one, h]
  simp

set_option maxHeartbeats 1000000 in
set_option maxRecDepth 100000 in
theorem concatP_any (v : Value) (ls : List (List Cp.Pb)) (w : World) (hV : Prp w v ls) (hl : ls.length ≤ 1000000000) (hs : ls.flatten.length ≤ 1000000) :
    Calls Tryz.prog 49 #[v] w fun e w' => ∃ v', e = .returned v' ∧ OwnP w' w.heap.size v' ls.flatten ∧ Below w.heap.size w w' := by
  obtain ⟨va, vc, rfl⟩ := hV.form
  have HV := Lib.hid hV
  clear hV
  go_enter Tryz.func49, Tryz.ntmps49
  go_wp2_with fail
  go_loopg [3, 5, 11] ls.length (fun k s3 s5 s11 wr => ∃ j : Nat, j ≤ ls.length ∧ k = ls.length - j ∧ s11 = .int .i64 (j : Nat) ∧ (∃ M : Nat, s3 = .int .i64 (M : Nat) ∧ M = (ls.take j).flatten.length) ∧ wr = w)
  case atStart => exact ⟨0, Nat.zero_le _, rfl, rfl, ⟨0, rfl, rfl⟩, rfl⟩
  case round =>
    obtain ⟨j, hj, hk, rfl, ⟨M, rfl, hM⟩, hwr⟩ := hrel
    subst wr
    have HK := Lib.hid hk
    have HM := Lib.hid hM
    clear hk hM
    have hj0 : (0 : Int) ≤ (j : Int) := Int.natCast_nonneg _
    by_cases hjn : j < ls.length
    · have hjn1 : (j : Int) < (ls.length : Int) := by omega
      obtain ⟨l, hlj⟩ : ∃ l, ls[j]? = some l := ⟨_, List.getElem?_eq_getElem hjn⟩
      obtain ⟨g, o, lv, P, rfl, hg, hgc, hnc, hB⟩ := HV.out.at hlj
      obtain ⟨la, lc, rfl⟩ := hB.form
      have hft : (ls.take (j + 1)).flatten.length = (ls.take j).flatten.length + l.length := by rw [flat_takeP ls j l hlj, List.length_append]
      have hle : (ls.take (j + 1)).flatten.length ≤ ls.flatten.length := by
        have := congrArg (fun x : List (List Cp.Pb) => x.flatten.length) (List.take_append_drop (j + 1) ls)
        simp only [List.flatten_append, List.length_append] at this
        omega
      have hsum0 : (0 : Int) ≤ (M : Int) := Int.natCast_nonneg _
      have hsum : (M : Int) + (l.length : Int) ≤ 1000000 := by rw [HM.out]; omega
      have hsum2 : (0 : Int) ≤ (M : Int) + (l.length : Int) := by omega
      have HFT := Lib.hid hft
      clear hft hle hlj hnc
      go_wp2_with fail
      go_roundg (ls.length - (j + 1))
      case measure => rw [HK.out]; omega
      case rel => exact ⟨j + 1, by omega, rfl, by simp, ⟨M + l.length, by simp, by rw [HFT.out, HM.out]⟩, rfl⟩
    · have hjn1 : (ls.length : Int) ≤ (j : Int) := by omega
      have HE : Hid (ls.take j = ls) := Lib.hid (List.take_of_length_le (by omega))
      have hM2 : M ≤ 1000000000 := by rw [HM.out, HE.out]; omega
      go_wp2_with fail
      refine (growP_any M w hM2).mono ?_
      rintro e w1 ⟨v1, rfl, ho1, hb1⟩
      obtain ⟨oa, on, oc, hov, HON⟩ := OwnP.form ho1
      subst hov
      have HO1 := Lib.hid ho1
      clear ho1
      go_wp2_with fail
      go_loopg [6, 8, 27] ls.length (fun k s6 s8 s27 wq => ∃ i : Nat, i ≤ ls.length ∧ k = ls.length - i ∧ s27 = .int .i64 (i : Nat) ∧ OwnP wq w.heap.size s6 (ls.take i).flatten ∧ Below w.heap.size w wq)
      case atStart => exact ⟨0, Nat.zero_le _, rfl, rfl, HO1.out, hb1⟩
      case round =>
        obtain ⟨i, hi2, hk, rfl, ho, hbq⟩ := hrel
        obtain ⟨oa2, on2, oc2, hov2, HON2⟩ := OwnP.form ho
        subst hov2
        have HK2 := Lib.hid hk
        clear hk
        have hi0 : (0 : Int) ≤ (i : Int) := Int.natCast_nonneg _
        by_cases hin : i < ls.length
        · have hin1 : (i : Int) < (ls.length : Int) := by omega
          obtain ⟨l, hli⟩ : ∃ l, ls[i]? = some l := ⟨_, List.getElem?_eq_getElem hin⟩
          obtain ⟨g, o, lv, P, rfl, hg, hgc, hnc, hB⟩ := HV.out.at hli
          have hgc2 : wr.cell? ⟨g, o + i, none⟩ = some lv := by rw [World.cell?_of_block (hbq.block g hg)]; exact hgc
          have HB := Lib.hid (hB.to (Stands.below hbq))
          have HNC := Lib.hid hnc
          have HFT := Lib.hid (flat_takeP ls i l hli)
          have hle : (ls.take i).flatten.length + l.length ≤ 1000000000 := by
            have h1 := congrArg (fun x : List (List Cp.Pb) => x.flatten.length) (List.take_append_drop (i + 1) ls)
            simp only [List.flatten_append, List.length_append, HFT.out] at h1
            omega
          have HLE := Lib.hid hle
          have HO := Lib.hid ho
          have hbs := hbq.size
          clear hB hle ho hgc hli hnc
          go_wp2_with (first | (at_builtin; refine wpList_append_pbs rfl _ _ rfl w.heap.size _ _ rfl HO.out lv P l rfl HB.out HLE.out hbs HNC.out ?_; intro d' w5 hown5 hgrow5 _; have HOWN := Lib.hid hown5; have HGR := Lib.hid hgrow5; clear hown5 hgrow5) | fail)
          go_roundg (ls.length - (i + 1))
          case measure => rw [HK2.out]; omega
          case rel => exact ⟨i + 1, by omega, rfl, by simp, by rw [HFT.out]; exact HOWN.out, HO.out.grown hbq HGR.out hbq.size⟩
        · have hin1 : (ls.length : Int) ≤ (i : Int) := by omega
          have HE2 : Hid (ls.take i = ls) := Lib.hid (List.take_of_length_le (by omega))
          rw [HE2.out] at ho
          have HO := Lib.hid ho
          clear ho
          go_wp2_with fail
          go_ret
          exact ⟨_, rfl, HO.out, hbq⟩

theorem setCells_row (b : Nat) (T : TypeId) (fz : Nat × Nat) : ∀ (vs : List Value) (s : Nat) (w : World) (cur : Array Value), w.heap[b]? = some (.cells cur T fz) →
    ∃ cur', (w.setCells b s vs).heap[b]? = some (.cells cur' T fz) ∧ cur'.size = cur.size ∧ (∀ j, j < s → cur'[j]? = cur[j]?) ∧ ∀ k, k ≤ b → Below k w (w.setCells b s vs)
  | [], s, w, cur, h => ⟨cur, h, rfl, fun _ _ => rfl, fun _ _ => Below.refl _ _⟩
  | v :: r, s, w, cur, h => by
    have h1 : (w.setCell ⟨b, s, none⟩ v).heap[b]? = some (.cells (cur.setIfInBounds s v) T fz) := by
      simp [World.setCell, Array.getElem?_modify, h]
    obtain ⟨cur', h2, h3, h4, h5⟩ := setCells_row b T fz r (s + 1) _ _ h1
    refine ⟨cur', h2, by rw [h3]; simp, fun j hj => ?_, fun k hk => ?_⟩
    · rw [h4 j (by omega), Array.getElem?_setIfInBounds_ne (by omega)]
    · have hb1 : Below k w (w.setCell ⟨b, s, none⟩ v) := ⟨rfl, rfl, rfl, by simp [World.setCell], fun j hj => Below.heap_setCell _ _ _ _ (by show j ≠ b; omega)⟩
      exact hb1.trans (h5 k hk)
theorem run_clear_pb (w : World) (ty : TypeId) (b o n c : Nat) (hn : 0 < n)
    (hc : ∀ j, j < n * 2 → (w.cell? ⟨b, o + j, none⟩).isSome = true) (hf : ∀ j, j < n * 2 → w.frozen? ⟨b, o + j, none⟩ = false) :
    (Builtin.clear_ #[37] ty #[.slice (some ⟨b, o, none⟩) n c]).run Tryz.prog w = .ok (.tuple #[]) (w.setCells b o (List.replicate (n * 2) (.int .i64 0))) := by
  have hzc : (Builtin.zeroCells #[Value.int .i64 0, .int .i64 0] n).toList = List.replicate (n * 2) (.int .i64 0) := by
    apply List.ext_getElem
    · simp [Builtin.zeroCells]
    · intro i h1 h2
      simp [Builtin.zeroCells]
      rcases Nat.mod_two_eq_zero_or_one i with h | h <;> rw [h] <;> rfl
  have hst := run_storeCells_cells (P := Tryz.prog) b o (List.replicate (n * 2) (.int .i64 0)) 0 w (by simpa using hc) (by simpa using hf) (by intro v hv'; rw [List.eq_of_mem_replicate hv']; rfl)
  simp only [Nat.add_zero] at hst
  have hv := Tryz.zeroValue42
  obtain ⟨m, rfl⟩ : ∃ m, n = m + 1 := ⟨n - 1, by omega⟩
  simp [Builtin.clear_, run_underlying Tryz.underlying37, hv, Value.cells, hzc, hst]
end Go.Proofs.YtmgoebfcfgilfaaGreatDoor
namespace Go.Proofs.YtmgoebfcfgilfaaGreatDoor
set_option linter.unusedSimpArgs false
set_option linter.unusedVariables false
open Go Go.RowKit
open Go.Maps Go.WideMaps

/-- A row of problems in a block. -/
structure RowP (w : World) (g cap : Nat) (d : List Cp.Pb) : Prop where
  row : ∃ cur, w.heap[g]? = some (.cells cur 42 (0, 0)) ∧ cur.size = cap * 2 ∧ cur.toList.take (d.length * 2) = pbCells d
  le : d.length ≤ cap
section
variable {w w' : World} {g cap : Nat} {d : List Cp.Pb}
theorem RowP.at (h : RowP w g cap d) {i : Nat} {p : Cp.Pb} (hi : d[i]? = some p) : w.cell? ⟨g, i * 2, none⟩ = some (.int .i64 p.1) ∧ w.cell? ⟨g, i * 2 + 1, none⟩ = some (.int .i64 p.2) := by
  obtain ⟨cur, h1, h2, h3⟩ := h.row
  have hl := (List.getElem?_eq_some_iff.1 hi).1
  obtain ⟨e1, e2⟩ := pbCells_at d i p hi
  rw [← h3, List.getElem?_take_of_lt (by omega)] at e1 e2
  unfold World.cell?
  dsimp only
  rw [h1]
  simp only [Option.isSome_none, Bool.false_eq_true, if_false]
  exact ⟨by simpa using e1, by simpa using e2⟩
theorem RowP.frozen (h : RowP w g cap d) (j : Nat) : w.frozen? ⟨g, j, none⟩ = false := by
  obtain ⟨cur, h1, h2, h3⟩ := h.row
  unfold World.frozen?
  dsimp only
  rw [h1]
  simp
theorem RowP.there (h : RowP w g cap d) {j : Nat} (hj : j < cap * 2) : (w.cell? ⟨g, j, none⟩).isSome = true := by
  obtain ⟨cur, h1, h2, h3⟩ := h.row
  unfold World.cell?
  dsimp only
  rw [h1]
  simp only [Option.isSome_none, Bool.false_eq_true, if_false]
  rw [Array.getElem?_eq_getElem (by omega)]
  rfl
theorem RowP.heap (h : RowP w g cap d) (he : w'.heap[g]? = w.heap[g]?) : RowP w' g cap d := by
  obtain ⟨cur, h1, h2, h3⟩ := h.row
  exact ⟨⟨cur, by rw [he]; exact h1, h2, h3⟩, h.le⟩
theorem pbCells_set : ∀ (d : List Cp.Pb) (i : Nat) (u : Cp.Pb), pbCells (d.set i u) = ((pbCells d).set (i * 2) (.int .i64 u.1)).set (i * 2 + 1) (.int .i64 u.2)
  | [], i, u => by simp [pbCells]
  | x :: r, 0, u => by rw [List.set_cons_zero, pbCells_cons, pbCells_cons]; rfl
  | x :: r, i + 1, u => by
    rw [List.set_cons_succ, pbCells_cons, pbCells_set r i u, pbCells_cons, show (i + 1) * 2 = i * 2 + 1 + 1 by omega]
    rfl
theorem take_set {α : Type} : ∀ (l : List α) (n i : Nat) (x : α), i < n → (l.set i x).take n = (l.take n).set i x
  | [], n, i, x, h => by simp
  | y :: r, 0, i, x, h => by omega
  | y :: r, n + 1, 0, x, h => by simp
  | y :: r, n + 1, i + 1, x, h => by simp [take_set r n i x (by omega)]
theorem RowP.set (h : RowP w g cap d) {i : Nat} (hi : i < d.length) (u : Cp.Pb) :
    RowP ((w.setCell ⟨g, i * 2, none⟩ (.int .i64 u.1)).setCell ⟨g, i * 2 + 1, none⟩ (.int .i64 u.2)) g cap (d.set i u) := by
  obtain ⟨cur, h1, h2, h3⟩ := h.row
  refine ⟨⟨(cur.setIfInBounds (i * 2) (.int .i64 u.1)).setIfInBounds (i * 2 + 1) (.int .i64 u.2), ?_, by simp [h2], ?_⟩, by rw [List.length_set]; exact h.le⟩
  · simp [World.setCell, Array.getElem?_modify, h1]
  · rw [List.length_set, Array.toList_setIfInBounds, Array.toList_setIfInBounds, take_set _ _ _ _ (by omega), take_set _ _ _ _ (by omega), h3, pbCells_set]
theorem RowP.take (h : RowP w g cap d) (k : Nat) (hk : k ≤ d.length) : RowP w g cap (d.take k) := by
  obtain ⟨cur, h1, h2, h3⟩ := h.row
  have hl : (d.take k).length = k := by rw [List.length_take]; omega
  refine ⟨⟨cur, h1, h2, ?_⟩, by rw [hl]; have := h.le; omega⟩
  rw [hl]
  have hh : pbCells d = pbCells (d.take k) ++ pbCells (d.drop k) := by rw [← pbCells_app, List.take_append_drop]
  have h4 := congrArg (List.take (k * 2)) h3
  rw [List.take_take, Nat.min_eq_left (by omega)] at h4
  rw [h4, hh, List.take_left' (by rw [pbCells_len, hl])]
theorem OwnP.row {base n : Nat} (h : OwnP w base (.slice (some ⟨g, 0, none⟩) n cap) d) : RowP w g cap d := by
  rcases h.2 with ⟨h4, h5⟩ | ⟨g', cap', cur, hv, hg, hb, hc, hm, hs, ht⟩
  · cases h4
  cases hv
  exact ⟨⟨cur, hb, hs, ht⟩, hc⟩
theorem RowP.own (h : RowP w g cap d) {base : Nat} (hg : base ≤ g) (hm : cap ≤ maxLen) : OwnP w base (.slice (some ⟨g, 0, none⟩) d.length cap) d := by
  obtain ⟨cur, h1, h2, h3⟩ := h.row
  exact ⟨pbCells_len d, .inr ⟨g, cap, cur, rfl, hg, h1, h.le, hm, h2, h3⟩⟩
end
namespace Cp
/-- What stands while neighbours are gone through: j of l are, k of them are kept. -/
structure CI (l : List Pb) (j k : Nat) (d : List Pb) : Prop where
  len : d.length = l.length
  le : k + 1 ≤ j
  jl : j ≤ l.length
  kept : d.take k = comp (l.take j)
  rest : ∀ i, j ≤ i + 1 → d[i]? = l[i]?
theorem last_take (l : List Pb) (j : Nat) (hj : j + 1 ≤ l.length) : (l.take (j + 1)).getLast? = l[j]? := by
  rw [List.getLast?_eq_getElem?, List.length_take, Nat.min_eq_left hj, List.getElem?_take_of_lt (by omega)]
  rfl
theorem CI.skip {l d : List Pb} {j k : Nat} (h : CI l (j + 1) k d) {x : Pb} (h1 : l[j + 1]? = some x) (h0 : l[j]? = some x) : CI l (j + 1 + 1) k d := by
  have hl := (List.getElem?_eq_some_iff.1 h1).1
  refine ⟨h.len, by have := h.le; omega, by omega, ?_, fun i hi => h.rest i (by omega)⟩
  rw [h.kept, List.take_add_one (i := j + 1), h1]
  show _ = comp (l.take (j + 1) ++ [x])
  rw [comp_snoc, if_pos (by rw [last_take l j (by omega)]; exact h0)]
theorem CI.keep {l d : List Pb} {j k : Nat} (h : CI l (j + 1) k d) {x y : Pb} (h1 : l[j + 1]? = some x) (h0 : l[j]? = some y) (hn : x ≠ y) : CI l (j + 1 + 1) (k + 1) (d.set k x) := by
  have hl := (List.getElem?_eq_some_iff.1 h1).1
  have hle := h.le
  refine ⟨by rw [List.length_set]; exact h.len, by omega, by omega, ?_, fun i hi => by rw [List.getElem?_set_ne (by omega)]; exact h.rest i (by omega)⟩
  have hk : k < d.length := by rw [h.len]; omega
  rw [List.take_add_one, List.getElem?_set_self hk, List.take_set_of_le (Nat.le_refl _), h.kept, List.take_add_one (i := j + 1), h1]
  show _ = comp (l.take (j + 1) ++ [x])
  rw [comp_snoc, if_neg (by rw [last_take l j (by omega), h0]; intro e; exact hn (Option.some.inj e).symm)]
  rfl
theorem CI.start {l : List Pb} {k : Nat} {x : Pb} (h1 : l[k + 1]? = some x) (h0 : l[k]? = some x) (hd : ∀ (i : Nat) a b, i + 1 < k + 1 → l[i]? = some a → l[i + 1]? = some b → a ≠ b) : CI l (k + 1 + 1) (k + 1) l := by
  have hl := (List.getElem?_eq_some_iff.1 h1).1
  refine ⟨rfl, by omega, by omega, ?_, fun _ _ => rfl⟩
  rw [List.take_add_one (i := k + 1), h1]
  show _ = comp (l.take (k + 1) ++ [x])
  rw [comp_snoc, if_pos (by rw [last_take l k (by omega)]; exact h0), comp_same]
  intro i a b ha hb
  have hi := (List.getElem?_eq_some_iff.1 hb).1
  rw [List.length_take] at hi
  rw [List.getElem?_take_of_lt (by omega)] at ha hb
  exact hd i a b (by omega) ha hb
end Cp
end Go.Proofs.YtmgoebfcfgilfaaGreatDoor
