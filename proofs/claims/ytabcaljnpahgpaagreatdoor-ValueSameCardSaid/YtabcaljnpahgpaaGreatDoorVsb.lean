/-
  The shower of values: what it is in memory; its builder, its need, walked.
-/
import Derived.Test.YtabcaljnpahgpaaGreatDoorK7
namespace Go.Proofs.YtabcaljnpahgpaaGreatDoor
set_option linter.unusedSimpArgs false
set_option linter.unusedVariables false
open Go Go.RowKit

theorem sh_lt {w : World} {k : Nat} {o : Obj} (h : w.heap[k]? = some o) : k < w.heap.size := by
  rcases Nat.lt_or_ge k w.heap.size with h' | h'
  · exact h'
  · simp [Array.getElem?_eq_none h'] at h
/-- A shower in block b: the bytes put, what is bad. -/
structure SH (B b : Nat) (out : List UInt8) (bad : Bool) (w : World) : Prop where
  hB : B ≤ b
  ex : ∃ p v, (p = Value.pointer none ∨ p = .pointer (some ⟨b, 0, none⟩)) ∧ w.heap[b]? = some (.cells #[p, v, .bool bad] 111 (0, 0)) ∧ w.ownsRowF B 5 1 v out.length (Lib.byteCells out) ∧ v.ownBlock ≠ some b
theorem shLies : liesAt Tryz.prog Tryz.prog.depth 111 (3 / Tryz.prog.cellsOf 111) 0 109 1 = true := by kernel_rfl
theorem SH.lt {B b : Nat} {out : List UInt8} {bad : Bool} {w : World} (h : SH B b out bad w) : b < w.heap.size := by
  obtain ⟨-, p, v, -, hb, -⟩ := h
  exact sh_lt hb
theorem sh_put {B b : Nat} {p v : Value} {out : List UInt8} {bad : Bool} {w : World} (hB : B ≤ b) (hp : p = Value.pointer none ∨ p = .pointer (some ⟨b, 0, none⟩)) (hb : w.heap[b]? = some (.cells #[p, v, .bool bad] 111 (0, 0))) {v' : Value} (hown : w.ownsRowF B 5 1 v' out.length (Lib.byteCells out)) :
    SH B b out bad (w.setCell ⟨b, 1, none⟩ v') := by
  have hne := Lib.ownBlock_neF hown hb (by decide)
  refine ⟨hB, p, v', hp, ?_, ?_, hne⟩
  · simp [World.setCell, Array.getElem?_modify, hb]
  · exact hown.kept (row := some b) ⟨rfl, rfl, rfl, by simp [World.setCell], fun k _ hk => Below.heap_setCell _ _ _ _ (fun e => hk (by simp [e]))⟩ (Or.inr hne)
theorem sh_bad {B b : Nat} {out : List UInt8} {bad : Bool} {w : World} (h : SH B b out bad w) (q : Bool) : SH B b out q (w.setCell ⟨b, 2, none⟩ (.bool q)) := by
  obtain ⟨hB, p, v, hp, hb, hown, hne⟩ := h
  refine ⟨hB, p, v, hp, ?_, ?_, hne⟩
  · simp [World.setCell, Array.getElem?_modify, hb]
  · exact hown.kept (row := some b) ⟨rfl, rfl, rfl, by simp [World.setCell], fun k _ hk => Below.heap_setCell _ _ _ _ (fun e => hk (by simp [e]))⟩ (Or.inr hne)
theorem sh_used {B b : Nat} {out : List UInt8} {bad : Bool} {v p : Value} {w : World} (hb : w.heap[b]? = some (.cells #[p, v, .bool bad] 111 (0, 0))) (hown : w.ownsRowF B 5 1 v out.length (Lib.byteCells out)) (hne : v.ownBlock ≠ some b) :
    (w.setCell ⟨b, 0, none⟩ (.pointer (some ⟨b, 0, none⟩))).heap[b]? = some (.cells #[.pointer (some ⟨b, 0, none⟩), v, .bool bad] 111 (0, 0)) ∧ (w.setCell ⟨b, 0, none⟩ (.pointer (some ⟨b, 0, none⟩))).ownsRowF B 5 1 v out.length (Lib.byteCells out) := by
  refine ⟨?_, ?_⟩
  · simp [World.setCell, Array.getElem?_modify, hb]
  · exact hown.kept (row := some b) ⟨rfl, rfl, rfl, by simp [World.setCell], fun k _ hk => Below.heap_setCell _ _ _ _ (fun e => hk (by simp [e]))⟩ (Or.inr hne)

set_option maxHeartbeats 1000000 in
set_option maxRecDepth 100000 in
theorem shCheck_fresh (b : Nat) (w : World) (h0 : w.cell? ⟨b, 0, none⟩ = some (.pointer none)) (hsh : w.shape? b = some (111, 3)) (hfz : w.frozen? ⟨b, 0, none⟩ = false) :
    Calls Tryz.prog 130 #[.pointer (some ⟨b, 0, none⟩)] w fun e w' => e = .returned (.tuple #[]) ∧ w' = w.setCell ⟨b, 0, none⟩ (.pointer (some ⟨b, 0, none⟩)) := by
  obtain ⟨j, hj, hjs⟩ := Option.map_eq_some_iff.1 sbSize
  go_enter Tryz.func130, Tryz.ntmps130
  go_wp2
  rw [Lib.run_to_unsafe w ⟨b, 0, none⟩ Tryz.underlying106 Tryz.underlying194 hj (by rw [hjs]; decide) hsh (Nat.zero_lt_succ 2)]
  simp only [Result.andThen]
  rw [Oper.upon_value]
  go_wp2
  rw [run_callFunc_extern Tryz.func156 (by kernel_rfl) (by kernel_rfl) (by kernel_rfl) (e := Extern.AbiNoEscape.same) (by kernel_rfl)]
  rw [Lib.run_noEscape]
  simp only [Result.andThen]
  rw [Oper.upon_value]
  go_wp2
  rw [Lib.run_from_unsafe w ⟨b, 0, none⟩ Tryz.underlying194 Tryz.underlying106 hj hsh shLies]
  simp only [Result.andThen]
  rw [Oper.upon_value]
  go_wp2
  go_end0
  exact ⟨rfl, rfl⟩
theorem shCheck (B b : Nat) (out : List UInt8) (bad : Bool) (w : World) (h : SH B b out bad w) :
    Calls Tryz.prog 130 #[.pointer (some ⟨b, 0, none⟩)] w fun e w' => e = .returned (.tuple #[]) ∧ (∃ v, w'.heap[b]? = some (.cells #[.pointer (some ⟨b, 0, none⟩), v, .bool bad] 111 (0, 0)) ∧ w'.ownsRowF B 5 1 v out.length (Lib.byteCells out) ∧ v.ownBlock ≠ some b) ∧ Below B w w' ∧ Lib.OthersKept 5 (some b) w w' := by
  obtain ⟨hB, p, v, hp, hb, hown, hne⟩ := h
  have c0 : w.cell? ⟨b, 0, none⟩ = some p := by rw [Lib.cell_of_heap hb]; rfl
  rcases hp with rfl | rfl
  · refine (shCheck_fresh b w c0 (by simp [World.shape?, hb]) (by simp [World.frozen?, hb])).mono ?_
    rintro e w' ⟨rfl, rfl⟩
    obtain ⟨h1, h2⟩ := sh_used hb hown hne
    exact ⟨rfl, ⟨v, h1, h2, hne⟩, (Below.refl B w).setCell (p := ⟨b, 0, none⟩) hB _, (Lib.OthersKept.refl _ _ w).setCell ⟨b, 0, none⟩ rfl _⟩
  · refine (copyCheck_used b w c0).mono ?_
    rintro e w' ⟨rfl, rfl⟩
    exact ⟨rfl, ⟨v, hb, hown, hne⟩, Below.refl B _, Lib.OthersKept.refl _ _ _⟩

set_option maxHeartbeats 2000000 in
set_option maxRecDepth 100000 in
theorem shByte (B b : Nat) (out : List UInt8) (bad : Bool) (c : UInt8) (w : World) (h : SH B b out bad w) (hlen : out.length ≤ 10000000000) (hBw : B ≤ w.heap.size) :
    Calls Tryz.prog 132 #[.pointer (some ⟨b, 0, none⟩), .int .u8 c.toNat] w fun e w' => e = .returned .nilIface ∧ SH B b (out ++ [c]) bad w' ∧ Below B w w' ∧ Lib.OthersKept 5 (some b) w w' := by
  obtain ⟨i0, hi, hz0, hz1, hz2⟩ := info_parts byteInfo
  have hB := h.hB
  have hbl : (Lib.byteCells out).length = out.length := Lib.byteCells_length out
  go_enter Tryz.func132, Tryz.ntmps132
  go_wp2_with (go_at_call 130; refine (shCheck B b out bad _ h).mono ?_)
  rintro e w1 ⟨rfl, ⟨v, hbk, hown, hne⟩, hb1, hk1⟩
  have c0 : w1.cell? ⟨b, 0, none⟩ = some (.pointer (some ⟨b, 0, none⟩)) := by rw [Lib.cell_of_heap hbk]; rfl
  have c1 : w1.cell? ⟨b, 1, none⟩ = some v := by rw [Lib.cell_of_heap hbk]; rfl
  go_wp2_with (at_builtin; refine wpList_append_ownF _ rfl _ _ 107 rfl B 5 i0 (.int .u8 0) 1 1 Tryz.underlying107 hi hz0 hz1 hz2 rfl (by decide) _ _ _ rfl (hown.alloc _) ⟨w1.heap.size, 0, none⟩ 1 1 [.int .u8 c.toNat] rfl rfl ?c1 ?c2 ?c3 ?c4 ?c5 ?_)
  case c1 =>
    intro j u hj
    match j, hj with
    | 0, hj => simp at hj; subst hj; simp [Addr.add]
  case c2 => intro u hu; simp at hu; subst hu; rfl
  case c3 => unfold maxLen; omega
  case c4 => omega
  case c5 => have := hb1.size; simp; omega
  intro v' w2 hown' hgrow _
  have hlt : b < w1.heap.size := sh_lt hbk
  have hb2 : w2.heap[b]? = some (.cells #[.pointer (some ⟨b, 0, none⟩), v, .bool bad] 111 (0, 0)) := by
    rw [hgrow.block b (by simp; omega) (fun e => hne e.symm), Lib.alloc_old w1 _ b hlt]
    exact hbk
  have d0 : w2.cell? ⟨b, 0, none⟩ = some (.pointer (some ⟨b, 0, none⟩)) := by rw [Lib.cell_of_heap hb2]; rfl
  have d1 : w2.cell? ⟨b, 1, none⟩ = some v := by rw [Lib.cell_of_heap hb2]; rfl
  have f1 : w2.frozen? ⟨b, 1, none⟩ = false := Lib.frozen_of_heap hb2 1
  obtain ⟨g, cap, rfl⟩ : ∃ g cap, v' = .slice (some ⟨g, 0, none⟩) (out.length + 1) cap := by
    rcases hown'.2 with ⟨_, h0⟩ | ⟨g, cap, cur, fz, hv, _⟩
    · omega
    · exact ⟨g, cap, hv⟩
  go_wp2
  go_ret
  refine ⟨rfl, ?_, ?_, ((hk1.alloc _).grown hgrow (Lib.ownsRowF_kind (hown.alloc _))).setCell ⟨b, 1, none⟩ rfl _⟩
  · refine sh_put (out := out ++ [c]) hB (.inr rfl) hb2 ?_
    rw [List.length_append, Lib.byteCells_append]
    exact hown'
  · exact ((hb1.alloc (by have := hb1.size; omega) _).grown hgrow (by have := hb1.size; simp; omega) (fun k hk => (hown.lt k hk).1)).setCell (p := ⟨b, 1, none⟩) hB _

set_option maxHeartbeats 2000000 in
set_option maxRecDepth 100000 in
theorem shStr (B b : Nat) (out l : List UInt8) (bad : Bool) (w : World) (h : SH B b out bad w) (hlen : out.length + l.length ≤ 10000000000) (hBw : B ≤ w.heap.size) :
    Calls Tryz.prog 100 #[.pointer (some ⟨b, 0, none⟩), .string ⟨l.toArray⟩] w fun e w' => (∃ n : Int, e = .returned (.tuple #[.int .i64 n, .nilIface])) ∧ SH B b (out ++ l) bad w' ∧ Below B w w' ∧ Lib.OthersKept 5 (some b) w w' := by
  obtain ⟨i0, hi, hz0, hz1, hz2⟩ := info_parts byteInfo
  have hB := h.hB
  have hbl : (Lib.byteCells out).length = out.length := Lib.byteCells_length out
  obtain ⟨s, hs⟩ : ∃ s : ByteArray, s = ⟨l.toArray⟩ := ⟨_, rfl⟩
  have hsz : s.size = l.length := by rw [hs]; rfl
  have HSL : Hid (Lib.strCells s = Lib.byteCells l) := by rw [hs]; exact Lib.hid rfl
  rw [← hs]
  clear hs
  go_enter Tryz.func100, Tryz.ntmps100
  go_wp2_with (go_at_call 130; refine (shCheck B b out bad _ h).mono ?_)
  rintro e w1 ⟨rfl, ⟨v, hbk, hown, hne⟩, hb1, hk1⟩
  have c0 : w1.cell? ⟨b, 0, none⟩ = some (.pointer (some ⟨b, 0, none⟩)) := by rw [Lib.cell_of_heap hbk]; rfl
  have c1 : w1.cell? ⟨b, 1, none⟩ = some v := by rw [Lib.cell_of_heap hbk]; rfl
  have HSZ := Lib.hid hsz
  clear hsz
  go_wp2_with (at_builtin; refine Lib.wpList_append_own_stringF _ rfl _ _ 107 9 rfl B 5 i0 Tryz.underlying107 Tryz.underlying9 hi hz0 hz1 hz2 _ _ _ rfl hown s rfl ?c3 ?c4 ?c5 ?_)
  case c3 => have := HSZ.out; unfold maxLen; omega
  case c4 => have := HSZ.out; omega
  case c5 => have := hb1.size; omega
  intro v' w2 hown' hgrow _
  have hlt : b < w1.heap.size := sh_lt hbk
  have hb2 : w2.heap[b]? = some (.cells #[.pointer (some ⟨b, 0, none⟩), v, .bool bad] 111 (0, 0)) := by
    rw [hgrow.block b hlt (fun e => hne e.symm)]
    exact hbk
  have d0 : w2.cell? ⟨b, 0, none⟩ = some (.pointer (some ⟨b, 0, none⟩)) := by rw [Lib.cell_of_heap hb2]; rfl
  have d1 : w2.cell? ⟨b, 1, none⟩ = some v := by rw [Lib.cell_of_heap hb2]; rfl
  have f1 : w2.frozen? ⟨b, 1, none⟩ = false := Lib.frozen_of_heap hb2 1
  obtain ⟨ao, n', cap, rfl⟩ : ∃ ao n' cap, v' = .slice ao n' cap := by
    rcases hown'.2 with ⟨hv, _⟩ | ⟨g, cap, cur, fz, hv, _⟩
    · exact ⟨_, _, _, hv⟩
    · exact ⟨_, _, _, hv⟩
  go_wp2
  go_ret2
  refine ⟨⟨_, rfl⟩, ?_, ?_, (hk1.grown hgrow (Lib.ownsRowF_kind hown)).setCell ⟨b, 1, none⟩ rfl _⟩
  · refine sh_put (out := out ++ l) hB (.inr rfl) hb2 ?_
    rw [List.length_append, Lib.byteCells_append, ← HSL.out, ← HSZ.out]
    exact hown'
  · exact (hb1.grown hgrow (by have := hb1.size; omega) (fun k hk => (hown.lt k hk).1)).setCell (p := ⟨b, 1, none⟩) hB _

set_option maxRecDepth 100000 in
theorem shNeed (B b : Nat) (out : List UInt8) (bad ok : Bool) (w : World) (h : SH B b out bad w) :
    Calls Tryz.prog 98 #[.pointer (some ⟨b, 0, none⟩), .bool ok] w fun e w' => e = .returned (.tuple #[]) ∧ SH B b out (bad || !ok) w' ∧ Below B w w' ∧ Lib.OthersKept 5 (some b) w w' := by
  have hB := h.hB
  have hS := fun q => sh_bad h q
  obtain ⟨-, p, v, hp, hb, -⟩ := h
  have c2 : w.cell? ⟨b, 2, none⟩ = some (.bool bad) := by rw [Lib.cell_of_heap hb]; rfl
  have f2 : w.frozen? ⟨b, 2, none⟩ = false := Lib.frozen_of_heap hb 2
  clear hb hp
  have fin : ∀ q, SH B b out q (w.setCell ⟨b, 2, none⟩ (.bool q)) ∧ Below B w (w.setCell ⟨b, 2, none⟩ (.bool q)) ∧ Lib.OthersKept 5 (some b) w (w.setCell ⟨b, 2, none⟩ (.bool q)) := fun q =>
    ⟨hS q, (Below.refl B w).setCell (p := ⟨b, 2, none⟩) hB _, (Lib.OthersKept.refl _ _ w).setCell ⟨b, 2, none⟩ rfl _⟩
  cases bad <;> cases ok
  all_goals
    go_enter Tryz.func98, Tryz.ntmps98
    go_wp2_with fail
    go_end0
    exact ⟨rfl, fin _⟩

set_option maxHeartbeats 2000000 in
set_option maxRecDepth 100000 in
theorem shString (B b : Nat) (out : List UInt8) (bad : Bool) (w : World) (h : SH B b out bad w) (h0 : out ≠ []) :
    Calls Tryz.prog 53 #[.pointer (some ⟨b, 0, none⟩)] w fun e w' => e = .returned (.string ⟨out.toArray⟩) ∧ Below B w w' := by
  obtain ⟨hB, p, v, hp, hbk, hown, hne⟩ := h
  have hl0 : out.length ≠ 0 := by simpa using h0
  obtain ⟨g, cap, cur, fz, rfl, hbg, hg, hfz, hnc, hcm, hcs, htake⟩ : ∃ g cap cur fz, v = .slice (some ⟨g, 0, none⟩) out.length cap ∧ B ≤ g ∧ w.heap[g]? = some (.cells cur 5 fz) ∧ fz.2 ≤ out.length * 1 ∧ out.length ≤ cap ∧ cap ≤ maxLen ∧ cur.size = cap * 1 ∧ cur.toList.take (out.length * 1) = Lib.byteCells out := by
    rcases hown.2 with ⟨_, hz⟩ | ⟨g, cap, cur, fz, hv, r⟩
    · exact absurd hz hl0
    · exact ⟨g, cap, cur, fz, hv, r⟩
  have c1 : w.drew.cell? ⟨b, 1, none⟩ = some (.slice (some ⟨g, 0, none⟩) out.length cap) := by
    have : w.drew.heap[b]? = some (.cells #[p, .slice (some ⟨g, 0, none⟩) out.length cap, .bool bad] 111 (0, 0)) := hbk
    rw [Lib.cell_of_heap this]; rfl
  have hSD : (Builtin.unsafeSliceData_ #[107] 160 #[.slice (some ⟨g, 0, none⟩) out.length cap]).run Tryz.prog w.drew = .ok (.pointer (some ⟨g, 0, none⟩)) w.drew :=
    Lib.run_unsafeSliceData_row _ _ _ _ _ _ (by omega)
  have hUS : (Builtin.unsafeString_ #[160, 3] 9 #[.pointer (some ⟨g, 0, none⟩), .int .i64 out.length]).run Tryz.prog w.drew = .ok (.string ⟨out.toArray⟩) (w.drew.freeze ⟨g, 0, none⟩ out.length) := by
    refine Lib.run_unsafeString_row w.drew 160 3 9 5 Tryz.underlying160 (by kernel_rfl) g cur.size (by have hg' : w.drew.heap[g]? = some (.cells cur 5 fz) := hg; simp [World.shape?, hg']) out h0 (by omega) (by unfold maxLen at hcm; omega) ?_
    intro j x hx
    have := hown.cells (g := g) rfl j (.int .u8 x.toNat) (by simp [Lib.byteCells, hx])
    exact this
  have mixed : Tryz.prog.follows Departure.mixedOrders = true := by kernel_rfl
  clear hown htake hcs hfz hg hbk hne h0
  go_enter Tryz.func53, Tryz.ntmps53
  go_wp2
  go_region_o
  all_goals (go_wp2; go_ret; exact ⟨rfl, Lib.below_freeze (Below.drew (Below.refl B w)) (p := ⟨g, 0, none⟩) hbg _⟩)
end Go.Proofs.YtabcaljnpahgpaaGreatDoor
