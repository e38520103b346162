/-
  strings.Builder: copyCheck, WriteByte, WriteString, WriteRune at this translation (the shelf's own contracts do not fit here: copyCheck's panic is struck from the translation). After the shelf's BuilderK and BuilderRune, turned to this program. A scanner's method that builds a text: what its world is like. The lexer's 'text', walked. The lexer's 'indent', walked.
-/
import Derived.Test.YtmgoebfcfgilfaaGreatDoorZi6
import Derived.Test.YtmgoebfcfgilfaaGreatDoorZi9
import Derived.Shelf.Strings.BuilderRune
import Derived.Test.YtmgoebfcfgilfaaGreatDoorZi10
import Derived.Outline
import Derived.Deep.LoopGhost
import Derived.Test.YtmgoebfcfgilfaaGreatDoorZi7
import Derived.Test.YtmgoebfcfgilfaaGreatDoorZi3
import Derived.Shelf.Strings.SlTrimAscii
namespace Go.Proofs.YtmgoebfcfgilfaaGreatDoor
set_option linter.unusedSimpArgs false
set_option linter.unusedVariables false
open Go Go.RowKit

abbrev IsB (b : Nat) (l : List UInt8) (w : World) : Prop := Lib.IsBuilderF 69 5 b b (Lib.byteCells l) w

theorem sbSize : (Tryz.prog.info? 69).map (·.size) = some 2 := by kernel_rfl
theorem sbLies : liesAt Tryz.prog Tryz.prog.depth 69 (2 / Tryz.prog.cellsOf 69) 0 69 1 = true := by kernel_rfl
theorem byteInfo : (Tryz.prog.info? 5).map (fun i => (i.zero, i.size, i.bytes)) = some (some (.int .u8 0), 1, 1) := by kernel_rfl

set_option maxHeartbeats 1000000 in
set_option maxRecDepth 100000 in
theorem copyCheck_used (b : Nat) (w : World) (h0 : w.cell? ⟨b, 0, none⟩ = some (.pointer (some ⟨b, 0, none⟩))) :
    Calls Tryz.prog 188 #[.pointer (some ⟨b, 0, none⟩)] w fun e w' => e = .returned (.tuple #[]) ∧ w' = w := by
  obtain ⟨j, hj, _⟩ := Option.map_eq_some_iff.1 sbSize
  go_enter Tryz.func188, Tryz.ntmps188
  go_wp2
  rw [Lib.run_neq_ptr_same w _ Tryz.underlying67 hj]
  go_wp2
  go_end0
  exact ⟨rfl, rfl⟩

set_option maxHeartbeats 1000000 in
set_option maxRecDepth 100000 in
theorem copyCheck_fresh (b : Nat) (w : World) (h0 : w.cell? ⟨b, 0, none⟩ = some (.pointer none)) (hsh : w.shape? b = some (69, 2)) (hfz : w.frozen? ⟨b, 0, none⟩ = false) :
    Calls Tryz.prog 188 #[.pointer (some ⟨b, 0, none⟩)] w fun e w' => e = .returned (.tuple #[]) ∧ w' = w.setCell ⟨b, 0, none⟩ (.pointer (some ⟨b, 0, none⟩)) := by
  obtain ⟨j, hj, hjs⟩ := Option.map_eq_some_iff.1 sbSize
  go_enter Tryz.func188, Tryz.ntmps188
  go_wp2
  rw [Lib.run_to_unsafe w ⟨b, 0, none⟩ Tryz.underlying67 Tryz.underlying281 hj (by rw [hjs]; decide) hsh (Nat.zero_lt_succ 1)]
  simp only [Result.andThen]
  rw [Oper.upon_value]
  go_wp2
  rw [run_callFunc_extern Tryz.func235 (by kernel_rfl) (by kernel_rfl) (by kernel_rfl) (e := Extern.AbiNoEscape.same) (by kernel_rfl)]
  rw [Lib.run_noEscape]
  simp only [Result.andThen]
  rw [Oper.upon_value]
  go_wp2
  rw [Lib.run_from_unsafe w ⟨b, 0, none⟩ Tryz.underlying281 Tryz.underlying67 hj hsh sbLies]
  simp only [Result.andThen]
  rw [Oper.upon_value]
  go_wp2
  go_end0
  exact ⟨rfl, rfl⟩

theorem copyCheck_k (B b : Nat) (bs : List Value) (w : World) (h : Lib.IsBuilderF 69 5 B b bs w) :
    Calls Tryz.prog 188 #[.pointer (some ⟨b, 0, none⟩)] w fun e w' => e = .returned (.tuple #[]) ∧ (Lib.BuilderAtF 69 5 B b (.pointer (some ⟨b, 0, none⟩)) bs w' ∧ Below B w w' ∧ Lib.OthersKept 5 (some b) w w') := by
  rcases h with h | h
  · refine (copyCheck_fresh b w h.cell0 h.shape h.frozen0).mono ?_
    rintro e w' ⟨rfl, rfl⟩
    exact ⟨rfl, h.used _, (Below.refl B w).setCell (p := ⟨b, 0, none⟩) h.1 _, (Lib.OthersKept.refl _ _ w).setCell ⟨b, 0, none⟩ rfl _⟩
  · refine (copyCheck_used b w h.cell0).mono ?_
    rintro e w' ⟨rfl, rfl⟩
    exact ⟨rfl, h, Below.refl B _, Lib.OthersKept.refl _ _ _⟩

set_option maxHeartbeats 2000000 in
set_option maxRecDepth 100000 in
theorem WriteByte_k (B b : Nat) (bs : List Value) (c : Int) (w : World) (h : Lib.IsBuilderF 69 5 B b bs w) (hlen : bs.length + 1 ≤ 140737488355328) (hBw : B ≤ w.heap.size) :
    Calls Tryz.prog 242 #[.pointer (some ⟨b, 0, none⟩), .int .u8 c] w fun e w' => e = .returned .nilIface ∧ (Lib.BuilderAtF 69 5 B b (.pointer (some ⟨b, 0, none⟩)) (bs ++ [.int .u8 c]) w' ∧ Below B w w' ∧ Lib.OthersKept 5 (some b) w w') := by
  obtain ⟨i0, hi, hz0, hz1, hz2⟩ := info_parts byteInfo
  go_enter Tryz.func242, Tryz.ntmps242
  go_wp2_with (go_at_call 188; refine (copyCheck_k B b bs _ h).mono ?_)
  rintro e w1 ⟨rfl, h1, hb1, hk1⟩
  obtain ⟨hB, v, hbk, hown, hne⟩ := h1
  have c0 : w1.cell? ⟨b, 0, none⟩ = some (.pointer (some ⟨b, 0, none⟩)) := by rw [Lib.cell_of_heap hbk]; rfl
  have c1 : w1.cell? ⟨b, 1, none⟩ = some v := by rw [Lib.cell_of_heap hbk]; rfl
  go_wp2_with (at_builtin; refine wpList_append_ownF _ rfl _ _ 45 rfl B 5 i0 (.int .u8 0) 1 1 Tryz.underlying45 hi hz0 hz1 hz2 rfl (by decide) _ _ _ rfl (hown.alloc _) ⟨w1.heap.size, 0, none⟩ 1 1 [.int .u8 c] rfl rfl ?c1 ?c2 ?c3 ?c4 ?c5 ?_)
  case c1 =>
    intro j u hj
    match j, hj with
    | 0, hj => simp at hj; subst hj; simp [Addr.add]
  case c2 => intro u hu; simp at hu; subst hu; rfl
  case c3 => unfold maxLen; omega
  case c4 => omega
  case c5 => have := hb1.size; simp; omega
  intro v' w2 hown' hgrow _
  have hlt : b < w1.heap.size := by
    rcases Nat.lt_or_ge b w1.heap.size with h' | h'
    · exact h'
    · simp [Array.getElem?_eq_none h'] at hbk
  have hb2 : w2.heap[b]? = some (.cells #[.pointer (some ⟨b, 0, none⟩), v] 69 (0, 0)) := by
    rw [hgrow.block b (by simp; omega) (fun e => hne e.symm), Lib.alloc_old w1 _ b hlt]
    exact hbk
  have d0 : w2.cell? ⟨b, 0, none⟩ = some (.pointer (some ⟨b, 0, none⟩)) := by rw [Lib.cell_of_heap hb2]; rfl
  have d1 : w2.cell? ⟨b, 1, none⟩ = some v := by rw [Lib.cell_of_heap hb2]; rfl
  have f1 : w2.frozen? ⟨b, 1, none⟩ = false := Lib.frozen_of_heap hb2 1
  obtain ⟨g, cap, rfl⟩ : ∃ g cap, v' = .slice (some ⟨g, 0, none⟩) (bs.length + 1) cap := by
    rcases hown'.2 with ⟨_, h0⟩ | ⟨g, cap, cur, fz, hv, _⟩
    · omega
    · exact ⟨g, cap, hv⟩
  go_wp2
  go_ret
  refine ⟨rfl, ?_, ?_, ((hk1.alloc _).grown hgrow (Lib.ownsRowF_kind (hown.alloc _))).setCell ⟨b, 1, none⟩ rfl _⟩
  · exact Lib.BuilderAtF.put (T := 69) (e := 5) hB hb2 (bs' := bs ++ [.int .u8 c]) (by simpa using hown') (by decide)
  · exact ((hb1.alloc (by have := hb1.size; omega) _).grown hgrow (by have := hb1.size; simp; omega) (fun k hk => (hown.lt k hk).1)).setCell (p := ⟨b, 1, none⟩) hB _

set_option maxHeartbeats 2000000 in
set_option maxRecDepth 100000 in
theorem WriteString_k (B b : Nat) (bs : List Value) (s : ByteArray) (w : World) (h : Lib.IsBuilderF 69 5 B b bs w) (hlen : bs.length + s.size ≤ 140737488355328) (hBw : B ≤ w.heap.size) :
    Calls Tryz.prog 129 #[.pointer (some ⟨b, 0, none⟩), .string s] w fun e w' => e = .returned (.tuple #[.int .i64 s.size, .nilIface]) ∧ (Lib.BuilderAtF 69 5 B b (.pointer (some ⟨b, 0, none⟩)) (bs ++ Lib.strCells s) w' ∧ Below B w w' ∧ Lib.OthersKept 5 (some b) w w') := by
  obtain ⟨i0, hi, hz0, hz1, hz2⟩ := info_parts byteInfo
  go_enter Tryz.func129, Tryz.ntmps129
  go_wp2_with (go_at_call 188; refine (copyCheck_k B b bs _ h).mono ?_)
  rintro e w1 ⟨rfl, h1, hb1, hk1⟩
  obtain ⟨hB, v, hbk, hown, hne⟩ := h1
  have c0 : w1.cell? ⟨b, 0, none⟩ = some (.pointer (some ⟨b, 0, none⟩)) := by rw [Lib.cell_of_heap hbk]; rfl
  have c1 : w1.cell? ⟨b, 1, none⟩ = some v := by rw [Lib.cell_of_heap hbk]; rfl
  go_wp2_with (at_builtin; refine Lib.wpList_append_own_stringF _ rfl _ _ 45 9 rfl B 5 i0 Tryz.underlying45 Tryz.underlying9 hi hz0 hz1 hz2 _ _ _ rfl hown s rfl ?c3 ?c4 ?c5 ?_)
  case c3 => unfold maxLen; omega
  case c4 => omega
  case c5 => have := hb1.size; omega
  intro v' w2 hown' hgrow _
  have hlt : b < w1.heap.size := by
    rcases Nat.lt_or_ge b w1.heap.size with h' | h'
    · exact h'
    · simp [Array.getElem?_eq_none h'] at hbk
  have hb2 : w2.heap[b]? = some (.cells #[.pointer (some ⟨b, 0, none⟩), v] 69 (0, 0)) := by
    rw [hgrow.block b hlt (fun e => hne e.symm)]
    exact hbk
  have d0 : w2.cell? ⟨b, 0, none⟩ = some (.pointer (some ⟨b, 0, none⟩)) := by rw [Lib.cell_of_heap hb2]; rfl
  have d1 : w2.cell? ⟨b, 1, none⟩ = some v := by rw [Lib.cell_of_heap hb2]; rfl
  have f1 : w2.frozen? ⟨b, 1, none⟩ = false := Lib.frozen_of_heap hb2 1
  obtain ⟨ao, n', cap, rfl⟩ : ∃ ao n' cap, v' = .slice ao n' cap := by
    rcases hown'.2 with ⟨hv, _⟩ | ⟨g, cap, cur, fz, hv, _⟩
    · exact ⟨_, _, _, hv⟩
    · exact ⟨_, _, _, hv⟩
  go_wp2
  go_ret2
  refine ⟨rfl, ?_, ?_, (hk1.grown hgrow (Lib.ownsRowF_kind hown)).setCell ⟨b, 1, none⟩ rfl _⟩
  · exact Lib.BuilderAtF.put (T := 69) (e := 5) hB hb2 (bs' := bs ++ Lib.strCells s) (by simpa [Lib.strCells_length] using hown') (by decide)
  · exact (hb1.grown hgrow (by have := hb1.size; omega) (fun k hk => (hown.lt k hk).1)).setCell (p := ⟨b, 1, none⟩) hB _

set_option maxHeartbeats 4000000 in
set_option maxRecDepth 100000 in
theorem WriteRune_k (B b : Nat) (bs : List Value) (r : Int) (hr0 : -2147483648 ≤ r) (hr1 : r ≤ 2147483647) (w : World) (h : Lib.IsBuilderF 69 5 B b bs w) (hlen : bs.length + 4 ≤ 140737488355328) (hBw : B ≤ w.heap.size) :
    Calls Tryz.prog 241 #[.pointer (some ⟨b, 0, none⟩), .int .i32 r] w fun e w' => e = .returned (.tuple #[.int .i64 (Lib.runeCells r).length, .nilIface]) ∧ (Lib.BuilderAtF 69 5 B b (.pointer (some ⟨b, 0, none⟩)) (bs ++ Lib.runeCells r) w' ∧ Below B w w' ∧ Lib.OthersKept 5 (some b) w w') := by
  have hk4 := Lib.runeCells_le r
  go_enter Tryz.func241, Tryz.ntmps241
  go_wp2_with (go_at_call 188; refine (copyCheck_k B b bs _ h).mono ?_)
  rintro e w1 ⟨rfl, h1, hb1, hk1⟩
  obtain ⟨hB, v, hbk, hown, hne⟩ := h1
  obtain ⟨ao, cap, rfl⟩ : ∃ ao cap, v = .slice ao bs.length cap := by
    rcases hown.2 with ⟨hv, h0⟩ | ⟨g, cap, cur, fz, hv, _⟩
    · exact ⟨none, 0, by rw [hv, h0]⟩
    · exact ⟨_, _, hv⟩
  have c0 : w1.cell? ⟨b, 0, none⟩ = some (.pointer (some ⟨b, 0, none⟩)) := by rw [Lib.cell_of_heap hbk]; rfl
  have c1 : w1.cell? ⟨b, 1, none⟩ = some (.slice ao bs.length cap) := by rw [Lib.cell_of_heap hbk]; rfl
  go_wp2_with (go_at_call 258; refine (Tryz.utf8_AppendRune_row B _ bs.length bs r hr0 hr1 _ hown hlen (by have := hb1.size; omega)).mono ?_)
  rintro e w2 ⟨v', rfl, hown', o, hgrow⟩
  have hlt : b < w1.heap.size := by
    rcases Nat.lt_or_ge b w1.heap.size with h' | h'
    · exact h'
    · simp [Array.getElem?_eq_none h'] at hbk
  have hb2 : w2.heap[b]? = some (.cells #[.pointer (some ⟨b, 0, none⟩), .slice ao bs.length cap] 69 (0, 0)) := by
    rw [hgrow.block b (by simp; omega) (fun e => hne e.symm), Lib.alloc_old w1 _ b hlt]
    exact hbk
  have d0 : w2.cell? ⟨b, 0, none⟩ = some (.pointer (some ⟨b, 0, none⟩)) := by rw [Lib.cell_of_heap hb2]; rfl
  have d1 : w2.cell? ⟨b, 1, none⟩ = some (.slice ao bs.length cap) := by rw [Lib.cell_of_heap hb2]; rfl
  have f1 : w2.frozen? ⟨b, 1, none⟩ = false := Lib.frozen_of_heap hb2 1
  obtain ⟨g, cap', rfl⟩ : ∃ g cap', v' = .slice (some ⟨g, 0, none⟩) (bs.length + (Lib.runeCells r).length) cap' := by
    rcases hown'.2 with ⟨_, h0⟩ | ⟨g, cap', cur, fz, hv, _⟩
    · omega
    · exact ⟨g, cap', hv⟩
  go_wp2
  go_ret2
  refine ⟨?_, ?_, ?_, ((hk1.alloc _).grown hgrow (Lib.ownsRowF_kind (hown.alloc _))).setCell ⟨b, 1, none⟩ rfl _⟩
  · have e : ((bs.length : Int) + ((Lib.runeCells r).length : Int) - (bs.length : Int)) = ((Lib.runeCells r).length : Int) := by omega
    simp [e]
  · exact Lib.BuilderAtF.put (T := 69) (e := 5) hB hb2 (bs' := bs ++ Lib.runeCells r) (by simpa using hown') (by decide)
  · exact ((hb1.alloc (by have := hb1.size; omega) _).grown hgrow (by have := hb1.size; simp; omega) (fun k hk => (hown.lt k hk).1)).setCell (p := ⟨b, 1, none⟩) hB _

end Go.Proofs.YtmgoebfcfgilfaaGreatDoor
namespace Go.Proofs.YtmgoebfcfgilfaaGreatDoor
set_option linter.unusedSimpArgs false
set_option linter.unusedVariables false
open Go Go.RowKit

theorem heap_lt {w : World} {k : Nat} {o : Obj} (h : w.heap[k]? = some o) : k < w.heap.size := by
  rcases Nat.lt_or_ge k w.heap.size with h' | h'
  · exact h'
  · simp [Array.getElem?_eq_none h'] at h

/-- A builder stays one where its own blocks stand. -/
theorem isB_keep {T e : TypeId} {B b : Nat} {bs : List Value} {w w' : World} (h : Lib.IsBuilderF T e B b bs w) (hk : ∀ k, B ≤ k → k < w.heap.size → w'.heap[k]? = w.heap[k]?) : Lib.IsBuilderF T e B b bs w' := by
  have one : ∀ p, Lib.BuilderAtF T e B b p bs w → Lib.BuilderAtF T e B b p bs w' := by
    rintro p ⟨hB, v, hb, ⟨hl, ho⟩, hne⟩
    refine ⟨hB, v, by rw [hk b hB (heap_lt hb)]; exact hb, ⟨hl, ?_⟩, hne⟩
    rcases ho with ho | ⟨g, cap, cur, fz, h1, h2, h3, h4⟩
    · exact .inl ho
    · exact .inr ⟨g, cap, cur, fz, h1, h2, by rw [hk g h2 (heap_lt h3)]; exact h3, h4⟩
  exact h.imp (one _) (one _)

structure St (w0 : World) (bx bo : Nat) (s : ByteArray) (b : Nat) (out : List UInt8) (w : World) : Prop where
  scan : Scan w bx s b
  bld : IsB bo out w
  fr : Fr bx w0 w
  env : Env w
  lo : bx < bo
  hi : bo = w0.heap.size
  three : 3 ≤ bx

theorem St.le {w0 : World} {bx bo : Nat} {s : ByteArray} {b : Nat} {out : List UInt8} {w : World} (h : St w0 bx bo s b out w) : bo ≤ w.heap.size := by
  have := h.fr.size; rw [h.hi]; exact this
theorem St.drewN {w0 : World} {bx bo : Nat} {s : ByteArray} {b : Nat} {out : List UInt8} {w : World} (h : St w0 bx bo s b out w) (n : Nat) : St w0 bx bo s b out (w.drewN n) :=
  ⟨h.scan.drewN n, isB_keep h.bld (fun _ _ _ => rfl), h.fr.drewN n, h.env.drewN n, h.lo, h.hi, h.three⟩
theorem St.put {w0 : World} {bx bo : Nat} {s : ByteArray} {b : Nat} {out : List UInt8} {w : World} (h : St w0 bx bo s b out w) (n : Nat) : St w0 bx bo s n out (w.setCell ⟨bx, 1, none⟩ (.int .i64 n)) :=
  ⟨h.scan.put n, isB_keep h.bld (fun k hk _ => by have := h.lo; exact Below.heap_setCell _ _ _ _ (fun e => by simp at e; omega)), h.fr.set 1 _, h.env.fr (Fr.set (But.refl _ _) 1 _) h.three, h.lo, h.hi, h.three⟩
theorem St.below {w0 : World} {bx bo : Nat} {s : ByteArray} {b : Nat} {out : List UInt8} {w w' : World} (h : St w0 bx bo s b out w) (hb : Below w.heap.size w w') : St w0 bx bo s b out w' :=
  ⟨h.scan.below hb, isB_keep h.bld (fun k _ hk => hb.block k hk), h.fr.trans (But.of_below hb), h.env.below hb, h.lo, h.hi, h.three⟩
theorem St.wrote {w0 : World} {bx bo : Nat} {s : ByteArray} {b : Nat} {out out' : List UInt8} {w w' : World} (h : St w0 bx bo s b out w) (hB : IsB bo out' w') (hb : Below bo w w') : St w0 bx bo s b out' w' := by
  have hf : Fr bx w0 w' := ⟨hb.os.trans h.fr.os, hb.tape.trans h.fr.tape, hb.output.trans h.fr.output, Nat.le_trans h.fr.size hb.size,
    fun k hk hx => (hb.block k (by rw [h.hi]; exact hk)).trans (h.fr.block k hk hx)⟩
  have hs : Scan w' bx s b := by have := h.scan; unfold Scan at *; rw [hb.block bx h.lo]; exact this
  have he : Env w' := by
    have e := h.env
    have l1 := h.lo; have l2 := h.three
    obtain ⟨⟨h1, h2⟩, m, h3⟩ := e
    exact ⟨⟨fun c hc => by rw [hb.cell (by simp; omega)]; exact h1 c hc, fun i hi => ⟨by rw [hb.cell (by simp; omega)]; exact (h2 i hi).1, by rw [hb.cell (by simp; omega)]; exact (h2 i hi).2⟩⟩, m, by rw [hb.cell (by simp; omega)]; exact h3⟩
  exact ⟨hs, hB, hf, he, h.lo, h.hi, h.three⟩

theorem St.start {w0 w : World} {bx : Nat} {s : ByteArray} {b : Nat} (hS : Scan w bx s b) (hF : Fr bx w0 w) (hE : Env w) (hsz : w.heap.size = w0.heap.size) (h3 : 3 ≤ bx) :
    St w0 bx w.heap.size s b [] (w.alloc (.cells #[.pointer none, .slice none 0 0] 69)) := by
  have hlt := hS.lt
  refine ⟨hS.below ((Below.refl _ _).alloc (Nat.le_refl _) _), .inl ⟨Nat.le_refl _, .slice none 0 0, ?_, ⟨rfl, .inl ⟨rfl, rfl⟩⟩, by simp [Value.ownBlock]⟩, hF.alloc _, hE.below ((Below.refl _ _).alloc (Nat.le_refl _) _), hlt, hsz, h3⟩
  show (w.heap.push _)[w.heap.size]? = _
  simp

/-- The writers, in one word. -/
theorem St.rune {w0 : World} {bx bo : Nat} {s : ByteArray} {b : Nat} {out : List UInt8} {w : World} (h : St w0 bx bo s b out w) (hl : out.length ≤ 5000) (r : Nat) (hr : r < 55296 ∨ (57343 < r ∧ r ≤ 1114111)) :
    Calls Tryz.prog 241 #[.pointer (some ⟨bo, 0, none⟩), .int .i32 r] w fun e w' => (∃ n : Int, e = .returned (.tuple #[.int .i64 n, .nilIface])) ∧ St w0 bx bo s b (out ++ Lx.enc r) w' := by
  refine (WriteRune_k bo bo _ r (by omega) (by omega) w h.bld (by rw [Lib.byteCells_length]; omega) h.le).mono ?_
  rintro e w' ⟨rfl, h1, h2, _⟩
  refine ⟨⟨_, rfl⟩, h.wrote (.inr ?_) h2⟩
  rw [← Lx.enc_lib r hr, Lib.byteCells_append, Lib.byteCells_encodeRune]
  exact h1
theorem St.byte {w0 : World} {bx bo : Nat} {s : ByteArray} {b : Nat} {out : List UInt8} {w : World} (h : St w0 bx bo s b out w) (hl : out.length ≤ 5000) (c : UInt8) :
    Calls Tryz.prog 242 #[.pointer (some ⟨bo, 0, none⟩), .int .u8 c.toNat] w fun e w' => e = .returned .nilIface ∧ St w0 bx bo s b (out ++ [c]) w' := by
  refine (WriteByte_k bo bo _ c.toNat w h.bld (by rw [Lib.byteCells_length]; omega) h.le).mono ?_
  rintro e w' ⟨rfl, h1, h2, _⟩
  refine ⟨rfl, h.wrote (.inr ?_) h2⟩
  rw [Lib.byteCells_append]
  exact h1
theorem St.str {w0 : World} {bx bo : Nat} {s : ByteArray} {b : Nat} {out : List UInt8} {w : World} (h : St w0 bx bo s b out w) (hl : out.length ≤ 5000) (l : List UInt8) (hl2 : l.length ≤ 5000) :
    Calls Tryz.prog 129 #[.pointer (some ⟨bo, 0, none⟩), .string ⟨l.toArray⟩] w fun e w' => (∃ n : Int, e = .returned (.tuple #[.int .i64 n, .nilIface])) ∧ St w0 bx bo s b (out ++ l) w' := by
  refine (WriteString_k bo bo _ ⟨l.toArray⟩ w h.bld (by rw [Lib.byteCells_length]; show _ + l.length ≤ _; omega) h.le).mono ?_
  rintro e w' ⟨rfl, h1, h2, _⟩
  refine ⟨⟨_, rfl⟩, h.wrote (.inr ?_) h2⟩
  rw [Lib.byteCells_append]
  exact h1
theorem St.string {w0 : World} {bx bo : Nat} {s : ByteArray} {b : Nat} {out : List UInt8} {w : World} (h : St w0 bx bo s b out w) :
    Calls Tryz.prog 77 #[.pointer (some ⟨bo, 0, none⟩)] w fun e w' => e = .returned (.string ⟨out.toArray⟩) ∧ St w0 bx bo s b out w' := by
  refine (Tryz.Builder_String_any_k bo bo out w h.bld h.le).mono ?_
  rintro e w' ⟨rfl, h1, h2, _⟩
  exact ⟨rfl, h.wrote h1 h2⟩

end Go.Proofs.YtmgoebfcfgilfaaGreatDoor
namespace Go.Proofs.YtmgoebfcfgilfaaGreatDoor
set_option linter.unusedSimpArgs false
set_option linter.unusedVariables false
open Go Go.RowKit

theorem hd_sfx' (s : ByteArray) (n : Nat) : Lx.hd (sfx s n) = bt s n := by
  have := sfx_getD s n 0
  unfold Lx.hd
  cases h : sfx s n with
  | nil => rw [h] at this; simpa using this
  | cons c t => rw [h] at this; simpa using this

theorem escIdx (c : UInt8) (w : World) :
    Calls Tryz.prog 211 #[.string ⟨#[34, 92, 47, 98, 102, 110, 114, 116, 117]⟩, .int .u8 c.toNat] w fun e w' => e = .returned (.int .i64 (Lib.indexByte Lx.escs c)) ∧ w' = w := by
  refine (Tryz.strings_IndexByte _ _ _).mono ?_
  rintro e w' ⟨rfl, rfl⟩
  refine ⟨?_, rfl⟩
  have h1 : ((c.toNat : Int)).toNat.toUInt8 = c := by simp
  rw [h1]
  rfl

/-- What a method that reads a string leaves. -/
def TxtPost (o : Option (List UInt8 × List UInt8)) (bx : Nat) (s : ByteArray) (a : Nat) (w : World) (e : Ending) (w' : World) : Prop :=
  ∃ b, a < b ∧ b ≤ s.size ∧ Scan w' bx s b ∧ Fr bx w w' ∧ Env w' ∧
    ((∃ m, o = some (m, sfx s b) ∧ m.length ≤ b ∧ e = .returned (.tuple #[.string ⟨m.toArray⟩, .bool true])) ∨ (o = none ∧ e = .returned (.tuple #[.string ⟨#[]⟩, .bool false])))

set_option maxHeartbeats 8000000 in
set_option maxRecDepth 100000 in
theorem text_any (bx : Nat) (s : ByteArray) (a : Nat) (w : World) (hs : s.size ≤ 4096) (hat : a < s.size) (h : Scan w bx s a) (hE : Env w) (h3 : 3 ≤ bx) :
    Calls Tryz.prog 210 #[.pointer (some ⟨bx, 0, none⟩)] w (TxtPost (Lx.text [] (sfx s (a + 1))) bx s a w) := by
  have hS0 : St w bx w.heap.size s (a + 1) [] ((w.setCell ⟨bx, 1, none⟩ (.int .i64 ((a + 1 : Nat) : Int))).alloc (.cells #[.pointer none, .slice none 0 0] 69)) := by
    have := St.start (w0 := w) (h.put (a + 1)) (Fr.set (But.refl _ _) 1 _) (hE.fr (Fr.set (But.refl _ _) 1 _) h3) (by simp [World.setCell]) h3
    simpa [World.setCell] using this
  have H0 := Lib.hid hS0
  have c0 := h.c0; have c1 := h.c1; have f1 := h.f1
  clear hS0 h hE
  go_enter Tryz.func210, Tryz.ntmps210
  go_wp2
  clear c0 c1 f1
  go_loopg [] (s.size - (a + 1)) (fun k wr => ∃ b out, k = s.size - b ∧ a < b ∧ b ≤ s.size ∧ out.length ≤ b ∧ Lx.text out (sfx s b) = Lx.text [] (sfx s (a + 1)) ∧ St w bx w.heap.size s b out wr)
  case atStart => exact ⟨a + 1, [], rfl, by omega, hat, by simp, rfl, H0.out⟩
  case round =>
    obtain ⟨b, out, hk, hab, hb, hol, hd, hS⟩ := hrel
    have c0 := hS.scan.c0; have c1 := hS.scan.c1; have f1 := hS.scan.f1
    have HD := Lib.hid hd; have HK := Lib.hid hk
    clear hd hk H0
    by_cases hlt : b < s.size
    · have hi0 : (0 : Int) ≤ (b : Int) := Int.natCast_nonneg _
      have hi1 : (b : Int) < s.size := by omega
      have HC := Lib.hid (sfx_cons s b hlt)
      have hn4 := Lx.rune_le4 (sfx s b)
      have hnl := Lx.rune_len (sfx s b)
      have hrm := Lx.rune_max (sfx s b)
      rw [sfx_len] at hnl
      rcases Lx.ctl_cases (Lx.rune (sfx s b)).1 (Lx.rune (sfx s b)).2 with ⟨q1, q4⟩ | ⟨q1, q2, q3, q4⟩ | ⟨q1, q2, q3, q4⟩ | ⟨q1, q2, q4⟩
      · have Q4 := Lib.hid q4
        clear q4
        go_wp2
        go_quiet (fail)
        go_wp2_with fail
        refine (rune_any bx s b _ hs hb (hS.scan.drewN _) (hS.env.drewN _)).mono ?_
        rintro e w1 ⟨rfl, hb1⟩
        have hS1 := (hS.drewN _).below hb1
        clear hb1 c0 c1 f1
        have c0 := hS1.scan.c0; have c1 := hS1.scan.c1; have f1 := hS1.scan.f1
        go_wp2_with fail
        go_ret2
        exact ⟨b, by omega, hb, hS1.scan, hS1.fr, hS1.env, .inr ⟨by rw [← HD.out, HC.out, Lx.text_bad (by rw [← HC.out]; exact Q4.out)], rfl⟩⟩
      · have Q4 := Lib.hid q4
        clear q4
        go_wp2
        go_quiet (fail)
        go_wp2_with fail
        refine (rune_any bx s b _ hs hb (hS.scan.drewN _) (hS.env.drewN _)).mono ?_
        rintro e w1 ⟨rfl, hb1⟩
        have hS1 := (hS.drewN _).below hb1
        clear hb1 c0 c1 f1
        have c0 := hS1.scan.c0; have c1 := hS1.scan.c1; have f1 := hS1.scan.f1
        go_wp2_with fail
        go_ret2
        exact ⟨b, by omega, hb, hS1.scan, hS1.fr, hS1.env, .inr ⟨by rw [← HD.out, HC.out, Lx.text_bad (by rw [← HC.out]; exact Q4.out)], rfl⟩⟩
      all_goals
        have hn1 : (Lx.rune (sfx s b)).2 ≠ 0 := fun h => q4 (.inl h)
        have Q4 : Hid (¬ Lx.ctl (bt s b :: sfx s (b + 1))) := by rw [← HC.out]; exact q4
        obtain ⟨hen1, hen2⟩ := Lx.rune_enc (sfx s b) hn1
        have HEN := Lib.hid hen2
        have HN1 := Lib.hid hen1
        clear q4 hen2 hen1
        by_cases h34 : (Lx.rune (sfx s b)).1 = 34
        · have e1 := eqT (n := (Lx.rune (sfx s b)).1) (k := 34) (by omega)
          have H34 := Lib.hid h34
          clear h34
          go_wp2
          go_quiet (fail)
          go_wp2_with fail
          refine (rune_any bx s b _ hs hb (hS.scan.drewN _) (hS.env.drewN _)).mono ?_
          rintro e w1 ⟨rfl, hb1⟩
          have hS1 := (hS.drewN _).below hb1
          clear hb1 c0 c1 f1
          have c0 := hS1.scan.c0; have c1 := hS1.scan.c1; have f1 := hS1.scan.f1
          go_wp2_with fail
          refine (((hS1.put (b + 1)).string)).mono ?_
          rintro e w2 ⟨rfl, hS2⟩
          go_wp2_with fail
          go_ret2
          refine ⟨b + 1, by omega, hlt, hS2.scan, hS2.fr, hS2.env, .inl ⟨out, ?_, by omega, rfl⟩⟩
          rw [← HD.out, HC.out, Lx.text_quote Q4.out (by rw [← HC.out]; exact H34.out)]
        · have e1 := eqF (n := (Lx.rune (sfx s b)).1) (k := 34) (by omega)
          have H34 := Lib.hid h34
          clear h34
          by_cases h92 : (Lx.rune (sfx s b)).1 = 92
          · have e2 := neF (n := (Lx.rune (sfx s b)).1) (k := 92) (by omega)
            have H92 := Lib.hid h92
            clear h92
            have hI := escIdx (bt s (b + 1))
            have hec := Lx.esc_cases (bt s (b + 1))
            generalize Lib.indexByte Lx.escs (bt s (b + 1)) = kk at hI hec
            have HI := Lib.hid hI
            clear hI
            rcases hec with ⟨g1, g2, g3⟩ | ⟨g1, g4, g2, g3⟩ | ⟨g1, g2, g3⟩
            · have G2 := Lib.hid g2; have G3 := Lib.hid g3
              have e3 : decide (kk < 0) = true := by simpa using g1
              clear g2 g3
              go_wp2
              go_quiet (fail)
              go_wp2_with fail
              refine (rune_any bx s b _ hs hb (hS.scan.drewN _) (hS.env.drewN _)).mono ?_
              rintro e w1 ⟨rfl, hb1⟩
              have hS1 := (hS.drewN _).below hb1
              clear hb1 c0 c1 f1
              have c0 := hS1.scan.c0; have c1 := hS1.scan.c1; have f1 := hS1.scan.f1
              go_wp2_with fail
              refine (peek1_any bx s b _ hs hb hS1.scan).mono ?_
              rintro e w2 ⟨rfl, n2, rfl⟩
              go_wp2_with fail
              refine (HI.out _).mono ?_
              rintro e w2 ⟨rfl, hw2⟩
              subst hw2
              go_wp2_with fail
              go_ret2
              exact ⟨b, by omega, hb, hS1.scan.drewN _, hS1.fr.drewN _, hS1.env.drewN _, .inr ⟨by rw [← HD.out, HC.out, Lx.text_noesc Q4.out (by rw [← HC.out]; exact H92.out) (by rw [hd_sfx']; exact G2.out) (by rw [hd_sfx']; exact G3.out)], rfl⟩⟩
            · have G2 := Lib.hid g2; have G3 := Lib.hid g3
              have e3 : decide (kk < 0) = false := by simp; omega
              have e4 : decide (kk < 8) = true := by simp; omega
              have e5 := eqF (n := (bt s (b + 1)).toNat) (k := 0) (by omega)
              have hb1 : b + 1 < s.size := by
                rcases Nat.lt_or_ge (b + 1) s.size with h' | h'
                · exact h'
                · rw [bt_end _ _ h'] at g3; exact absurd rfl g3
              clear g2 g3
              go_wp2
              go_quiet (fail)
              go_wp2_with fail
              refine (rune_any bx s b _ hs hb (hS.scan.drewN _) (hS.env.drewN _)).mono ?_
              rintro e w1 ⟨rfl, hb1⟩
              have hS1 := (hS.drewN _).below hb1
              clear hb1 c0 c1 f1
              have c0 := hS1.scan.c0; have c1 := hS1.scan.c1; have f1 := hS1.scan.f1
              go_wp2_with fail
              refine (peek1_any bx s b _ hs hb hS1.scan).mono ?_
              rintro e w2 ⟨rfl, n2, rfl⟩
              go_wp2_with fail
              refine (HI.out _).mono ?_
              rintro e w2 ⟨rfl, hw2⟩
              subst hw2
              go_wp2_with fail
              refine (peek1_any bx s b _ hs hb (hS1.scan.drewN _)).mono ?_
              rintro e w2 ⟨rfl, n3, hw3⟩
              have hS3 : St w bx w.heap.size s b out w2 := by rw [hw3]; exact (hS1.drewN _).drewN _
              clear hw3 c0 c1 f1 hS1
              have c0 := hS3.scan.c0; have c1 := hS3.scan.c1; have f1 := hS3.scan.f1
              go_wp2_with fail
              refine (hS3.byte (by omega) (bt ⟨#[34, 92, 47, 8, 12, 10, 13, 9]⟩ kk.toNat)).mono ?_
              rintro e w4 ⟨rfl, hS4⟩
              clear c0 c1 f1
              have c0 := hS4.scan.c0; have c1 := hS4.scan.c1; have f1 := hS4.scan.f1
              go_wp2
              go_roundg (s.size - (b + 2))
              case measure => rw [HK.out]; omega
              case rel =>
                refine ⟨b + 2, out ++ [bt ⟨#[34, 92, 47, 8, 12, 10, 13, 9]⟩ kk.toNat], rfl, by omega, by omega, by simp; omega, ?_, hS4.put _⟩
                rw [← HD.out, HC.out, Lx.text_esc Q4.out (by rw [← HC.out]; exact H92.out) (by rw [hd_sfx']; exact G2.out), sfx_drop]
                rfl
            · have G2 := Lib.hid g2; have G3 := Lib.hid g3
              have e3 : decide (kk < 0) = false := by simp; omega
              have e4 : decide (kk < 8) = false := by simp; omega
              have e5 := eqF (n := (bt s (b + 1)).toNat) (k := 0) (by omega)
              have hb1 : b + 1 < s.size := by
                rcases Nat.lt_or_ge (b + 1) s.size with h' | h'
                · exact h'
                · rw [bt_end _ _ h'] at g3; exact absurd g3 (by decide)
              have hi2 : (0 : Int) ≤ (b : Int) + 2 := by omega
              have hi3 : (b : Int) + 2 ≤ s.size := by omega
              have hxs := extract_sfx s (b + 2)
              have hxm := hex_any ⟨(sfx s (b + 2)).toArray⟩
              have hsl : (ByteArray.mk (sfx s (b + 2)).toArray).size ≤ 4096 := by
                show (sfx s (b + 2)).length ≤ 4096
                rw [sfx_len]; omega
              have hda : (ByteArray.mk (sfx s (b + 2)).toArray).data.toList = sfx s (b + 2) := rfl
              have HXM : Hid (∀ w', Calls Tryz.prog 243 #[.string ⟨(sfx s (b + 2)).toArray⟩] w' fun e w'' => e = .returned (.int .i32 (hexAns (Lx.hex (sfx s (b + 2))))) ∧ w'' = w') := fun w' => hxm w' hsl
              have HP := Lib.hid hd_sfx'
              clear g2 g3 hxm hsl hda
              have hhex : (hexAns (Lx.hex (sfx s (b + 2))) = -1 ∧ Lx.hex (sfx s (b + 2)) = none) ∨ ∃ v : Nat, v < 65536 ∧ b + 6 ≤ s.size ∧ hexAns (Lx.hex (sfx s (b + 2))) = (v : Int) ∧ Lx.hex (sfx s (b + 2)) = some v := by
                cases hh : Lx.hex (sfx s (b + 2)) with
                | none => exact .inl ⟨rfl, rfl⟩
                | some v =>
                  have h1 := Lx.hexs_len 4 0 _ _ hh
                  rw [sfx_len] at h1
                  exact .inr ⟨v, Lx.hex_lt hh, by omega, rfl, rfl⟩
              generalize hexAns (Lx.hex (sfx s (b + 2))) = hv at HXM hhex
              rcases hhex with ⟨rfl, hx⟩ | ⟨v, hv1, hv2, rfl, hx⟩
              · have HX := Lib.hid hx
                clear hx
                go_wp2
                go_quiet (fail)
                go_wp2_with fail
                refine (rune_any bx s b _ hs hb (hS.scan.drewN _) (hS.env.drewN _)).mono ?_
                rintro e w1 ⟨rfl, hb1⟩
                have hS1 := (hS.drewN _).below hb1
                clear hb1 c0 c1 f1
                have c0 := hS1.scan.c0; have c1 := hS1.scan.c1; have f1 := hS1.scan.f1
                go_wp2_with fail
                refine (peek1_any bx s b _ hs hb hS1.scan).mono ?_
                rintro e w2 ⟨rfl, n2, rfl⟩
                go_wp2_with fail
                refine (HI.out _).mono ?_
                rintro e w2 ⟨rfl, hw2⟩
                subst hw2
                go_wp2_with fail
                refine (peek1_any bx s b _ hs hb (hS1.scan.drewN _)).mono ?_
                rintro e w2 ⟨rfl, n3, hw3⟩
                have hS3 : St w bx w.heap.size s b out w2 := by rw [hw3]; exact (hS1.drewN _).drewN _
                clear hw3 c0 c1 f1 hS1
                have c0 := hS3.scan.c0; have c1 := hS3.scan.c1; have f1 := hS3.scan.f1
                go_wp2
                go_quiet ((exact Calls.quiet_of_same (HXM.out _)))
                go_wp2
                go_ret2
                exact ⟨b, by omega, hb, hS3.scan.drewN _, hS3.fr.drewN _, hS3.env.drewN _, .inr ⟨by rw [← HD.out, HC.out, Lx.text_nohex Q4.out (by rw [← HC.out]; exact H92.out) (by rw [hd_sfx']; exact G2.out) (by rw [hd_sfx']; exact G3.out) (by rw [sfx_drop]; exact HX.out)], rfl⟩⟩
              · have HX := Lib.hid hx
                clear hx
                have hv3 : decide ((v : Int) < 0) = false := by simp
                by_cases hsur : 55296 ≤ v ∧ v < 57344
                · have s1 : decide (55296 ≤ (v : Int)) = true := by simp; omega
                  have s2 : decide ((v : Int) < 57344) = true := by simp; omega
                  have HSU := Lib.hid hsur
                  clear hsur
                  go_wp2
                  go_quiet (fail)
                  go_wp2_with fail
                  refine (rune_any bx s b _ hs hb (hS.scan.drewN _) (hS.env.drewN _)).mono ?_
                  rintro e w1 ⟨rfl, hb1⟩
                  have hS1 := (hS.drewN _).below hb1
                  clear hb1 c0 c1 f1
                  have c0 := hS1.scan.c0; have c1 := hS1.scan.c1; have f1 := hS1.scan.f1
                  go_wp2_with fail
                  refine (peek1_any bx s b _ hs hb hS1.scan).mono ?_
                  rintro e w2 ⟨rfl, n2, rfl⟩
                  go_wp2_with fail
                  refine (HI.out _).mono ?_
                  rintro e w2 ⟨rfl, hw2⟩
                  subst hw2
                  go_wp2_with fail
                  refine (peek1_any bx s b _ hs hb (hS1.scan.drewN _)).mono ?_
                  rintro e w2 ⟨rfl, n3, hw3⟩
                  have hS3 : St w bx w.heap.size s b out w2 := by rw [hw3]; exact (hS1.drewN _).drewN _
                  clear hw3 c0 c1 f1 hS1
                  have c0 := hS3.scan.c0; have c1 := hS3.scan.c1; have f1 := hS3.scan.f1
                  go_wp2
                  go_quiet ((exact Calls.quiet_of_same (HXM.out _)))
                  go_wp2
                  go_ret2
                  exact ⟨b, by omega, hb, hS3.scan.drewN _, hS3.fr.drewN _, hS3.env.drewN _, .inr ⟨by rw [← HD.out, HC.out, Lx.text_sur Q4.out (by rw [← HC.out]; exact H92.out) (by rw [hd_sfx']; exact G2.out) (by rw [hd_sfx']; exact G3.out) (by rw [sfx_drop]; exact HX.out) HSU.out], rfl⟩⟩
                · have hs12 : decide (55296 ≤ (v : Int)) = false ∨ (decide (55296 ≤ (v : Int)) = true ∧ decide ((v : Int) < 57344) = false) := by
                    by_cases h' : 55296 ≤ v
                    · exact .inr ⟨by simp; omega, by simp; omega⟩
                    · exact .inl (by simp; omega)
                  have HSU := Lib.hid hsur
                  clear hsur
                  rcases hs12 with s1 | ⟨s1, s2⟩
                  all_goals
                    go_wp2
                    go_quiet (fail)
                    go_wp2_with fail
                    refine (rune_any bx s b _ hs hb (hS.scan.drewN _) (hS.env.drewN _)).mono ?_
                    rintro e w1 ⟨rfl, hb1⟩
                    have hS1 := (hS.drewN _).below hb1
                    clear hb1 c0 c1 f1
                    have c0 := hS1.scan.c0; have c1 := hS1.scan.c1; have f1 := hS1.scan.f1
                    go_wp2_with fail
                    refine (peek1_any bx s b _ hs hb hS1.scan).mono ?_
                    rintro e w2 ⟨rfl, n2, rfl⟩
                    go_wp2_with fail
                    refine (HI.out _).mono ?_
                    rintro e w2 ⟨rfl, hw2⟩
                    subst hw2
                    go_wp2_with fail
                    refine (peek1_any bx s b _ hs hb (hS1.scan.drewN _)).mono ?_
                    rintro e w2 ⟨rfl, n3, hw3⟩
                    have hS3 : St w bx w.heap.size s b out w2 := by rw [hw3]; exact (hS1.drewN _).drewN _
                    clear hw3 c0 c1 f1 hS1
                    have c0 := hS3.scan.c0; have c1 := hS3.scan.c1; have f1 := hS3.scan.f1
                    go_wp2
                    go_quiet ((exact Calls.quiet_of_same (HXM.out _)))
                    go_wp2_with fail
                    refine ((hS3.drewN _).rune (by omega) v (by have := HSU.out; omega)).mono ?_
                    rintro e w5 ⟨⟨n5, rfl⟩, hS5⟩
                    clear c0 c1 f1
                    have c0 := hS5.scan.c0; have c1 := hS5.scan.c1; have f1 := hS5.scan.f1
                    go_wp2
                    go_roundg (s.size - (b + 6))
                    case measure => rw [HK.out]; omega
                    case rel =>
                      have hel := Lx.enc_len v
                      refine ⟨b + 6, out ++ Lx.enc v, rfl, by omega, by omega, by simp; omega, ?_, hS5.put _⟩
                      rw [← HD.out, HC.out, Lx.text_uni Q4.out (by rw [← HC.out]; exact H92.out) (by rw [hd_sfx']; exact G2.out) (by rw [hd_sfx']; exact G3.out) (by rw [sfx_drop]; exact HX.out) HSU.out, sfx_drop]
          · have e2 := neT (n := (Lx.rune (sfx s b)).1) (k := 92) (by omega)
            have H92 := Lib.hid h92
            clear h92
            go_wp2
            go_quiet (fail)
            go_wp2_with fail
            refine (rune_any bx s b _ hs hb (hS.scan.drewN _) (hS.env.drewN _)).mono ?_
            rintro e w1 ⟨rfl, hb1⟩
            have hS1 := (hS.drewN _).below hb1
            clear hb1 c0 c1 f1
            have c0 := hS1.scan.c0; have c1 := hS1.scan.c1; have f1 := hS1.scan.f1
            go_wp2_with fail
            refine (hS1.rune (by omega) _ HN1.out).mono ?_
            rintro e w2 ⟨⟨n2, rfl⟩, hS2⟩
            clear c0 c1 f1
            have c0 := hS2.scan.c0; have c1 := hS2.scan.c1; have f1 := hS2.scan.f1
            go_wp2
            go_roundg (s.size - (b + (Lx.rune (sfx s b)).2))
            case measure => rw [HK.out]; omega
            case rel =>
              have hel := Lx.rune_le4 (sfx s b)
              refine ⟨b + (Lx.rune (sfx s b)).2, out ++ Lx.enc (Lx.rune (sfx s b)).1, rfl, by omega, by omega, ?_, ?_, hS2.put _⟩
              · rw [HEN.out, List.length_append, List.length_take]; omega
              · have := Lx.text_plain (out := out) Q4.out (by rw [← HC.out]; exact H34.out) (by rw [← HC.out]; exact H92.out)
                rw [← HC.out] at this
                rw [← HD.out, this, HEN.out, sfx_drop]
    · have hi1 : (s.size : Int) ≤ b := by omega
      go_wp2
      go_quiet (fail)
      go_wp2
      go_ret2
      exact ⟨b, by omega, hb, hS.scan.drewN _, hS.fr.drewN _, hS.env.drewN _, .inr ⟨by rw [← HD.out, sfx_end s b (by omega), Lx.text_nil], rfl⟩⟩
end Go.Proofs.YtmgoebfcfgilfaaGreatDoor
namespace Go.Proofs.YtmgoebfcfgilfaaGreatDoor
set_option linter.unusedSimpArgs false
set_option linter.unusedVariables false
open Go Go.RowKit

theorem asciiInfo : (Tryz.prog.info? 319).map (fun i => (i.zero, i.size)) = some (some (.agg (Array.replicate 256 (.bool false))), 256) := by kernel_rfl

theorem trimSp (l : ByteArray) (w : World) :
    Calls Tryz.prog 271 #[.string l, .string ⟨#[32, 9]⟩] w fun e w' => e = .returned (.string ⟨(l.data.toList.dropWhile Lx.isSp).toArray⟩) ∧ Below w.heap.size w w' :=
  Any.strings_TrimLeft_laid Tryz.lays161 asciiInfo l ⟨#[32, 9]⟩ w (by decide) (by
    intro j b h
    match j with
    | 0 => simp at h; subst h; decide
    | 1 => simp at h; subst h; decide
    | j + 2 => simp at h)

set_option maxHeartbeats 400000 in
theorem indent_any (l : ByteArray) (w : World) (hl : l.size ≤ 100000) :
    Calls Tryz.prog 256 #[.string l] w fun e w' => e = .returned (.int .i64 (Lx.ind l.data.toList)) ∧ Below w.heap.size w w' := by
  have h1 := Lx.dropWhile_le Lx.isSp l.data.toList
  have h2 : l.data.toList.length = l.size := by simp
  go_enter Tryz.func256, Tryz.ntmps256
  go_wp2_with fail
  refine (trimSp _ _).mono ?_
  rintro e w1 ⟨rfl, hb⟩
  have hsz : (ByteArray.mk (List.dropWhile Lx.isSp l.data.toList).toArray).size = (List.dropWhile Lx.isSp l.data.toList).length := rfl
  go_wp2
  go_ret
  refine ⟨ret_int ?_, hb⟩
  unfold Lx.ind
  rw [h2]
  show (l.size : Int) - ((List.dropWhile Lx.isSp l.data.toList).length : Int) = _
  omega
end Go.Proofs.YtmgoebfcfgilfaaGreatDoor
