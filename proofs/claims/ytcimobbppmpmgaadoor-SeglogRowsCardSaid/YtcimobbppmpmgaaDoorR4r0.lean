/-
  SeglogRows, walked: its world.
-/
import Derived.Test.YtcimobbppmpmgaaDoorR4p
import Derived.Test.YtcimobbppmpmgaaDoorSg9
namespace Go.Proofs.YtcimobbppmpmgaaDoor
set_option linter.unusedSimpArgs false
set_option linter.unusedVariables false
open Go Go.RowKit
open Go.Maps Go.WideMaps

theorem infoI : (Tryd.prog.info? 3).map (fun i => (i.zero, i.size, i.bytes)) = some (some (.int .i64 0), 1, 8) := by kernel_rfl
def intCells (l : List Int) : List Value := l.map fun x => .int .i64 x
theorem intCells_one (l : List Int) : ∀ u ∈ intCells l, u.oneCell' = true := fun u hu => by
  unfold intCells at hu
  obtain ⟨c, _, rfl⟩ := List.mem_map.1 hu
  rfl
/-- Ints in memory of the call's own. -/
def OwnI (w : World) (base : Nat) (v : Value) (l : List Int) : Prop := w.ownsRow base 3 1 v l.length (intCells l)
theorem OwnI.ints {w : World} {base : Nat} {v : Value} {l : List Int} (h : OwnI w base v l) : Ints w v l := by
  have hcs := fun g hg => World.ownsRow.cells (g := g) h hg
  rcases h.2 with ⟨h1, h2⟩ | ⟨g, cap, cur, h1, hg, hb, hc, hm, _, _⟩
  · exact ⟨none, 0, by rw [h1, h2], fun i x hx => by
      have := (List.getElem?_eq_some_iff.1 hx).1
      omega⟩
  · refine ⟨some ⟨g, 0, none⟩, cap, h1, fun i x hx => ⟨g, 0, rfl, heap_lt hb, ?_⟩⟩
    have := hcs g (by rw [h1]; rfl) i (.int .i64 x) (by simp [intCells, hx])
    rw [addr_add] at this
    rw [Nat.zero_add]
    exact this
theorem OwnI.form {w : World} {base : Nat} {v : Value} {l : List Int} (h : OwnI w base v l) : ∃ a n c, v = .slice a n c ∧ Hid (n = l.length) := by
  obtain ⟨a, c, e⟩ := row_any h
  exact ⟨a, _, c, e, Lib.hid rfl⟩

theorem Byts.at2 {w : World} {a : Option Addr} {n cap : Nat} {l : List UInt8} (h : Byts w (.slice a n cap) l) {i : Nat} {x : UInt8} (hi : l[i]? = some x) :
    ∃ b off, a = some ⟨b, off, none⟩ ∧ b < w.heap.size ∧ w.cell? ⟨b, off + i, none⟩ = some (.int .u8 x.toNat) := by
  obtain ⟨a', c', e, _, _, h2⟩ := h
  simp only [Value.slice.injEq] at e
  obtain ⟨rfl, rfl, rfl⟩ := e
  exact h2 i x hi

/-- The statement's world: the file system, two lists of ints. -/
structure RW (base B : Nat) (st : Fs.St) (V : FsV) (own : Nat → Tag) (segs : List Sg.Seg) (ids wants : List Int) (v7 v8 : Value) (wr : World) : Prop where
  ok : FsOK base B st V own wr
  rep : Sg.RepS st segs
  room : st.room = 30000
  chg : st.changes = []
  r7 : OwnI wr base v7 ids
  r8 : OwnI wr base v8 wants
  t7 : ∀ g, v7.ownBlock = some g → own g = .other
  t8 : ∀ g, v8.ownBlock = some g → own g = .other
  ne : ∀ g, v7.ownBlock = some g → v8.ownBlock ≠ some g
  base : base ≤ wr.heap.size
section
variable {base B : Nat} {st : Fs.St} {V : FsV} {own : Nat → Tag} {segs : List Sg.Seg} {ids wants : List Int} {v7 v8 : Value} {wr w' : World}
theorem RW.below (h : RW base B st V own segs ids wants v7 v8 wr) (hb : Below wr.heap.size wr w') : RW base B st V own segs ids wants v7 v8 w' :=
  ⟨h.ok.kept (kept_below hb), h.rep, h.room, h.chg, row_kept h.r7 (fun g hg => hb.block g (h.r7.lt g hg).2), row_kept h.r8 (fun g hg => hb.block g (h.r8.lt g hg).2), h.t7, h.t8, h.ne, Nat.le_trans h.base hb.size⟩
theorem RW.op (h : RW base B st V own segs ids wants v7 v8 wr) {st' : Fs.St} {segs' : List Sg.Seg} (hp : OpPost base B st' own wr w') (hr : Sg.RepS st' segs') (hroom : st'.room = 30000) (hchg : st'.changes = []) :
    ∃ V' own', RW base B st' V' own' segs' ids wants v7 v8 w' := by
  obtain ⟨V', own', hok, ho, hk⟩ := hp
  refine ⟨V', own', hok, hr, hroom, hchg, row_kept h.r7 (fun g hg => ?_), row_kept h.r8 (fun g hg => ?_), fun g hg => ?_, fun g hg => ?_, h.ne, Nat.le_trans h.base hk.size⟩
  · exact hk.block g (h.r7.lt g hg).2 (by rw [h.t7 g hg]; simp)
  · exact hk.block g (h.r8.lt g hg).2 (by rw [h.t8 g hg]; simp)
  · rw [ho g (h.r7.lt g hg).2]; exact h.t7 g hg
  · rw [ho g (h.r8.lt g hg).2]; exact h.t8 g hg
theorem RW.low (h : RW base B st V own segs ids wants v7 v8 wr) {st' : Fs.St} (hp : OpPost base B st' own wr w') : Below base wr w' := hp.below0 h.ok h.base
theorem RW.more7 (h : RW base B st V own segs ids wants v7 v8 wr) {x : Int} {v7' : Value} (hrow : w'.ownsRow base 3 1 v7' (ids.length + 1) (intCells ids ++ [.int .i64 x])) (hg : wr.grownBy w' v7.ownBlock)
    (hloc : v7'.ownBlock = v7.ownBlock ∨ v7'.ownBlock = some wr.heap.size) : RW base B st V own segs (ids ++ [x]) wants v7' v8 w' := by
  have hk : Kept own (· = .other) wr w' := (Kept.refl _ _ _).grown hg (fun k hk => .inl (h.t7 k hk))
  refine ⟨h.ok.kept hk, h.rep, h.room, h.chg, ?_, row_kept h.r8 (fun g hg2 => hg.block g (h.r8.lt g hg2).2 (fun e => h.ne g e.symm hg2)), fun g hg2 => ?_, h.t8, fun g hg2 => ?_, Nat.le_trans h.base hg.size⟩
  · unfold OwnI
    rw [List.length_append]
    have : intCells (ids ++ [x]) = intCells ids ++ [.int .i64 x] := by simp [intCells]
    rw [this]
    exact hrow
  · rcases hloc with e | e
    · exact h.t7 g (by rw [← e]; exact hg2)
    · rw [e] at hg2
      simp only [Option.some.injEq] at hg2
      exact h.ok.fresh g (by omega)
  · rcases hloc with e | e
    · exact h.ne g (by rw [← e]; exact hg2)
    · rw [e] at hg2
      simp only [Option.some.injEq] at hg2
      intro e2
      have := (h.r8.lt g e2).2
      omega
theorem RW.more8 (h : RW base B st V own segs ids wants v7 v8 wr) {x : Int} {v8' : Value} (hrow : w'.ownsRow base 3 1 v8' (wants.length + 1) (intCells wants ++ [.int .i64 x])) (hg : wr.grownBy w' v8.ownBlock)
    (hloc : v8'.ownBlock = v8.ownBlock ∨ v8'.ownBlock = some wr.heap.size) : RW base B st V own segs ids (wants ++ [x]) v7 v8' w' := by
  have hk : Kept own (· = .other) wr w' := (Kept.refl _ _ _).grown hg (fun k hk => .inl (h.t8 k hk))
  refine ⟨h.ok.kept hk, h.rep, h.room, h.chg, row_kept h.r7 (fun g hg2 => hg.block g (h.r7.lt g hg2).2 (fun e => h.ne g hg2 e.symm)), ?_, h.t7, fun g hg2 => ?_, fun g hg2 e2 => ?_, Nat.le_trans h.base hg.size⟩
  · unfold OwnI
    rw [List.length_append]
    have : intCells (wants ++ [x]) = intCells wants ++ [.int .i64 x] := by simp [intCells]
    rw [this]
    exact hrow
  · rcases hloc with e | e
    · exact h.t8 g (by rw [← e]; exact hg2)
    · rw [e] at hg2
      simp only [Option.some.injEq] at hg2
      exact h.ok.fresh g (by omega)
  · rcases hloc with e | e
    · exact h.ne g hg2 (by rw [← e]; exact e2)
    · rw [e] at e2
      simp only [Option.some.injEq] at e2
      have := (h.r7.lt g hg2).2
      omega
end
theorem below_grown3 {base B : Nat} {w wr w5 : World} {k n : Nat} {t : TypeId} {v : Value} {cs : List Value} (hb : Below B w wr) (hB : B ≤ base) (hbase : base ≤ wr.heap.size) (ho : wr.ownsRow base t k v n cs) (hg : wr.grownBy w5 v.ownBlock) : Below B w w5 := by
  refine ⟨hg.os.trans hb.os, hg.tape.trans hb.tape, hg.output.trans hb.output, Nat.le_trans hb.size hg.size, fun j hj => ?_⟩
  rw [← hb.block j hj]
  exact hg.block j (by omega) (fun e => by
    have := (ho.lt j e.symm).1
    omega)
end Go.Proofs.YtcimobbppmpmgaaDoor
