/-
  Frames: four bytes and their number, walked.
-/
import Derived.Test.YtcimobbppmpmgaaDoorFr2
import Derived.Laws.AppendOwnNone
namespace Go.Proofs.YtcimobbppmpmgaaDoor
set_option linter.unusedSimpArgs false
set_option linter.unusedVariables false
open Go Go.RowKit
open Go.Maps Go.WideMaps

namespace Fr
def byte (n : Int) : UInt8 := UInt8.ofNat (n % 256).toNat
theorem byte_val (n : Int) : ((byte n).toNat : Int) = n % 256 := by
  unfold byte
  rw [UInt8.toNat_ofNat_of_lt' (by show _ < 256; omega)]
  omega
def four (n : Int) : List UInt8 := [byte n, byte (n / 256), byte (n / 65536), byte (n / 16777216)]
def num (l : List UInt8) : Nat := (l.getD 0 0).toNat + 256 * (l.getD 1 0).toNat + 65536 * (l.getD 2 0).toNat + 16777216 * (l.getD 3 0).toNat
theorem num_four (n : Int) (h0 : 0 ≤ n) (h1 : n < 4294967296) (r : List UInt8) : (num (four n ++ r) : Int) = n := by
  have e0 := byte_val n
  have e1 := byte_val (n / 256)
  have e2 := byte_val (n / 65536)
  have e3 := byte_val (n / 16777216)
  unfold num four
  simp only [List.cons_append, List.getD_cons_zero, List.getD_cons_succ]
  omega
end Fr
theorem or32 (k a b : Nat) (hk : k ≤ 32) (ha : a < 2 ^ k) (hb : 2 ^ k * b < 4294967296) : bits .or .u32 (a : Int) ((2 ^ k * b : Nat) : Int) = ((a + 2 ^ k * b : Nat) : Int) := by
  have h1 : 2 ^ k ≤ 2 ^ 32 := Nat.pow_le_pow_right (by omega) hk
  rw [u32_or_nat a _ (by omega) hb, Nat.or_comm, ← Nat.two_pow_add_eq_or_of_lt ha, Nat.add_comm]
theorem OwnB.byts {w : World} {base : Nat} {v : Value} {l : List UInt8} (h : OwnB w base v l) : Byts w v l := by
  have hcs := fun g hg => World.ownsRow.cells (g := g) h hg
  rcases h.2 with ⟨h1, h2⟩ | ⟨g, cap, cur, h1, hg, hb, hc, hm, _, _⟩
  · exact ⟨none, 0, by rw [h1, h2], by omega, fun _ => rfl, fun i x hx => by
      have := (List.getElem?_eq_some_iff.1 hx).1
      omega⟩
  · refine ⟨some ⟨g, 0, none⟩, cap, h1, hc, (fun e => by cases e), fun i x hx => ⟨g, 0, rfl, heap_lt hb, ?_⟩⟩
    have := hcs g (by rw [h1]; rfl) i (.int .u8 x.toNat) (by simp [u8Cells, hx])
    rw [addr_add] at this
    rw [Nat.zero_add]
    exact this
/-- Appending bytes, wherever they lie, onto bytes of one's own. -/
theorem wpList_append_byts {ops : Array Oper} {rest : List Oper} {o : Oper} {a : Act} {w : World} {Q : Exit → Act → World → Prop} (hgd : o.guard = none) (s x : Operand)
    (ho : o.op = .call { callee := .builtin .append, args := #[s, x], argTypes := #[32, 32] })
    (base : Nat) (v : Value) (l : List UInt8) (hs : a.eval s = v) (hown : OwnB w base v l) (xv : Value) (news : List UInt8) (hx : a.eval x = xv) (hB : Byts w xv news)
    (h63 : l.length + news.length ≤ 1000000000) (hbase : base ≤ w.heap.size)
    (h : ∀ v' w', OwnB w' base v' (l ++ news) → w.grownBy w' v.ownBlock → (v'.ownBlock = v.ownBlock ∨ v'.ownBlock = some w.heap.size) → wpList Tryd.prog ops Q rest (a.put o.dst v') w') :
    wpList Tryd.prog ops Q (o :: rest) a w := by
  obtain ⟨i0, hi, hz0, hz1, hz2⟩ := info_parts infoB
  obtain ⟨xa, xc, rfl, hxc, hxn⟩ := hB.form2
  have hcells : u8Cells (l ++ news) = u8Cells l ++ u8Cells news := by simp [u8Cells]
  cases xa with
  | none =>
    have h0 : news.length = 0 := by have := hxn rfl; omega
    have hnil := List.length_eq_zero_iff.1 h0
    subst hnil
    rw [hxn rfl] at hx
    refine wpList_append_own_none hgd s x _ ho base 5 i0 1 Tryd.underlying32 hi v _ _ hs hown hx ?_
    exact h v w (by rw [List.append_nil]; exact hown) ⟨rfl, rfl, rfl, Nat.le_refl _, fun _ _ _ => rfl⟩ (.inl rfl)
  | some ad =>
    refine wpList_append_own_at w hgd s x _ ho base 5 i0 (.int .u8 0) 1 1 Tryd.underlying32 hi hz0 hz1 hz2 rfl (by decide) v l.length (u8Cells l) hs hown ad news.length xc (u8Cells news) hx (by rw [u8Cells_len]; omega) ?_ (u8Cells_one news) (by unfold maxLen; omega) (by omega) hbase ?_
    · intro j u hj
      unfold u8Cells at hj
      rw [List.getElem?_map] at hj
      cases hx2 : news[j]? with
      | none => rw [hx2] at hj; cases hj
      | some y =>
        rw [hx2] at hj
        simp at hj
        obtain ⟨b, off, e1, e2, e3⟩ := hB.at hx2
        cases e1
        rw [addrAdd, ← hj]
        exact e3
    · intro v' w' h1 h2 _ h4
      exact h v' w' (by unfold OwnB; rw [List.length_append, hcells]; exact h1) h2 h4
set_option maxHeartbeats 1000000 in
set_option maxRecDepth 100000 in
theorem four_any (n : Int) (w : World) :
    Calls Tryd.prog 45 #[.int .u32 n] w fun e w' => ∃ v, e = .returned v ∧ OwnB w' w.heap.size v (Fr.four n) ∧ Below w.heap.size w w' := by
  go_enter Tryd.func45, Tryd.ntmps45
  go_wp2
  go_ret
  refine ⟨_, rfl, ?_, (Below.refl _ _).alloc (Nat.le_refl _) _⟩
  have h := World.ownsRow_lit (base := w.heap.size) (e := 5) (size := 1) w #[.int .u8 (n % 256), .int .u8 (n / 256 % 256), .int .u8 (n / 65536 % 256), .int .u8 (n / 16777216 % 256)] 4 (Nat.le_refl _) (by unfold maxLen; omega) rfl
  have hc : u8Cells (Fr.four n) = [.int .u8 (n % 256), .int .u8 (n / 256 % 256), .int .u8 (n / 65536 % 256), .int .u8 (n / 16777216 % 256)] := by
    simp [u8Cells, Fr.four, Fr.byte_val]
  unfold OwnB
  rw [hc]
  exact h
set_option maxHeartbeats 1000000 in
set_option maxRecDepth 100000 in
theorem number_any (v : Value) (l : List UInt8) (w : World) (hV : Byts w v l) (hl : 4 ≤ l.length) (hl2 : l.length ≤ 1000000000) :
    Calls Tryd.prog 47 #[v] w fun e w' => e = .returned (.int .u32 (Fr.num l)) ∧ ∃ n, w' = w.drewN n := by
  obtain ⟨va, vc, rfl, hc⟩ := hV.form
  obtain ⟨x0, h0⟩ : ∃ x, l[0]? = some x := ⟨_, List.getElem?_eq_getElem (by omega)⟩
  obtain ⟨x1, h1⟩ : ∃ x, l[1]? = some x := ⟨_, List.getElem?_eq_getElem (by omega)⟩
  obtain ⟨x2, h2⟩ : ∃ x, l[2]? = some x := ⟨_, List.getElem?_eq_getElem (by omega)⟩
  obtain ⟨x3, h3⟩ : ∃ x, l[3]? = some x := ⟨_, List.getElem?_eq_getElem (by omega)⟩
  obtain ⟨g, o, rfl, hg, c0⟩ := hV.at h0
  obtain ⟨_, _, e1, _, c1⟩ := hV.at h1
  cases e1
  obtain ⟨_, _, e1, _, c2⟩ := hV.at h2
  cases e1
  obtain ⟨_, _, e1, _, c3⟩ := hV.at h3
  cases e1
  have HN : Hid (Fr.num l = x0.toNat + 256 * x1.toNat + 65536 * x2.toNat + 16777216 * x3.toNat) := by
    refine Lib.hid ?_
    unfold Fr.num
    simp only [List.getD_eq_getElem?_getD, h0, h1, h2, h3, Option.getD_some]
  have b0 : x0.toNat < 256 := UInt8.toNat_lt _
  have b1 : x1.toNat < 256 := UInt8.toNat_lt _
  have b2 : x2.toNat < 256 := UInt8.toNat_lt _
  have b3 : x3.toNat < 256 := UInt8.toNat_lt _
  clear h0 h1 h2 h3 hV
  rw [Nat.add_zero] at c0
  have hl4 : (4 : Int) ≤ (l.length : Int) := by omega
  go_enter Tryd.func47, Tryd.ntmps47
  go_wp2_with fail
  refine wp_region_cuts [] (by kernel_rfl) (by kernel_rfl) ?_; simp only [wpMix, List.take_succ_cons, List.take_zero, List.drop_succ_cons, List.drop_zero, Nat.sub_zero, Nat.reduceSub, Nat.reduceAdd]
  repeat (go_big_quiet_step (fail))
  refine wpQuiet_nil ?_; rintro _ ⟨nq, rfl⟩
  go_wp2_with fail
  go_ret
  refine ⟨congrArg (fun x => Ending.returned (.int .u32 x)) ?_, nq, rfl⟩
  rw [HN.out, show (x1.toNat : Int) * 256 = ((2 ^ 8 * x1.toNat : Nat) : Int) by omega, or32 8 _ _ (by omega) (by omega) (by omega), show (x2.toNat : Int) * 65536 = ((2 ^ 16 * x2.toNat : Nat) : Int) by omega, or32 16 _ _ (by omega) (by omega) (by omega), show (x3.toNat : Int) * 16777216 = ((2 ^ 24 * x3.toNat : Nat) : Int) by omega, or32 24 _ _ (by omega) (by omega) (by omega)]
end Go.Proofs.YtcimobbppmpmgaaDoor
