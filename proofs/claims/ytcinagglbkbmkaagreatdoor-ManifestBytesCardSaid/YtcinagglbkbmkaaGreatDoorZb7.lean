/-
  Frames: four bytes and their number, walked. Frames: slices.Grow and slices.Concat of bytes. Frames: Encode, walked. Frames: Decode, walked. Frames: Scan, walked. Bytes that came in. Segments: names; what the library's variables hold. Segments: the document's names and ids.
-/
import Derived.Test.YtcinagglbkbmkaaGreatDoorZb6
import Derived.Laws.AppendOwnNone
import Derived.Shelf.Spec.SlicesGrow
import Derived.Test.YtcinagglbkbmkaaGreatDoorZb2
import Derived.Deep.RegionHeld3
import Derived.ChangeSlices
import Derived.WalkKit
import Derived.ProofKit
import Derived.OpenShut
import Derived.Lib.ItoaMem
import Derived.Lib.ItoaLen
import Derived.Lib.AppendIntMem
import Derived.Lib.SmallJoins
import Derived.WalkSmall
import Derived.Laws.IdiomStrings
import Derived.Laws.BytesArg
namespace Go.Proofs.YtcinagglbkbmkaaGreatDoor
set_option linter.unusedSimpArgs false
set_option linter.unusedVariables false
open Go Go.RowKit
open Go.Maps Go.WideMaps

namespace Fr
def byte (n : Int) : UInt8 := UInt8.ofNat (n % 256).toNat
theorem byte_val (n : Int) : ((byte n).toNat : Int) = n % 256 := by
  unfold byte
  rw [UInt8.toNat_ofNat_of_lt' (by show _ < 256; omega)]
  omega
def four (n : Int) : List UInt8 := [byte n, byte (n / 256), byte (n / 65536), byte (n / 16777216)]
def num (l : List UInt8) : Nat := (l.getD 0 0).toNat + 256 * (l.getD 1 0).toNat + 65536 * (l.getD 2 0).toNat + 16777216 * (l.getD 3 0).toNat
theorem num_four (n : Int) (h0 : 0 ≤ n) (h1 : n < 4294967296) (r : List UInt8) : (num (four n ++ r) : Int) = n := by
  have e0 := byte_val n
  have e1 := byte_val (n / 256)
  have e2 := byte_val (n / 65536)
  have e3 := byte_val (n / 16777216)
  unfold num four
  simp only [List.cons_append, List.getD_cons_zero, List.getD_cons_succ]
  omega
end Fr
theorem or32 (k a b : Nat) (hk : k ≤ 32) (ha : a < 2 ^ k) (hb : 2 ^ k * b < 4294967296) : bits .or .u32 (a : Int) ((2 ^ k * b : Nat) : Int) = ((a + 2 ^ k * b : Nat) : Int) := by
  have h1 : 2 ^ k ≤ 2 ^ 32 := Nat.pow_le_pow_right (by omega) hk
  rw [u32_or_nat a _ (by omega) hb, Nat.or_comm, ← Nat.two_pow_add_eq_or_of_lt ha, Nat.add_comm]
theorem OwnB.byts {w : World} {base : Nat} {v : Value} {l : List UInt8} (h : OwnB w base v l) : Byts w v l := by
  have hcs := fun g hg => World.ownsRow.cells (g := g) h hg
  rcases h.2 with ⟨h1, h2⟩ | ⟨g, cap, cur, h1, hg, hb, hc, hm, _, _⟩
  · exact ⟨none, 0, by rw [h1, h2], by omega, fun _ => rfl, fun i x hx => by
      have := (List.getElem?_eq_some_iff.1 hx).1
      omega⟩
  · refine ⟨some ⟨g, 0, none⟩, cap, h1, hc, (fun e => by cases e), fun i x hx => ⟨g, 0, rfl, heap_lt hb, ?_⟩⟩
    have := hcs g (by rw [h1]; rfl) i (.int .u8 x.toNat) (by simp [u8Cells, hx])
    rw [addr_add] at this
    rw [Nat.zero_add]
    exact this
/-- Appending bytes, wherever they lie, onto bytes of one's own. -/
theorem wpList_append_byts {ops : Array Oper} {rest : List Oper} {o : Oper} {a : Act} {w : World} {Q : Exit → Act → World → Prop} (hgd : o.guard = none) (s x : Operand)
    (ho : o.op = .call { callee := .builtin .append, args := #[s, x], argTypes := #[25, 25] })
    (base : Nat) (v : Value) (l : List UInt8) (hs : a.eval s = v) (hown : OwnB w base v l) (xv : Value) (news : List UInt8) (hx : a.eval x = xv) (hB : Byts w xv news)
    (h63 : l.length + news.length ≤ 1000000000) (hbase : base ≤ w.heap.size)
    (h : ∀ v' w', OwnB w' base v' (l ++ news) → w.grownBy w' v.ownBlock → (v'.ownBlock = v.ownBlock ∨ v'.ownBlock = some w.heap.size) → wpList Tryz.prog ops Q rest (a.put o.dst v') w') :
    wpList Tryz.prog ops Q (o :: rest) a w := by
  obtain ⟨i0, hi, hz0, hz1, hz2⟩ := info_parts infoB
  obtain ⟨xa, xc, rfl, hxc, hxn⟩ := hB.form2
  have hcells : u8Cells (l ++ news) = u8Cells l ++ u8Cells news := by simp [u8Cells]
  cases xa with
  | none =>
    have h0 : news.length = 0 := by have := hxn rfl; omega
    have hnil := List.length_eq_zero_iff.1 h0
    subst hnil
    rw [hxn rfl] at hx
    refine wpList_append_own_none hgd s x _ ho base 5 i0 1 Tryz.underlying25 hi v _ _ hs hown hx ?_
    exact h v w (by rw [List.append_nil]; exact hown) ⟨rfl, rfl, rfl, Nat.le_refl _, fun _ _ _ => rfl⟩ (.inl rfl)
  | some ad =>
    refine wpList_append_own_at w hgd s x _ ho base 5 i0 (.int .u8 0) 1 1 Tryz.underlying25 hi hz0 hz1 hz2 rfl (by decide) v l.length (u8Cells l) hs hown ad news.length xc (u8Cells news) hx (by rw [u8Cells_len]; omega) ?_ (u8Cells_one news) (by unfold maxLen; omega) (by omega) hbase ?_
    · intro j u hj
      unfold u8Cells at hj
      rw [List.getElem?_map] at hj
      cases hx2 : news[j]? with
      | none => rw [hx2] at hj; cases hj
      | some y =>
        rw [hx2] at hj
        simp at hj
        obtain ⟨b, off, e1, e2, e3⟩ := hB.at hx2
        cases e1
        rw [addrAdd, ← hj]
        exact e3
    · intro v' w' h1 h2 _ h4
      exact h v' w' (by unfold OwnB; rw [List.length_append, hcells]; exact h1) h2 h4
set_option maxHeartbeats 1000000 in
set_option maxRecDepth 100000 in
theorem four_any (n : Int) (w : World) :
    Calls Tryz.prog 121 #[.int .u32 n] w fun e w' => ∃ v, e = .returned v ∧ OwnB w' w.heap.size v (Fr.four n) ∧ Below w.heap.size w w' := by
  go_enter Tryz.func121, Tryz.ntmps121
  go_wp2
  go_ret
  refine ⟨_, rfl, ?_, (Below.refl _ _).alloc (Nat.le_refl _) _⟩
  have h := World.ownsRow_lit (base := w.heap.size) (e := 5) (size := 1) w #[.int .u8 (n % 256), .int .u8 (n / 256 % 256), .int .u8 (n / 65536 % 256), .int .u8 (n / 16777216 % 256)] 4 (Nat.le_refl _) (by unfold maxLen; omega) rfl
  have hc : u8Cells (Fr.four n) = [.int .u8 (n % 256), .int .u8 (n / 256 % 256), .int .u8 (n / 65536 % 256), .int .u8 (n / 16777216 % 256)] := by
    simp [u8Cells, Fr.four, Fr.byte_val]
  unfold OwnB
  rw [hc]
  exact h
set_option maxHeartbeats 1000000 in
set_option maxRecDepth 100000 in
theorem number_any (v : Value) (l : List UInt8) (w : World) (hV : Byts w v l) (hl : 4 ≤ l.length) (hl2 : l.length ≤ 1000000000) :
    Calls Tryz.prog 123 #[v] w fun e w' => e = .returned (.int .u32 (Fr.num l)) ∧ ∃ n, w' = w.drewN n := by
  obtain ⟨va, vc, rfl, hc⟩ := hV.form
  obtain ⟨x0, h0⟩ : ∃ x, l[0]? = some x := ⟨_, List.getElem?_eq_getElem (by omega)⟩
  obtain ⟨x1, h1⟩ : ∃ x, l[1]? = some x := ⟨_, List.getElem?_eq_getElem (by omega)⟩
  obtain ⟨x2, h2⟩ : ∃ x, l[2]? = some x := ⟨_, List.getElem?_eq_getElem (by omega)⟩
  obtain ⟨x3, h3⟩ : ∃ x, l[3]? = some x := ⟨_, List.getElem?_eq_getElem (by omega)⟩
  obtain ⟨g, o, rfl, hg, c0⟩ := hV.at h0
  obtain ⟨_, _, e1, _, c1⟩ := hV.at h1
  cases e1
  obtain ⟨_, _, e1, _, c2⟩ := hV.at h2
  cases e1
  obtain ⟨_, _, e1, _, c3⟩ := hV.at h3
  cases e1
  have HN : Hid (Fr.num l = x0.toNat + 256 * x1.toNat + 65536 * x2.toNat + 16777216 * x3.toNat) := by
    refine Lib.hid ?_
    unfold Fr.num
    simp only [List.getD_eq_getElem?_getD, h0, h1, h2, h3, Option.getD_some]
  have b0 : x0.toNat < 256 := UInt8.toNat_lt _
  have b1 : x1.toNat < 256 := UInt8.toNat_lt _
  have b2 : x2.toNat < 256 := UInt8.toNat_lt _
  have b3 : x3.toNat < 256 := UInt8.toNat_lt _
  clear h0 h1 h2 h3 hV
  rw [Nat.add_zero] at c0
  have hl4 : (4 : Int) ≤ (l.length : Int) := by omega
  go_enter Tryz.func123, Tryz.ntmps123
  go_wp2_with fail
  refine wp_region_cuts [] (by kernel_rfl) (by kernel_rfl) ?_; simp only [wpMix, List.take_succ_cons, List.take_zero, List.drop_succ_cons, List.drop_zero, Nat.sub_zero, Nat.reduceSub, Nat.reduceAdd]
  repeat (go_big_quiet_step (fail))
  refine wpQuiet_nil ?_; rintro _ ⟨nq, rfl⟩
  go_wp2_with fail
  go_ret
  refine ⟨congrArg (fun x => Ending.returned (.int .u32 x)) ?_, nq, rfl⟩
  rw [HN.out, show (x1.toNat : Int) * 256 = ((2 ^ 8 * x1.toNat : Nat) : Int) by omega, or32 8 _ _ (by omega) (by omega) (by omega), show (x2.toNat : Int) * 65536 = ((2 ^ 16 * x2.toNat : Nat) : Int) by omega, or32 16 _ _ (by omega) (by omega) (by omega), show (x3.toNat : Int) * 16777216 = ((2 ^ 24 * x3.toNat : Nat) : Int) by omega, or32 24 _ _ (by omega) (by omega) (by omega)]
end Go.Proofs.YtcinagglbkbmkaaGreatDoor
namespace Go.Proofs.YtcinagglbkbmkaaGreatDoor
set_option linter.unusedSimpArgs false
set_option linter.unusedVariables false
open Go Go.RowKit
open Go.Maps Go.WideMaps

def growB_ren : Go.Shelf.Ren := ⟨fun | 4 => 154 | n => n, fun | 0 => 0 | 3 => 3 | 4 => 4 | 9 => 9 | 20 => 20 | 22 => 25 | 25 => 5 | n => n, fun | n => n⟩
theorem growB_lays : Go.Proofs.Lays8.n4 Tryz.prog growB_ren := {
  mixed := by kernel_rfl
  f4 := ⟨Tryz.f154.name, by decide, Tryz.func154.trans (congrArg some (by kernel_rfl))⟩
  t0 := Tryz.underlying0
  a0 := Tryz.isAgg0
  z0 := Tryz.sizeOf0
  v0 := Tryz.zeroValue0
  t3 := Tryz.underlying3
  a3 := Tryz.isAgg3
  z3 := Tryz.sizeOf3
  v3 := Tryz.zeroValue3
  t4 := Tryz.underlying4
  a4 := Tryz.isAgg4
  z4 := Tryz.sizeOf4
  v4 := Tryz.zeroValue4
  t9 := Tryz.underlying9
  a9 := Tryz.isAgg9
  z9 := Tryz.sizeOf9
  v9 := Tryz.zeroValue9
  t20 := Tryz.underlying20
  a20 := Tryz.isAgg20
  z20 := Tryz.sizeOf20
  v20 := Tryz.zeroValue20
  t22 := Tryz.underlying25
  a22 := Tryz.isAgg25
  z22 := Tryz.sizeOf25
  v22 := Tryz.zeroValue25 }

theorem grow_any (n : Nat) (w : World) (hn : n ≤ 1000000000) :
    Calls Tryz.prog 154 #[.slice none 0 0, .int .i64 n] w fun e w' => ∃ v, e = .returned v ∧ OwnB w' w.heap.size v [] ∧ Below w.heap.size w w' := by
  obtain ⟨i0, hi, hz0, hz1, hz2⟩ := info_parts infoB
  by_cases h0 : n = 0
  · subst h0
    refine (Any8.slices_Grow_room growB_lays none 0 0 0 w (by omega) (by omega) (by omega) (by omega)).mono ?_
    rintro e w' ⟨rfl, rfl⟩
    exact ⟨_, rfl, World.ownsRow_nil _ _ _ _, Below.refl _ _⟩
  · refine (Any8.slices_Grow_grow growB_lays i0 (.int .u8 0) hi hz0 (by rw [hz1]; omega) none 0 0 n [] w (by omega) (by omega) (by rw [hz2]; omega) (by omega) (by simp) (fun _ => rfl) (fun a h => by cases h)).mono ?_
    rintro e w' ⟨rfl, rfl⟩
    refine ⟨_, rfl, ?_, ⟨rfl, rfl, rfl, by simp, fun k hk => Below.heap_alloc w.drew _ _ hk⟩⟩
    have hcap := grownCap_le_maxLen w (0 + n) 0 (growB_ren.t 25) (by unfold maxLen; omega)
    have hge := grownCap_ge w (0 + n) 0 (growB_ren.t 25)
    refine ⟨rfl, .inr ⟨w.heap.size, _, _, rfl, Nat.le_refl _, heap_new w.drew _, Nat.zero_le _, hcap, ?_, ?_⟩⟩
    · rw [Nat.zero_add] at hge
      simp [Builtin.zeroCells, Value.cells]
      omega
    · rfl

theorem below_grown {w wr w5 : World} {base k n : Nat} {t : TypeId} {v : Value} {cs : List Value} (hb : Below base w wr) (hbase : base ≤ wr.heap.size) (ho : wr.ownsRow base t k v n cs) (hg : wr.grownBy w5 v.ownBlock) : Below base w w5 := by
  refine ⟨hg.os.trans hb.os, hg.tape.trans hb.tape, hg.output.trans hb.output, Nat.le_trans hb.size hg.size, fun j hj => ?_⟩
  rw [← hb.block j hj]
  exact hg.block j (by omega) (fun e => by
    have := (ho.lt j e.symm).1
    omega)
set_option maxHeartbeats 1000000 in
set_option maxRecDepth 100000 in
theorem concat_any (v : Value) (ls : List (List UInt8)) (w : World) (hV : Prts w v ls) (hl : ls.length ≤ 1000000000) (hs : ls.flatten.length ≤ 1000000000) :
    Calls Tryz.prog 120 #[v] w fun e w' => ∃ v', e = .returned v' ∧ OwnB w' w.heap.size v' ls.flatten ∧ Below w.heap.size w w' := by
  obtain ⟨i0, hi, hz0, hz1, hz2⟩ := info_parts infoB
  obtain ⟨va, vc, rfl⟩ := hV.form
  have HV := Lib.hid hV
  clear hV
  go_enter Tryz.func120, Tryz.ntmps120
  go_wp2_with fail
  go_loopg [3, 11] ls.length (fun k s3 s11 wr => ∃ j : Nat, j ≤ ls.length ∧ k = ls.length - j ∧ s11 = .int .i64 (j : Nat) ∧ (∃ M : Nat, s3 = .int .i64 (M : Nat) ∧ M = (ls.take j).flatten.length) ∧ wr = w)
  case atStart => exact ⟨0, Nat.zero_le _, rfl, rfl, ⟨0, rfl, rfl⟩, rfl⟩
  case round =>
    obtain ⟨j, hj, hk, rfl, ⟨M, rfl, hM⟩, hwr⟩ := hrel
    subst wr
    have HK := Lib.hid hk
    have HM := Lib.hid hM
    clear hk hM
    have hj0 : (0 : Int) ≤ (j : Int) := Int.natCast_nonneg _
    by_cases hjn : j < ls.length
    · have hjn1 : (j : Int) < (ls.length : Int) := by omega
      obtain ⟨l, hlj⟩ : ∃ l, ls[j]? = some l := ⟨_, List.getElem?_eq_getElem hjn⟩
      obtain ⟨g, o, lv, rfl, hg, hgc, hB⟩ := HV.out.at hlj
      obtain ⟨la, lc, rfl, _⟩ := hB.form
      have hft : (ls.take (j + 1)).flatten.length = (ls.take j).flatten.length + l.length := by rw [flat_take ls j l hlj, List.length_append]
      have hle : (ls.take (j + 1)).flatten.length ≤ ls.flatten.length := by
        have := congrArg (fun x : List (List UInt8) => x.flatten.length) (List.take_append_drop (j + 1) ls)
        simp only [List.flatten_append, List.length_append] at this
        omega
      have hsum0 : (0 : Int) ≤ (M : Int) := Int.natCast_nonneg _
      have hsum : (M : Int) + (l.length : Int) ≤ 1000000000 := by rw [HM.out]; omega
      have hsum2 : (0 : Int) ≤ (M : Int) + (l.length : Int) := by omega
      have HFT := Lib.hid hft
      clear hft hle hlj
      go_wp2_with fail
      go_roundg (ls.length - (j + 1))
      case measure => rw [HK.out]; omega
      case rel => exact ⟨j + 1, by omega, rfl, by simp, ⟨M + l.length, by simp, by rw [HFT.out, HM.out]⟩, rfl⟩
    · have hjn1 : (ls.length : Int) ≤ (j : Int) := by omega
      have HE : Hid (ls.take j = ls) := Lib.hid (List.take_of_length_le (by omega))
      have hM2 : M ≤ 1000000000 := by rw [HM.out, HE.out]; exact hs
      go_wp2_with fail
      refine (grow_any M w hM2).mono ?_
      rintro e w1 ⟨v1, rfl, ho1, hb1⟩
      have HO1 := Lib.hid ho1
      clear ho1
      go_wp2_with fail
      go_loopg [6, 27] ls.length (fun k s6 s27 wq => ∃ i : Nat, i ≤ ls.length ∧ k = ls.length - i ∧ s27 = .int .i64 (i : Nat) ∧ OwnB wq w.heap.size s6 (ls.take i).flatten ∧ Below w.heap.size w wq)
      case atStart => exact ⟨0, Nat.zero_le _, rfl, rfl, HO1.out, hb1⟩
      case round =>
        obtain ⟨i, hi2, hk, rfl, ho, hbq⟩ := hrel
        have HK2 := Lib.hid hk
        clear hk
        have hi0 : (0 : Int) ≤ (i : Int) := Int.natCast_nonneg _
        by_cases hin : i < ls.length
        · have hin1 : (i : Int) < (ls.length : Int) := by omega
          obtain ⟨l, hli⟩ : ∃ l, ls[i]? = some l := ⟨_, List.getElem?_eq_getElem hin⟩
          obtain ⟨g, o, lv, rfl, hg, hgc, hB⟩ := HV.out.at hli
          have hgc2 : wr.cell? ⟨g, o + i, none⟩ = some lv := by rw [World.cell?_of_block (hbq.block g hg)]; exact hgc
          have HB := Lib.hid (hB.keep hbq.size hbq.block)
          have HFT := Lib.hid (flat_take ls i l hli)
          have hle : (ls.take i).flatten.length + l.length ≤ 1000000000 := by
            have h1 := congrArg (fun x : List (List UInt8) => x.flatten.length) (List.take_append_drop (i + 1) ls)
            simp only [List.flatten_append, List.length_append, HFT.out] at h1
            omega
          have HLE := Lib.hid hle
          have HO := Lib.hid ho
          have hbs := hbq.size
          clear hB hle ho hgc hli
          go_wp2_with (first | (at_builtin; refine wpList_append_byts rfl _ _ rfl w.heap.size u6 _ rfl HO.out lv l rfl HB.out HLE.out hbs ?_; intro d' w5 hown5 hgrow5 hloc5; have HOWN := Lib.hid hown5; have HGR := Lib.hid hgrow5; clear hown5 hgrow5 hloc5) | fail)
          go_roundg (ls.length - (i + 1))
          case measure => rw [HK2.out]; omega
          case rel => exact ⟨i + 1, by omega, rfl, by simp, by rw [HFT.out]; exact HOWN.out, below_grown hbq hbq.size HO.out HGR.out⟩
        · have hin1 : (ls.length : Int) ≤ (i : Int) := by omega
          have HE2 : Hid (ls.take i = ls) := Lib.hid (List.take_of_length_le (by omega))
          rw [HE2.out] at ho
          have HO := Lib.hid ho
          clear ho
          go_wp2_with fail
          go_ret
          exact ⟨_, rfl, HO.out, hbq⟩
end Go.Proofs.YtcinagglbkbmkaaGreatDoor
namespace Go.Proofs.YtcinagglbkbmkaaGreatDoor
set_option linter.unusedSimpArgs false
set_option linter.unusedVariables false
open Go Go.RowKit
open Go.Maps Go.WideMaps

namespace Fr
def inner (k : Int) (p : List UInt8) : List UInt8 := byte k :: p
/-- A frame's bytes. -/
def bytes (k : Int) (p : List UInt8) : List UInt8 := four p.length ++ (inner k p ++ four (sum (inner k p)))
def encE (k : Int) (p : List UInt8) : Int := if k < 1 ∨ 9 < k then 1 else if 8192 < p.length then 5 else 0
theorem four_len (n : Int) : (four n).length = 4 := rfl
theorem bytes_len (k : Int) (p : List UInt8) : (bytes k p).length = p.length + 9 := by
  unfold bytes inner
  simp [four_len]
  omega
end Fr

theorem OwnB.keep {w w' : World} {base : Nat} {v : Value} {l : List UInt8} (h : OwnB w base v l) (hb : Below w.heap.size w w') : OwnB w' base v l :=
  row_kept h (fun g hg => hb.block g (h.lt g hg).2)
theorem OwnB.form3 {w : World} {base : Nat} {v : Value} {l : List UInt8} (h : OwnB w base v l) : ∃ a n c, v = .slice a n c ∧ Hid (n = l.length) := by
  obtain ⟨a, c, e⟩ := row_any h
  exact ⟨a, _, c, e, Lib.hid rfl⟩
theorem prts_lit1 {w : World} {v : Value} {l : List UInt8} (t : TypeId) (h : Byts w v l) : Prts (w.alloc (.cells #[v] t)) (.slice (some ⟨w.heap.size, 0, none⟩) 1 1) [l] := by
  refine ⟨_, _, rfl, Nat.le_refl _, fun i x hi => ⟨w.heap.size, 0, v, rfl, by simp, ?_, ?_⟩⟩
  · have h0 : i = 0 := by have := (List.getElem?_eq_some_iff.1 hi).1; simpa using this
    subst h0
    exact cell_new w #[v] t 0 v rfl
  · have h0 : i = 0 := by have := (List.getElem?_eq_some_iff.1 hi).1; simpa using this
    subst h0
    simp at hi
    subst hi
    exact h.below ((Below.refl _ _).alloc (Nat.le_refl _) _)
theorem prts_lit3 {w : World} {v0 v1 v2 : Value} {l0 l1 l2 : List UInt8} (t : TypeId) (h0 : Byts w v0 l0) (h1 : Byts w v1 l1) (h2 : Byts w v2 l2) : Prts (w.alloc (.cells #[v0, v1, v2] t)) (.slice (some ⟨w.heap.size, 0, none⟩) 3 3) [l0, l1, l2] := by
  have hb : Below w.heap.size w (w.alloc (.cells #[v0, v1, v2] t)) := (Below.refl _ _).alloc (Nat.le_refl _) _
  refine ⟨_, _, rfl, Nat.le_refl _, fun i x hi => ?_⟩
  have hlt : i < 3 := by have := (List.getElem?_eq_some_iff.1 hi).1; simpa using this
  match i, hlt, hi with
  | 0, _, hi =>
    simp at hi; subst hi
    exact ⟨w.heap.size, 0, v0, rfl, by simp, cell_new w _ t 0 v0 rfl, h0.below hb⟩
  | 1, _, hi =>
    simp at hi; subst hi
    exact ⟨w.heap.size, 0, v1, rfl, by simp, cell_new w _ t 1 v1 rfl, h1.below hb⟩
  | 2, _, hi =>
    simp at hi; subst hi
    exact ⟨w.heap.size, 0, v2, rfl, by simp, cell_new w _ t 2 v2 rfl, h2.below hb⟩
  | n + 3, h, _ => omega

/-- What 'Encode' leaves. -/
def EncPost (k : Int) (p : List UInt8) (w : World) (e : Ending) (w' : World) : Prop :=
  Below w.heap.size w w' ∧ ((Fr.encE k p = 0 ∧ ∃ v, e = .returned (.tuple #[v, .int .i64 0]) ∧ OwnB w' w.heap.size v (Fr.bytes k p)) ∨
    (Fr.encE k p ≠ 0 ∧ e = .returned (.tuple #[.slice none 0 0, .int .i64 (Fr.encE k p)])))

set_option maxHeartbeats 1000000 in
set_option maxRecDepth 100000 in
theorem encode_any (k : Int) (v : Value) (ls : List (List UInt8)) (w : World) (hV : Prts w v ls) (hl : ls.length ≤ 1000000000) (hs : ∀ l ∈ ls, l.length ≤ 1000000000) :
    Calls Tryz.prog 61 #[.int .i64 k, v] w (EncPost k ls.flatten w) := by
  obtain ⟨va, vc, rfl⟩ := hV.form
  have HV := Lib.hid hV
  clear hV
  by_cases hk : k < 1 ∨ 9 < k
  · have HE : Hid (Fr.encE k ls.flatten = 1) := by unfold Fr.encE; rw [if_pos hk]; exact Lib.hid rfl
    rcases hk with h | h
    · go_enter Tryz.func61, Tryz.ntmps61
      go_wp2_with fail
      refine bodyPost_ret (v := .tuple #[.slice none 0 0, .int .i64 1]) (by simp [results, Tryz.results61, go_sem]) rfl ?_
      exact ⟨Below.refl _ _, .inr ⟨by rw [HE.out]; decide, by rw [HE.out]⟩⟩
    · have h2 : 1 ≤ k := by omega
      go_enter Tryz.func61, Tryz.ntmps61
      go_wp2_with fail
      refine bodyPost_ret (v := .tuple #[.slice none 0 0, .int .i64 1]) (by simp [results, Tryz.results61, go_sem]) rfl ?_
      exact ⟨Below.refl _ _, .inr ⟨by rw [HE.out]; decide, by rw [HE.out]⟩⟩
  · have hk1 : 1 ≤ k := by omega
    have hk2 : k ≤ 9 := by omega
    have HKK := Lib.hid hk
    clear hk
    go_enter Tryz.func61, Tryz.ntmps61
    go_wp2_with fail
    go_loopg [6, 18] ls.length (fun k s6 s18 wr => ∃ j : Nat, j ≤ ls.length ∧ k = ls.length - j ∧ s18 = .int .i64 (j : Nat) ∧ (∃ M : Nat, s6 = .int .i64 (M : Nat) ∧ M = (ls.take j).flatten.length ∧ M ≤ 8192) ∧ wr = w)
    case atStart => exact ⟨0, Nat.zero_le _, rfl, rfl, ⟨0, rfl, rfl, by omega⟩, rfl⟩
    case round =>
      obtain ⟨j, hj, hk, rfl, ⟨M, rfl, hM, hM2⟩, hwr⟩ := hrel
      subst wr
      have HK := Lib.hid hk
      have HM := Lib.hid hM
      clear hk hM
      have hj0 : (0 : Int) ≤ (j : Int) := Int.natCast_nonneg _
      have hM0 : (0 : Int) ≤ (M : Int) := Int.natCast_nonneg _
      by_cases hjn : j < ls.length
      · have hjn1 : (j : Int) < (ls.length : Int) := by omega
        obtain ⟨l, hlj⟩ : ∃ l, ls[j]? = some l := ⟨_, List.getElem?_eq_getElem hjn⟩
        have hll := hs l (List.mem_of_getElem? hlj)
        obtain ⟨g, o, lv, rfl, hg, hgc, hB⟩ := HV.out.at hlj
        obtain ⟨la, lc, rfl, _⟩ := hB.form
        have HFT : Hid ((ls.take (j + 1)).flatten.length = (ls.take j).flatten.length + l.length) := by rw [flat_take ls j l hlj, List.length_append]; exact Lib.hid rfl
        have hle : (ls.take (j + 1)).flatten.length ≤ ls.flatten.length := by
          have := congrArg (fun x : List (List UInt8) => x.flatten.length) (List.take_append_drop (j + 1) ls)
          simp only [List.flatten_append, List.length_append] at this
          omega
        have HLE := Lib.hid hle
        clear hle hlj
        by_cases hlong : 8192 < M + l.length
        · have h2 : 8192 - (M : Int) < (l.length : Int) := by omega
          have HE : Hid (Fr.encE k ls.flatten = 5) := by
            unfold Fr.encE
            have h1 := HM.out
            have h2 := HFT.out
            have h3 := HLE.out
            rw [if_neg HKK.out, if_pos (by omega)]
            exact Lib.hid rfl
          clear hlong
          go_wp2_with fail
          refine bodyPost_ret (v := .tuple #[.slice none 0 0, .int .i64 5]) (by simp [results, Tryz.results61, go_sem]) rfl ?_
          exact ⟨Below.refl _ _, .inr ⟨by rw [HE.out]; decide, by rw [HE.out]⟩⟩
        · have h2 : (l.length : Int) ≤ 8192 - (M : Int) := by omega
          have h3 : (M : Int) + (l.length : Int) ≤ 8192 := by omega
          go_wp2_with fail
          go_roundg (ls.length - (j + 1))
          case measure => rw [HK.out]; omega
          case rel => exact ⟨j + 1, by omega, rfl, by simp, ⟨M + l.length, by simp, by rw [HFT.out, HM.out], by omega⟩, rfl⟩
      · have hjn1 : (ls.length : Int) ≤ (j : Int) := by omega
        have HTK : Hid (ls.take j = ls) := Lib.hid (List.take_of_length_le (by omega))
        have HML : Hid (M = ls.flatten.length) := by rw [← HTK.out]; exact HM
        have HE : Hid (Fr.encE k ls.flatten = 0) := by
          unfold Fr.encE
          have h1 := HML.out
          rw [if_neg HKK.out, if_neg (by omega)]
          exact Lib.hid rfl
        have hbA : Below w.heap.size w (w.alloc (.cells #[.int .u8 k] 5)) := (Below.refl _ _).alloc (Nat.le_refl _) _
        have hOA : OwnB (w.alloc (.cells #[.int .u8 k] 5)) w.heap.size (.slice (some ⟨w.heap.size, 0, none⟩) 1 1) [Fr.byte k] := by
          have h := World.ownsRow_lit (base := w.heap.size) (e := 5) (size := 1) w #[.int .u8 k] 1 (Nat.le_refl _) (by unfold maxLen; omega) rfl
          have hc : u8Cells [Fr.byte k] = [.int .u8 k] := by
            have := Fr.byte_val k
            simp [u8Cells, this]
            omega
          unfold OwnB
          rw [hc]
          exact h
        have HOA := Lib.hid hOA
        have hfl : ls.flatten.length ≤ 1000000000 := by have := HML.out; omega
        have HFL := Lib.hid hfl
        clear hOA hfl
        go_wp2_with fail
        refine (concat_any _ ls _ (HV.out.below hbA) hl HFL.out).mono ?_
        rintro e w1 ⟨v1, rfl, ho1, hb1⟩
        have HO1 := Lib.hid ho1
        have HOA1 := Lib.hid (HOA.out.keep hb1)
        have hb01 := hbA.trans (hb1.mono hbA.size)
        have HB01 := Lib.hid hb01
        have hs1 := hb01.size
        have HS : Hid ([Fr.byte k].length + ls.flatten.length ≤ 1000000000) := Lib.hid (by have := HML.out; simp only [List.length_singleton]; omega)
        clear ho1 hb01
        go_wp2_with (first | (at_builtin; refine wpList_append_byts rfl _ _ rfl w.heap.size (.slice (some ⟨w.heap.size, 0, none⟩) 1 1) _ rfl HOA1.out v1 ls.flatten rfl HO1.out.byts HS.out hs1 ?_; intro d' w5 hown5 hgrow5 hloc5; have HOWN := Lib.hid hown5; have HGR := Lib.hid hgrow5; clear hown5 hgrow5 hloc5) | fail)
        obtain ⟨da', dn', dc', hd', HN5⟩ := OwnB.form3 HOWN.out
        subst hd'
        have HB05 := Lib.hid (below_grown HB01.out hs1 HOA1.out HGR.out)
        have HI5 : Hid (OwnB w5 w.heap.size (.slice da' dn' dc') (Fr.inner k ls.flatten)) := HOWN
        have hs5 := HB05.out.size
        refine (four_any M w5).mono ?_
        rintro e w6 ⟨v2, rfl, ho2, hb2⟩
        obtain ⟨da2, dn2, dc2, hd2, HN2⟩ := OwnB.form3 ho2
        subst hd2
        have HO2 := Lib.hid ho2
        have HI6 := Lib.hid (HI5.out.keep hb2)
        have HB06 := Lib.hid (HB05.out.trans (hb2.mono hs5))
        have hs6 := HB06.out.size
        have HB2 := Lib.hid hb2
        clear ho2 hb2
        have hbB : Below w6.heap.size w6 (w6.alloc (.cells #[.slice da' dn' dc'] 25)) := (Below.refl _ _).alloc (Nat.le_refl _) _
        have HPB := Lib.hid (prts_lit1 25 HI6.out.byts)
        have hil : (Fr.inner k ls.flatten).length ≤ 1000000000 := by
          have := HML.out
          unfold Fr.inner
          simp only [List.length_cons]
          omega
        have HIL := Lib.hid hil
        clear hil
        go_wp2_with fail
        refine (sum_any _ [Fr.inner k ls.flatten] _ HPB.out (by simp) (by simpa using HIL.out)).mono ?_
        rintro e w7 ⟨rfl, hb7⟩
        have hb67 := hbB.trans (hb7.mono hbB.size)
        have HB67 := Lib.hid hb67
        have hs67 := hb67.size
        clear hb67 hbB hb7
        go_wp2_with fail
        refine (four_any _ w7).mono ?_
        rintro e w8 ⟨v3, rfl, ho3, hb8⟩
        obtain ⟨da3, dn3, dc3, hd3, HN3⟩ := OwnB.form3 ho3
        subst hd3
        have HO3 := Lib.hid ho3
        have HB68 := Lib.hid (HB67.out.trans (hb8.mono hs67))
        have HP8 := Lib.hid (prts_lit3 25 (HO2.out.keep HB68.out).byts (HI6.out.keep HB68.out).byts ho3.byts)
        have hs68 := HB68.out.size
        have hb89 : Below w8.heap.size w8 (w8.alloc (.cells #[.slice da2 dn2 dc2, .slice da' dn' dc', .slice da3 dn3 dc3] 25)) := (Below.refl _ _).alloc (Nat.le_refl _) _
        have HB89 := Lib.hid (HB68.out.trans (hb89.mono hs68))
        clear ho3 hb8 hb89
        have hfin : [Fr.four M, Fr.inner k ls.flatten, Fr.four (Fr.sum (Fr.inner k ls.flatten))].flatten = Fr.bytes k ls.flatten := by
          rw [HML.out]
          simp [Fr.bytes]
        have HFIN := Lib.hid hfin
        have hlen : (Fr.bytes k ls.flatten).length ≤ 1000000000 := by
          have := HML.out
          rw [Fr.bytes_len]
          omega
        have HLEN := Lib.hid hlen
        clear hlen hfin
        go_wp2_with fail
        refine (concat_any _ [Fr.four M, Fr.inner k ls.flatten, Fr.four (Fr.sum (Fr.inner k ls.flatten))] _ HP8.out (by simp) (by rw [HFIN.out]; exact HLEN.out)).mono ?_
        rintro e w9 ⟨v4, rfl, ho4, hb9⟩
        rw [HFIN.out] at ho4
        have HO4 := Lib.hid ho4
        clear ho4
        go_wp2_with fail
        refine bodyPost_ret (v := .tuple #[v4, .int .i64 0]) (by simp [results, Tryz.results61, go_sem]) rfl ?_
        refine ⟨?_, .inl ⟨HE.out, v4, rfl, HO4.out.mono (by simp; omega)⟩⟩
        have h1 := HB89.out
        have h2 := h1.trans (hb9.mono h1.size)
        exact HB06.out.trans (h2.mono hs6)
end Go.Proofs.YtcinagglbkbmkaaGreatDoor
namespace Go.Proofs.YtcinagglbkbmkaaGreatDoor
set_option linter.unusedSimpArgs false
set_option linter.unusedVariables false
open Go Go.RowKit
open Go.Maps Go.WideMaps

namespace Fr
def pay (l : List UInt8) : List UInt8 := (l.drop 5).take (l.length - 9)
def body (l : List UInt8) : List UInt8 := (l.drop 4).take (l.length - 8)
def kind (l : List UInt8) : Int := ((l.getD 4 0).toNat : Int)
/-- What Decode tells. -/
def decE (l : List UInt8) : Int :=
  if l.length < 9 ∨ 8192 < l.length - 9 ∨ num l ≠ l.length - 9 then 2
  else if kind l < 1 ∨ 9 < kind l then 1
  else if sum (body l) ≠ num (l.drop (l.length - 4)) then 6
  else 0
end Fr
/-- A part of bytes. -/
theorem Byts.part {w : World} {g o n cap : Nat} {l : List UInt8} (h : Byts w (.slice (some ⟨g, o, none⟩) n cap) l) (lo hi cap2 : Nat) (hlo : lo ≤ hi) (hhi : hi ≤ l.length) (hc : hi - lo ≤ cap2) (a : Option Addr) (ha : a = some ⟨g, o + lo, none⟩ ∨ (hi = lo ∧ a ≠ none)) :
    Byts w (.slice a (hi - lo) cap2) ((l.drop lo).take (hi - lo)) := by
  have hlen : ((l.drop lo).take (hi - lo)).length = hi - lo := by simp; omega
  refine ⟨a, cap2, by rw [hlen], by rw [hlen]; exact hc, fun e => ?_, fun i x hx => ?_⟩
  · rcases ha with ha | ha
    · rw [ha] at e; cases e
    · exact absurd e ha.2
  · have hi2 : i < hi - lo := by have := (List.getElem?_eq_some_iff.1 hx).1; omega
    rw [List.getElem?_take, if_pos hi2, List.getElem?_drop] at hx
    obtain ⟨b, off, e1, e2, e3⟩ := h.at hx
    cases e1
    rcases ha with ha | ha
    · exact ⟨g, o + lo, ha, e2, by rw [Nat.add_assoc]; exact e3⟩
    · omega
/-- What 'Decode' leaves. -/
def DecPost (l : List UInt8) (w : World) (e : Ending) (w' : World) : Prop :=
  Below w.heap.size w w' ∧ ((Fr.decE l = 0 ∧ ∃ v, e = .returned (.tuple #[.agg #[.int .i64 (Fr.kind l), v], .int .i64 0]) ∧ OwnB w' w.heap.size v (Fr.pay l)) ∨
    (Fr.decE l ≠ 0 ∧ e = .returned (.tuple #[.agg #[.int .i64 0, .slice none 0 0], .int .i64 (Fr.decE l)])))

theorem cloneB2 (g o n c : Nat) (l : List UInt8) (w : World) (h : Byts w (.slice (some ⟨g, o, none⟩) n c) l) (hn : n = l.length) (hl : l.length ≤ 1000000000) :
    Calls Tryz.prog 88 #[.slice (some ⟨g, o, none⟩) n c] w fun e w' => ∃ v', e = .returned v' ∧ OwnB w' w.heap.size v' l ∧ Below w.heap.size w w' := by
  subst hn
  obtain ⟨i0, hi, hz0, hz1, hz2⟩ := info_parts infoB
  refine (AnyE.slices_Clone cloneB_lays i0 (.int .u8 0) 1 1 hi hz0 hz1 hz2 rfl (by decide) (fun w => Tryz.sizeOf5 w) g o l.length c (u8Cells l) w (by rw [u8Cells_len]; omega) (by unfold maxLen; omega) (by omega) ?_ (u8Cells_one l)).mono ?_
  · intro j u hj
    unfold u8Cells at hj
    rw [List.getElem?_map] at hj
    cases hx : l[j]? with
    | none => rw [hx] at hj; cases hj
    | some y =>
      rw [hx] at hj
      simp at hj
      obtain ⟨b, off, e1, e2, e3⟩ := h.at hx
      cases e1
      rw [← hj]
      exact e3
  · rintro e w' ⟨v', rfl, h3, _, h4⟩
    exact ⟨v', rfl, h3, h4⟩
theorem keepB {w w' : World} (h : Below w.heap.size w w') (o : Obj) : Below w.heap.size w (w'.alloc o) := h.alloc h.size o
set_option maxHeartbeats 1000000 in
set_option maxRecDepth 100000 in
theorem decode_any (v : Value) (l : List UInt8) (w : World) (hV : Byts w v l) (hl : l.length ≤ 1000000000) :
    Calls Tryz.prog 62 #[v] w (DecPost l w) := by
  obtain ⟨va, vc, rfl, hvc⟩ := hV.form
  have hl0 : (0 : Int) ≤ (l.length : Int) := Int.natCast_nonneg _
  have hlB : (l.length : Int) ≤ 1000000000 := by omega
  by_cases h9 : l.length < 9
  · have HE : Hid (Fr.decE l = 2) := by unfold Fr.decE; rw [if_pos (.inl h9)]; exact Lib.hid rfl
    have h1 : (l.length : Int) - 9 < 0 := by omega
    clear hvc hV
    go_enter Tryz.func62, Tryz.ntmps62
    go_wp2_with fail
    refine bodyPost_ret (v := .tuple #[.agg #[.int .i64 0, .slice none 0 0], .int .i64 2]) (by simp [results, Tryz.results62, go_sem]) rfl ?_
    exact ⟨(Below.refl _ _).alloc (Nat.le_refl _) _, .inr ⟨by rw [HE.out]; decide, by rw [HE.out]⟩⟩
  · obtain ⟨m, hm⟩ : ∃ m, l.length = m + 9 := ⟨l.length - 9, by omega⟩
    have hm0 : (0 : Int) ≤ (m : Int) := Int.natCast_nonneg _
    have hmB : (m : Int) ≤ 1000000000 := by omega
    have HM := Lib.hid hm
    rw [hm] at hV hvc ⊢
    clear h9 hl0 hlB hm
    by_cases hbig : 8192 < m
    · have HE : Hid (Fr.decE l = 2) := by
        unfold Fr.decE
        have := HM.out
        rw [if_pos (.inr (.inl (by omega)))]
        exact Lib.hid rfl
      have h2 : 8192 < (m : Int) := by omega
      clear hvc hV
      go_enter Tryz.func62, Tryz.ntmps62
      go_wp2_with fail
      refine bodyPost_ret (v := .tuple #[.agg #[.int .i64 0, .slice none 0 0], .int .i64 2]) (by simp [results, Tryz.results62, go_sem]) rfl ?_
      exact ⟨(Below.refl _ _).alloc (Nat.le_refl _) _, .inr ⟨by rw [HE.out]; decide, by rw [HE.out]⟩⟩
    · have h2 : (m : Int) ≤ 8192 := by omega
      have h3 : (m : Int) % 4294967296 = (m : Int) := by omega
      have HV := Lib.hid (hV.below ((Below.refl w.heap.size w).alloc (Nat.le_refl _) (.cells #[.int .i64 0, .slice none 0 0] 131)))
      have HVC := Lib.hid hvc
      clear hvc hV hbig
      go_enter Tryz.func62, Tryz.ntmps62
      go_wp2_with fail
      refine (number_any _ l _ HV.out (by have := HM.out; omega) (by have := HM.out; omega)).mono ?_
      rintro e w1 ⟨rfl, n1, rfl⟩
      have hr := heap_new w (.cells #[.int .i64 0, .slice none 0 0] 131)
      have hr1 : ((w.alloc (.cells #[.int .i64 0, .slice none 0 0] 131)).drewN n1).heap[w.heap.size]? = some (.cells #[.int .i64 0, .slice none 0 0] 131 (0, 0)) := hr
      have hb1 : Below w.heap.size w ((w.alloc (.cells #[.int .i64 0, .slice none 0 0] 131)).drewN n1) := Below.drewN ((Below.refl _ _).alloc (Nat.le_refl _) _) n1
      have hV1 : Byts ((w.alloc (.cells #[.int .i64 0, .slice none 0 0] 131)).drewN n1) (.slice va (m + 9) vc) l := HV.out.keep (Nat.le_refl _) (fun _ _ => rfl)
      generalize ((w.alloc (.cells #[.int .i64 0, .slice none 0 0] 131)).drewN n1) = w1 at hr1 hb1 hV1 ⊢
      obtain ⟨x4, hx4⟩ : ∃ x, l[4]? = some x := ⟨_, List.getElem?_eq_getElem (by have := HM.out; omega)⟩
      obtain ⟨g, o, rfl, hg, hc4⟩ := hV1.at hx4
      have HK : Hid (Fr.kind l = (x4.toNat : Int)) := by
        unfold Fr.kind
        rw [List.getD_eq_getElem?_getD, hx4]
        exact Lib.hid rfl
      have HV1 := Lib.hid hV1
      have HR1 := Lib.hid hr1
      have y0 : w1.cell? ⟨w.heap.size, 0, none⟩ = some (.int .i64 0) := root_cell hr1 0 _ rfl
      have y1 : w1.cell? ⟨w.heap.size, 1, none⟩ = some (.slice none 0 0) := root_cell hr1 1 _ rfl
      have f0 := root_frozen hr1 0
      have f1 := root_frozen hr1 1
      clear hr hr1 hV1 hx4 HV
      by_cases hnum : (Fr.num l : Int) = (m : Int)
      · have ht : ((Fr.num l : Int) != (m : Int)) = false := by rw [hnum]; simp
        have ht2 : (Fr.num l != m) = false := by rw [Int.ofNat_inj.1 hnum]; simp
        have HNUM := Lib.hid hnum
        clear hnum
        have hx0 : (0 : Int) ≤ (x4.toNat : Int) := Int.natCast_nonneg _
        have hx5 : (x4.toNat : Int) ≤ 255 := by have : x4.toNat < 256 := UInt8.toNat_lt _; omega
        by_cases hkind : (x4.toNat : Int) < 1 ∨ 9 < (x4.toNat : Int)
        · have HE : Hid (Fr.decE l = 1) := by
            unfold Fr.decE
            have e1 := HNUM.out
            have e2 := HM.out
            rw [HK.out, if_neg (by omega), if_pos hkind]
            exact Lib.hid rfl
          rcases hkind with hk | hk
          · go_wp2_with fail
            refine bodyPost_ret (v := .tuple #[.agg #[.int .i64 0, .slice none 0 0], .int .i64 1]) (by simp [results, Tryz.results62, go_sem, y0, y1, f0, f1]) rfl ?_
            exact ⟨(hb1.setCell (p := ⟨w.heap.size, 0, none⟩) (Nat.le_refl _) _).setCell (p := ⟨w.heap.size, 1, none⟩) (Nat.le_refl _) _, .inr ⟨by rw [HE.out]; decide, by rw [HE.out]⟩⟩
          · have hk2 : (1 : Int) ≤ (x4.toNat : Int) := by omega
            go_wp2_with fail
            refine bodyPost_ret (v := .tuple #[.agg #[.int .i64 0, .slice none 0 0], .int .i64 1]) (by simp [results, Tryz.results62, go_sem, y0, y1, f0, f1]) rfl ?_
            exact ⟨(hb1.setCell (p := ⟨w.heap.size, 0, none⟩) (Nat.le_refl _) _).setCell (p := ⟨w.heap.size, 1, none⟩) (Nat.le_refl _) _, .inr ⟨by rw [HE.out]; decide, by rw [HE.out]⟩⟩
        · have hk1 : 1 ≤ (x4.toNat : Int) := by omega
          have hk2 : (x4.toNat : Int) ≤ 9 := by omega
          have HKK := Lib.hid hkind
          clear hkind
          go_wp2_with fail
          have hvc := HVC.out
          have hz1 : (5 : Int) + (m : Int) ≤ (vc : Int) := by omega
          have hz2 : (0 : Int) ≤ (5 : Int) + (m : Int) := by omega
          have hz3 : (4 : Int) ≤ (5 : Int) + (m : Int) := by omega
          have hz4 : ((5 : Int) + (m : Int)).toNat = 5 + m := by omega
          have hz5 : vc ≠ 4 := by omega
          have hz6 : vc ≠ 5 + m := by omega
          have hz7 : (5 : Int) + (m : Int) ≤ (m : Int) + 9 := by omega
          have hz0 : IntKind.i64.wrap ((5 : Int) + (m : Int)) = 5 + (m : Int) := by rw [IntKind.wrap_i64]; omega
          have hz8 : (4 : Int).toNat = 4 := rfl
          clear hvc
          have hS : Below w1.heap.size w1 w1.drew := ⟨rfl, rfl, rfl, Nat.le_refl _, fun _ _ => rfl⟩
          have HBODY : Hid ((l.drop 4).take (5 + m - 4) = Fr.body l) := by
            unfold Fr.body
            have := HM.out
            rw [show l.length - 8 = 5 + m - 4 by omega]
            exact Lib.hid rfl
          have HTAIL : Hid ((l.drop (5 + m)).take (m + 9 - (5 + m)) = l.drop (l.length - 4)) := by
            have := HM.out
            rw [List.take_of_length_le (by rw [List.length_drop]; omega), show l.length - 4 = 5 + m by omega]
            exact Lib.hid rfl
          have hp1 : Byts w1 (.slice (some ⟨g, o + 4, none⟩) (5 + m - 4) (vc - 4)) (Fr.body l) := by
            rw [← HBODY.out]
            exact HV1.out.part 4 (5 + m) (vc - 4) (by omega) (by have := HM.out; omega) (by omega) _ (.inl rfl)
          have HP2 : Hid (Byts w1 (.slice (some ⟨g, o + (5 + m), none⟩) (m + 9 - (5 + m)) (vc - (5 + m))) (l.drop (l.length - 4))) := by
            rw [← HTAIL.out]
            exact Lib.hid (HV1.out.part (5 + m) (m + 9) (vc - (5 + m)) (by omega) (by have := HM.out; omega) (by have := HVC.out; omega) _ (.inl rfl))
          have HPB : Hid (Prts (w1.alloc (.cells #[.slice (some ⟨g, o + 4, none⟩) (5 + m - 4) (vc - 4)] 25)).drew (.slice (some ⟨w1.heap.size, 0, none⟩) 1 1) [Fr.body l]) :=
            Lib.hid ((prts_lit1 25 hp1).keep (Nat.le_refl _) (fun _ _ => rfl))
          have HP1 := Lib.hid hp1
          have HBL : Hid (∀ q ∈ [Fr.body l], q.length ≤ 1000000000) := by
            refine Lib.hid fun q hq => ?_
            simp at hq
            subst hq
            unfold Fr.body
            simp
            omega
          have HBA : Hid (Below w1.heap.size w1 (w1.alloc (.cells #[.slice (some ⟨g, o + 4, none⟩) (5 + m - 4) (vc - 4)] 25)).drew) :=
            Lib.hid (((Below.refl _ _).alloc (Nat.le_refl _) _).trans ⟨rfl, rfl, rfl, Nat.le_refl _, fun _ _ => rfl⟩)
          have HLT : Hid (4 ≤ (l.drop (l.length - 4)).length ∧ (l.drop (l.length - 4)).length ≤ 1000000000) := by
            have := HM.out
            refine Lib.hid ?_
            simp
            omega
          clear hp1
          go_region_held3 (fun w' => Below w1.heap.size w1 w') (first | assumption | exact keepB (by assumption) _)
            (first
              | (go_at_call 122; refine (sum_any _ [Fr.body l] _ HPB.out (by simp) HBL.out).mono ?_; rintro e w2 ⟨rfl, hb2⟩; have hS2 := HBA.out.trans (hb2.mono HBA.out.size); clear hb2)
              | (go_at_call 123; refine (number_any _ (l.drop (l.length - 4)) _ (HP2.out.below (by assumption)) HLT.out.1 HLT.out.2).mono ?_; rintro e w3 ⟨rfl, n3, rfl⟩; have hS3 := Below.drewN hS2 n3))
          have hr4 : (w2.drewN n3).heap[w.heap.size]? = some (.cells #[.int .i64 0, .slice none 0 0] 131 (0, 0)) := by
            rw [hS3.block _ (heap_lt HR1.out)]
            exact HR1.out
          have hb4 : Below w.heap.size w (w2.drewN n3) := hb1.trans (hS3.mono hb1.size)
          have HS4 := Lib.hid hS3
          clear y0 y1 f0 f1 hc4 ht ht2 h3
          generalize w2.drewN n3 = w4 at hr4 hb4 HS4 ⊢
          have HR4 := Lib.hid hr4
          have y0 : w4.cell? ⟨w.heap.size, 0, none⟩ = some (.int .i64 0) := root_cell hr4 0 _ rfl
          have y1 : w4.cell? ⟨w.heap.size, 1, none⟩ = some (.slice none 0 0) := root_cell hr4 1 _ rfl
          have f0 := root_frozen hr4 0
          have f1 := root_frozen hr4 1
          have hb1 := hb4
          clear hr4
          by_cases hsum : Fr.sum (Fr.body l) = Fr.num (l.drop (l.length - 4))
          · have ht : (Fr.sum (Fr.body l) != (Fr.num (l.drop (l.length - 4)) : Int)) = false := by rw [hsum]; simp
            have HE : Hid (Fr.decE l = 0) := by
              unfold Fr.decE
              have e1 := HNUM.out
              have e2 := HM.out
              rw [HK.out, if_neg (by omega), if_neg HKK.out, if_neg (by simp [hsum])]
              exact Lib.hid rfl
            clear hsum
            have HPAY : Hid (Fr.pay l = (l.drop 5).take (5 + m - 5)) := by
              unfold Fr.pay
              have := HM.out
              rw [show l.length - 9 = 5 + m - 5 by omega]
              exact Lib.hid rfl
            have HP5 : Hid (Byts w4 (.slice (some ⟨g, o + 5, none⟩) m (vc - 5)) (Fr.pay l)) := by
              rw [HPAY.out]
              have e5 : 5 + m - 5 = m := by omega
              have hq := (HV1.out.part 5 (5 + m) (vc - 5) (by omega) (by have := HM.out; omega) (by omega) (some ⟨g, o + 5, none⟩) (.inl rfl)).below HS4.out
              rw [e5] at hq ⊢
              exact Lib.hid hq
            have HPL : Hid ((Fr.pay l).length = m) := by
              have := HM.out
              unfold Fr.pay
              rw [List.length_take, List.length_drop]
              exact Lib.hid (by omega)
            have hz9 : vc ≠ 5 := by have := HVC.out; omega
            have hz10 : (5 : Int) ≤ 5 + (m : Int) := by omega
            have hz11 : (5 : Int).toNat = 5 := rfl
            go_wp2_with fail
            refine (cloneB2 g (o + 5) m (vc - 5) (Fr.pay l) w4 HP5.out HPL.out.symm (by have := HPL.out; omega)).mono ?_
            rintro e w5 ⟨v5, rfl, ho5, hb5⟩
            obtain ⟨da5, dn5, dc5, hd5, HN5⟩ := OwnB.form3 ho5
            subst hd5
            have HO5 := Lib.hid ho5
            have hr5 : w5.heap[w.heap.size]? = some (.cells #[.int .i64 0, .slice none 0 0] 131 (0, 0)) := by
              rw [hb5.block _ (heap_lt HR4.out)]
              exact HR4.out
            have hb05 : Below w.heap.size w w5 := hb4.trans (hb5.mono hb4.size)
            have z0 : w5.cell? ⟨w.heap.size, 0, none⟩ = some (.int .i64 0) := root_cell hr5 0 _ rfl
            have z1 : w5.cell? ⟨w.heap.size, 1, none⟩ = some (.slice none 0 0) := root_cell hr5 1 _ rfl
            have g0 := root_frozen hr5 0
            have g1 := root_frozen hr5 1
            have hlt5 : w.heap.size < w4.heap.size := heap_lt HR4.out
            clear hr5 ho5 y0 y1 f0 f1
            go_wp2_with fail
            refine bodyPost_ret (v := .tuple #[.agg #[.int .i64 x4.toNat, .slice da5 dn5 dc5], .int .i64 0]) (by simp [results, Tryz.results62, go_sem, z0, z1, g0, g1]) rfl ?_
            refine ⟨(hb05.setCell (p := ⟨w.heap.size, 0, none⟩) (Nat.le_refl _) _).setCell (p := ⟨w.heap.size, 1, none⟩) (Nat.le_refl _) _, .inl ⟨HE.out, .slice da5 dn5 dc5, by rw [HK.out], ?_⟩⟩
            refine row_kept (HO5.out.mono (Nat.le_of_lt hlt5)) (fun g hg => ?_)
            have := (HO5.out.lt g hg).1
            rw [Below.heap_setCell _ _ _ _ (by show g ≠ w.heap.size; omega), Below.heap_setCell _ _ _ _ (by show g ≠ w.heap.size; omega)]
          · have ht : (Fr.sum (Fr.body l) != (Fr.num (l.drop (l.length - 4)) : Int)) = true := by rw [bne_iff_ne]; exact hsum
            have HE : Hid (Fr.decE l = 6) := by
              unfold Fr.decE
              have e1 := HNUM.out
              have e2 := HM.out
              rw [HK.out, if_neg (by omega), if_neg HKK.out, if_pos hsum]
              exact Lib.hid rfl
            clear hsum
            go_wp2_with fail
            refine bodyPost_ret (v := .tuple #[.agg #[.int .i64 0, .slice none 0 0], .int .i64 6]) (by simp [results, Tryz.results62, go_sem, y0, y1, f0, f1]) rfl ?_
            exact ⟨(hb1.setCell (p := ⟨w.heap.size, 0, none⟩) (Nat.le_refl _) _).setCell (p := ⟨w.heap.size, 1, none⟩) (Nat.le_refl _) _, .inr ⟨by rw [HE.out]; decide, by rw [HE.out]⟩⟩
      · have ht : ((Fr.num l : Int) != (m : Int)) = true := by rw [bne_iff_ne]; exact hnum
        have ht2 : (Fr.num l != m) = true := by rw [bne_iff_ne]; omega
        have HE : Hid (Fr.decE l = 2) := by
          unfold Fr.decE
          have := HM.out
          rw [if_pos (.inr (.inr (by omega)))]
          exact Lib.hid rfl
        clear hnum
        go_wp2_with fail
        refine bodyPost_ret (v := .tuple #[.agg #[.int .i64 0, .slice none 0 0], .int .i64 2]) (by simp [results, Tryz.results62, go_sem, y0, y1, f0, f1]) rfl ?_
        exact ⟨(hb1.setCell (p := ⟨w.heap.size, 0, none⟩) (Nat.le_refl _) _).setCell (p := ⟨w.heap.size, 1, none⟩) (Nat.le_refl _) _, .inr ⟨by rw [HE.out]; decide, by rw [HE.out]⟩⟩
end Go.Proofs.YtcinagglbkbmkaaGreatDoor
namespace Go.Proofs.YtcinagglbkbmkaaGreatDoor
set_option linter.unusedSimpArgs false
set_option linter.unusedVariables false
open Go Go.RowKit
open Go.Maps Go.WideMaps

namespace Fr
abbrev F := Int × List UInt8
/-- Is there a frame at the front? -/
def stop (l : List UInt8) : Bool := decide (l.length < 9) || decide (8192 < num l) || decide (l.length - 9 < num l) || decide (decE (l.take (9 + num l)) ≠ 0)
def first (l : List UInt8) : F := (kind (l.take (9 + num l)), pay (l.take (9 + num l)))
def scanGo : Nat → List UInt8 → List F → Nat → List F × Nat
  | 0, _, out, a => (out, a)
  | k + 1, l, out, a => if stop l then (out, a) else scanGo k (l.drop (9 + num l)) (out ++ [first l]) (a + (9 + num l))
/-- The frames of the front, and where they end. -/
def scan (l : List UInt8) : List F × Nat := scanGo (l.length + 1) l [] 0
end Fr

def frCells (ps : List (Fr.F × Value)) : List Value := ps.flatMap fun p => [.int .i64 p.1.1, p.2]
/-- Frames in memory of the call's own. -/
structure FrAt (w : World) (base : Nat) (v : Value) (ps : List (Fr.F × Value)) : Prop where
  row : w.ownsRow base 131 2 v ps.length (frCells ps)
  pay : ∀ p ∈ ps, OwnB w base p.2 p.1.2
  apart : ∀ p ∈ ps, ∀ g, p.2.ownBlock = some g → v.ownBlock ≠ some g
theorem FrAt.keep {w w' : World} {base : Nat} {v : Value} {ps : List (Fr.F × Value)} (h : FrAt w base v ps) (hb : Below w.heap.size w w') : FrAt w' base v ps :=
  ⟨row_kept h.row (fun g hg => hb.block g (h.row.lt g hg).2), fun p hp => (h.pay p hp).keep hb, h.apart⟩
theorem FrAt.nil (w : World) (base : Nat) : FrAt w base (.slice none 0 0) [] := ⟨World.ownsRow_nil _ _ _ _, fun p h => by simp at h, fun p h => by simp at h⟩
/-- One frame more. -/
theorem FrAt.more {w w5 : World} {base : Nat} {v v' x : Value} {ps : List (Fr.F × Value)} {f : Fr.F} (h : FrAt w base v ps) (hx : OwnB w base x f.2) (hne : ∀ g, x.ownBlock = some g → v.ownBlock ≠ some g)
    (hrow : w5.ownsRow base 131 2 v' (ps.length + 1) (frCells ps ++ [.int .i64 f.1, x])) (hg : w.grownBy w5 v.ownBlock) (hloc : v'.ownBlock = v.ownBlock ∨ v'.ownBlock = some w.heap.size) :
    FrAt w5 base v' (ps ++ [(f, x)]) := by
  have hk : ∀ (y : Value) (l : List UInt8), OwnB w base y l → (∀ g, y.ownBlock = some g → v.ownBlock ≠ some g) → OwnB w5 base y l ∧ (∀ g, y.ownBlock = some g → v'.ownBlock ≠ some g) := fun y l hy hn =>
    ⟨row_kept hy (fun g hg2 => hg.block g (hy.lt g hg2).2 (fun e => hn g hg2 e.symm)), fun g hg2 => by
      rcases hloc with e | e
      · rw [e]; exact hn g hg2
      · rw [e]
        intro e2
        have := (hy.lt g hg2).2
        simp at e2
        omega⟩
  refine ⟨?_, fun p hp => ?_, fun p hp => ?_⟩
  · rw [List.length_append]
    unfold frCells at hrow ⊢
    rw [List.flatMap_append]
    exact hrow
  · rcases List.mem_append.1 hp with hp | hp
    · exact (hk p.2 p.1.2 (h.pay p hp) (h.apart p hp)).1
    · simp at hp; subst hp; exact (hk x f.2 hx hne).1
  · rcases List.mem_append.1 hp with hp | hp
    · exact (hk p.2 p.1.2 (h.pay p hp) (h.apart p hp)).2
    · simp at hp; subst hp; exact (hk x f.2 hx hne).2

end Go.Proofs.YtcinagglbkbmkaaGreatDoor
namespace Go.Proofs.YtcinagglbkbmkaaGreatDoor
set_option linter.unusedSimpArgs false
set_option linter.unusedVariables false
open Go Go.RowKit
open Go.ChangeShapes Go.WideShapes Go.ChangeAt

theorem take_some {α : Type} {l : List α} {n i : Nat} {x : α} (h : (l.take n)[i]? = some x) : l[i]? = some x := by
  rw [List.getElem?_take] at h
  split at h
  · exact h
  · cases h
theorem cell_lt2 {w : World} {p : Addr} {v : Value} (h : w.cell? p = some v) : p.block < w.heap.size := by
  unfold World.cell? at h
  rcases Nat.lt_or_ge p.block w.heap.size with h' | h'
  · exact h'
  · simp [Array.getElem?_eq_none h'] at h
theorem cellsU8 : Tryz.prog.cellsOf 5 = 1 := by kernel_rfl
set_option maxRecDepth 100000 in
/-- A '[]uint8' of the input, opened. -/
theorem bytes_of {H : Type} {enc : TypeId × Value → H} {W : World} {v : Value} {d : DataW H} {p : List MemPlace} (h : DataW.Trod enc Tryz.prog W 0 (fun _ => true) true 25 v d p)
    {r : Reach} {base : Nat} (hv : Value.okWide Tryz.prog W r base 25 v) : ∃ l, Byts W v l ∧ l.length ≤ maxLen := by
  obtain ⟨a0, len, cap, rfl⟩ := okWide_slice Tryz.underlying25 hv
  obtain ⟨fuel, hf⟩ := h
  rcases open_ints Tryz.underlying25 Tryz.underlying5 cellsU8 hf with ⟨hcs, hx⟩ | ⟨a, len', cap', ss, hcs, _, hl, hm, hz, hx, hcell, hwz⟩
  · simp [Value.cells] at hcs
    obtain ⟨rfl, rfl, rfl⟩ := hcs
    exact ⟨[], ⟨none, 0, rfl, by simp, by simp, by simp⟩, by simp⟩
  · simp [Value.cells] at hcs
    obtain ⟨rfl, rfl, rfl⟩ := hcs
    simp only [if_true] at hz
    obtain ⟨b, off, spot⟩ := a
    have hlen : (ss.take len).length = len := by rw [List.length_take]; omega
    refine ⟨(ss.take len).map fun z => UInt8.ofNat z.toNat, ?_, by rw [List.length_map, hlen]; omega⟩
    refine ⟨some ⟨b, off, spot⟩, cap, by rw [List.length_map, hlen], by rw [List.length_map, hlen]; exact hl, (fun e => by cases e), fun i s hi => ?_⟩
    rw [List.getElem?_map] at hi
    obtain ⟨z, hiz, rfl⟩ := Option.map_eq_some_iff.1 hi
    have hi2 : ss[i]? = some z := take_some hiz
    have hil : i < ss.length := (List.getElem?_eq_some_iff.1 hi2).1
    have h1 := hcell 0 (by omega)
    have hspot : spot = none := by simpa [Addr.add] using World.cell?_spot h1
    subst hspot
    have hz0 : 0 ≤ z ∧ z ≤ 255 := by
      have h5 := hwz z (List.mem_of_mem_take (List.mem_of_getElem? hiz))
      have e1 : IntKind.u8.min = 0 := rfl
      have e2 : IntKind.u8.max = 255 := rfl
      simpa [Lit.wf, e1, e2] using h5
    refine ⟨b, off, rfl, ?_, ?_⟩
    · have := cell_lt2 h1
      simpa [Addr.add] using this
    · have := hcell i hil
      rw [add_plain] at this
      rw [this, List.getD_eq_getElem?_getD, hi2]
      have h6 : (UInt8.ofNat z.toNat).toNat = z.toNat := UInt8.toNat_ofNat_of_lt' (by show _ < 256; omega)
      rw [h6, Int.toNat_of_nonneg hz0.1]
      rfl

end Go.Proofs.YtcinagglbkbmkaaGreatDoor
namespace Go.Proofs.YtcinagglbkbmkaaGreatDoor
set_option linter.unusedSimpArgs false
set_option linter.unusedVariables false
open Go Go.RowKit
open Go.Maps Go.WideMaps

/-- What the library's variables hold. -/
structure SgEnv (B : Nat) (w : World) : Prop where
  tab : Lib.TabIs Tryz.prog w "internal/strconv.uint64pow10" .u64 Lib.pow10Tab
  rng : ∃ tp p, w.var? Tryz.prog "strconv.ErrRange" = some #[.iface tp p]
  syn : ∃ tp p, w.var? Tryz.prog "strconv.ErrSyntax" = some #[.iface tp p]
  low : 2 < B ∧ 1 < B ∧ 0 < B
theorem SgEnv.below {B : Nat} {w w' : World} (h : SgEnv B w) (hb : Below B w w') : SgEnv B w' := by
  obtain ⟨h1, ⟨a, b, h2⟩, ⟨c, d, h3⟩, l1, l2, l3⟩ := h
  exact ⟨var?_below hb (by kernel_rfl) l1 h1, ⟨a, b, var?_below hb (by kernel_rfl) l2 h2⟩, ⟨c, d, var?_below hb (by kernel_rfl) l3 h3⟩, l1, l2, l3⟩
theorem SgEnv.mono {B B' : Nat} {w : World} (h : SgEnv B w) (hb : B ≤ B') : SgEnv B' w := ⟨h.tab, h.rng, h.syn, Nat.lt_of_lt_of_le h.low.1 hb, Nat.lt_of_lt_of_le h.low.2.1 hb, Nat.lt_of_lt_of_le h.low.2.2 hb⟩

namespace Sg
def nameE (id : Int) : Int := if id < 1 ∨ 2147483647 < id then 1 else 0
/-- A segment's file's name. -/
def nameB (id : Int) : List UInt8 := if id < 1 ∨ 2147483647 < id then [] else [115, 101, 103, 45] ++ Lib.itoa id
theorem nameB_len (id : Int) : (nameB id).length ≤ 25 := by
  unfold nameB
  split
  · simp
  · have := Lib.itoa_length_le id (by omega) (by omega)
    simp
    omega
end Sg
theorem bytes_add (a b : List UInt8) : (⟨a.toArray⟩ : ByteArray) ++ (⟨b.toArray⟩ : ByteArray) = ⟨(a ++ b).toArray⟩ := by
  apply ByteArray.ext
  simp

end Go.Proofs.YtcinagglbkbmkaaGreatDoor
namespace Go.Proofs.YtcinagglbkbmkaaGreatDoor
set_option linter.unusedSimpArgs false
set_option linter.unusedVariables false
open Go Go.RowKit
open Go.Maps Go.WideMaps

theorem convB {w : World} {a : Option Addr} {n c : Nat} {l : List UInt8} (h : Byts w (.slice a n c) l) :
    (convert 25 9 (.slice a n c)).run Tryz.prog w = .ok (.string ⟨l.toArray⟩) w := by
  have h' := h
  obtain ⟨a', c', e, h1, h2, _⟩ := h'
  simp only [Value.slice.injEq] at e
  obtain ⟨rfl, rfl, rfl⟩ := e
  cases a with
  | none =>
    have h0 : l = [] := List.length_eq_zero_iff.1 (by have := h2 rfl; omega)
    subst h0
    exact run_convert_bytes_nil w 25 5 Tryz.underlying25 Tryz.underlying5 0 c 9 Tryz.underlying9
  | some ad =>
    refine run_convert_bytes_back w 25 9 5 ad c l Tryz.underlying25 Tryz.underlying5 Tryz.underlying9 (fun j hj => ?_)
    obtain ⟨b, off, e1, e2, e3⟩ := h.at (List.getElem?_eq_getElem hj)
    cases e1
    rw [addrAdd]
    exact e3
theorem byts_one (w : World) (n : Nat) (hn : n < 10) : Byts (w.alloc (.cells #[.int .u8 (48 + (n : Int))] 5)) (.slice (some ⟨w.heap.size, 0, none⟩) 1 1) [UInt8.ofNat (48 + n)] := by
  refine ⟨_, _, rfl, Nat.le_refl _, (fun e => by cases e), fun i x hi => ⟨w.heap.size, 0, rfl, by simp, ?_⟩⟩
  have h0 : i = 0 := by have := (List.getElem?_eq_some_iff.1 hi).1; simpa using this
  subst h0
  simp only [List.getElem?_cons_zero, Option.some.injEq] at hi
  subst hi
  refine cell_new w _ _ 0 _ ?_
  have : (UInt8.ofNat (48 + n)).toNat = 48 + n := UInt8.toNat_ofNat_of_lt' (by show _ < 256; omega)
  rw [this]
  rfl
set_option maxHeartbeats 1000000 in
set_option maxRecDepth 100000 in
theorem digits_any (n : Nat) : ∀ (w : World), n ≤ 9223372036854775807 →
    Calls Tryz.prog 33 #[.int .i64 (n : Nat)] w fun e w' => e = .returned (.string ⟨(Lib.decDigits n).toArray⟩) ∧ Below w.heap.size w w' := by
  induction n using Nat.strongRecOn with
  | _ n ih =>
    intro w hn
    have hn0 : (0 : Int) ≤ (n : Int) := Int.natCast_nonneg _
    have hn1 : (n : Int) ≤ 9223372036854775807 := by omega
    by_cases h10 : n < 10
    · have h1 : (n : Int) < 10 := by omega
      have HD : Hid (Lib.decDigits n = [UInt8.ofNat (48 + n)]) := Lib.hid (Lib.decDigits_one h10)
      have hm : (48 + (n : Int)) % 256 = 48 + (n : Int) := by omega
      have hcv := convB (byts_one w n h10)
      obtain ⟨x, hx⟩ : ∃ x, x = UInt8.ofNat (48 + n) := ⟨_, rfl⟩
      rw [← hx] at hcv
      have HX := Lib.hid hx
      clear h10 hx
      go_enter Tryz.func33, Tryz.ntmps33
      go_wp2_with fail
      go_ret
      exact ⟨by rw [HD.out, ← HX.out]; rfl, (Below.refl _ _).alloc (Nat.le_refl _) _⟩
    · have h1 : 10 ≤ (n : Int) := by omega
      have HD : Hid (Lib.decDigits n = Lib.decDigits (n / 10) ++ Lib.decDigits (n % 10)) := by
        rw [Lib.decDigits, dif_neg h10, Lib.decDigits_one (i := n % 10) (by omega)]
        exact Lib.hid rfl
      have hq : (n : Int) / 10 = ((n / 10 : Nat) : Int) := by omega
      have hr : (n : Int) % 10 = ((n % 10 : Nat) : Int) := by omega
      have hle1 : ((Lib.decDigits (n / 10)).length) ≤ 21 := by
        have := Lib.itoa_length_le ((n / 10 : Nat) : Int) (by omega) (by omega)
        rwa [Lib.itoa_nonneg] at this
      have hle2 : ((Lib.decDigits (n % 10)).length) ≤ 21 := by
        have := Lib.itoa_length_le ((n % 10 : Nat) : Int) (by omega) (by omega)
        rwa [Lib.itoa_nonneg] at this
      obtain ⟨s1, hs1⟩ : ∃ s : ByteArray, s = ⟨(Lib.decDigits (n / 10)).toArray⟩ := ⟨_, rfl⟩
      obtain ⟨s2, hs2⟩ : ∃ s : ByteArray, s = ⟨(Lib.decDigits (n % 10)).toArray⟩ := ⟨_, rfl⟩
      have hz1 : s1.size ≤ 21 := by rw [hs1]; show (Lib.decDigits (n / 10)).toArray.size ≤ 21; simpa using hle1
      have hz2 : s2.size ≤ 21 := by rw [hs2]; show (Lib.decDigits (n % 10)).toArray.size ≤ 21; simpa using hle2
      have hz3 : (s1.size : Int) + (s2.size : Int) ≤ 42 := by omega
      have HS1 := Lib.hid hs1
      have HS2 := Lib.hid hs2
      have HQ := Lib.hid hq
      have HR := Lib.hid hr
      have IH1 := Lib.hid (ih (n / 10) (by omega))
      have IH2 := Lib.hid (ih (n % 10) (by omega))
      clear hs1 hs2 hq hr hle1 hle2 ih h10
      go_enter Tryz.func33, Tryz.ntmps33
      go_wp2_with fail
      rw [HQ.out]
      refine (IH1.out w (by omega)).mono ?_
      rintro e w1 ⟨rfl, hb1⟩
      rw [← HS1.out]
      have HB1 := Lib.hid hb1
      clear hb1
      go_wp2_with fail
      rw [HR.out]
      refine (IH2.out w1 (by omega)).mono ?_
      rintro e w2 ⟨rfl, hb2⟩
      rw [← HS2.out]
      have HB2 := Lib.hid (HB1.out.trans (hb2.mono HB1.out.size))
      clear hb2
      go_wp2_with fail
      go_ret
      refine ⟨?_, HB2.out⟩
      rw [HD.out, ← bytes_add, ← HS1.out, ← HS2.out]
      rfl

end Go.Proofs.YtcinagglbkbmkaaGreatDoor
