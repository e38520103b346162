/-
  Frames: slices.Grow and slices.Concat of bytes.
-/
import Derived.Test.YtcimobbppmpmgaaDoorFr3
import Derived.Shelf.Spec.SlicesGrow
namespace Go.Proofs.YtcimobbppmpmgaaDoor
set_option linter.unusedSimpArgs false
set_option linter.unusedVariables false
open Go Go.RowKit
open Go.Maps Go.WideMaps

def growB_ren : Go.Shelf.Ren := ⟨fun | 4 => 60 | n => n, fun | 0 => 0 | 3 => 3 | 4 => 4 | 9 => 9 | 20 => 20 | 22 => 32 | 25 => 5 | n => n, fun | n => n⟩
theorem growB_lays : Go.Proofs.Lays8.n4 Tryd.prog growB_ren := {
  mixed := by kernel_rfl
  f4 := ⟨Tryd.f60.name, by decide, Tryd.func60.trans (congrArg some (by kernel_rfl))⟩
  t0 := Tryd.underlying0
  a0 := Tryd.isAgg0
  z0 := Tryd.sizeOf0
  v0 := Tryd.zeroValue0
  t3 := Tryd.underlying3
  a3 := Tryd.isAgg3
  z3 := Tryd.sizeOf3
  v3 := Tryd.zeroValue3
  t4 := Tryd.underlying4
  a4 := Tryd.isAgg4
  z4 := Tryd.sizeOf4
  v4 := Tryd.zeroValue4
  t9 := Tryd.underlying9
  a9 := Tryd.isAgg9
  z9 := Tryd.sizeOf9
  v9 := Tryd.zeroValue9
  t20 := Tryd.underlying20
  a20 := Tryd.isAgg20
  z20 := Tryd.sizeOf20
  v20 := Tryd.zeroValue20
  t22 := Tryd.underlying32
  a22 := Tryd.isAgg32
  z22 := Tryd.sizeOf32
  v22 := Tryd.zeroValue32 }

theorem grow_any (n : Nat) (w : World) (hn : n ≤ 1000000000) :
    Calls Tryd.prog 60 #[.slice none 0 0, .int .i64 n] w fun e w' => ∃ v, e = .returned v ∧ OwnB w' w.heap.size v [] ∧ Below w.heap.size w w' := by
  obtain ⟨i0, hi, hz0, hz1, hz2⟩ := info_parts infoB
  by_cases h0 : n = 0
  · subst h0
    refine (Any8.slices_Grow_room growB_lays none 0 0 0 w (by omega) (by omega) (by omega) (by omega)).mono ?_
    rintro e w' ⟨rfl, rfl⟩
    exact ⟨_, rfl, World.ownsRow_nil _ _ _ _, Below.refl _ _⟩
  · refine (Any8.slices_Grow_grow growB_lays i0 (.int .u8 0) hi hz0 (by rw [hz1]; omega) none 0 0 n [] w (by omega) (by omega) (by rw [hz2]; omega) (by omega) (by simp) (fun _ => rfl) (fun a h => by cases h)).mono ?_
    rintro e w' ⟨rfl, rfl⟩
    refine ⟨_, rfl, ?_, ⟨rfl, rfl, rfl, by simp, fun k hk => Below.heap_alloc w.drew _ _ hk⟩⟩
    have hcap := grownCap_le_maxLen w (0 + n) 0 (growB_ren.t 25) (by unfold maxLen; omega)
    have hge := grownCap_ge w (0 + n) 0 (growB_ren.t 25)
    refine ⟨rfl, .inr ⟨w.heap.size, _, _, rfl, Nat.le_refl _, heap_new w.drew _, Nat.zero_le _, hcap, ?_, ?_⟩⟩
    · rw [Nat.zero_add] at hge
      simp [Builtin.zeroCells, Value.cells]
      omega
    · rfl

theorem below_grown {w wr w5 : World} {base k n : Nat} {t : TypeId} {v : Value} {cs : List Value} (hb : Below base w wr) (hbase : base ≤ wr.heap.size) (ho : wr.ownsRow base t k v n cs) (hg : wr.grownBy w5 v.ownBlock) : Below base w w5 := by
  refine ⟨hg.os.trans hb.os, hg.tape.trans hb.tape, hg.output.trans hb.output, Nat.le_trans hb.size hg.size, fun j hj => ?_⟩
  rw [← hb.block j hj]
  exact hg.block j (by omega) (fun e => by
    have := (ho.lt j e.symm).1
    omega)
set_option maxHeartbeats 1000000 in
set_option maxRecDepth 100000 in
theorem concat_any (v : Value) (ls : List (List UInt8)) (w : World) (hV : Prts w v ls) (hl : ls.length ≤ 1000000000) (hs : ls.flatten.length ≤ 1000000000) :
    Calls Tryd.prog 44 #[v] w fun e w' => ∃ v', e = .returned v' ∧ OwnB w' w.heap.size v' ls.flatten ∧ Below w.heap.size w w' := by
  obtain ⟨i0, hi, hz0, hz1, hz2⟩ := info_parts infoB
  obtain ⟨va, vc, rfl⟩ := hV.form
  have HV := Lib.hid hV
  clear hV
  go_enter Tryd.func44, Tryd.ntmps44
  go_wp2_with fail
  go_loopg [3, 11] ls.length (fun k s3 s11 wr => ∃ j : Nat, j ≤ ls.length ∧ k = ls.length - j ∧ s11 = .int .i64 (j : Nat) ∧ (∃ M : Nat, s3 = .int .i64 (M : Nat) ∧ M = (ls.take j).flatten.length) ∧ wr = w)
  case atStart => exact ⟨0, Nat.zero_le _, rfl, rfl, ⟨0, rfl, rfl⟩, rfl⟩
  case round =>
    obtain ⟨j, hj, hk, rfl, ⟨M, rfl, hM⟩, hwr⟩ := hrel
    subst wr
    have HK := Lib.hid hk
    have HM := Lib.hid hM
    clear hk hM
    have hj0 : (0 : Int) ≤ (j : Int) := Int.natCast_nonneg _
    by_cases hjn : j < ls.length
    · have hjn1 : (j : Int) < (ls.length : Int) := by omega
      obtain ⟨l, hlj⟩ : ∃ l, ls[j]? = some l := ⟨_, List.getElem?_eq_getElem hjn⟩
      obtain ⟨g, o, lv, rfl, hg, hgc, hB⟩ := HV.out.at hlj
      obtain ⟨la, lc, rfl, _⟩ := hB.form
      have hft : (ls.take (j + 1)).flatten.length = (ls.take j).flatten.length + l.length := by rw [flat_take ls j l hlj, List.length_append]
      have hle : (ls.take (j + 1)).flatten.length ≤ ls.flatten.length := by
        have := congrArg (fun x : List (List UInt8) => x.flatten.length) (List.take_append_drop (j + 1) ls)
        simp only [List.flatten_append, List.length_append] at this
        omega
      have hsum0 : (0 : Int) ≤ (M : Int) := Int.natCast_nonneg _
      have hsum : (M : Int) + (l.length : Int) ≤ 1000000000 := by rw [HM.out]; omega
      have hsum2 : (0 : Int) ≤ (M : Int) + (l.length : Int) := by omega
      have HFT := Lib.hid hft
      clear hft hle hlj
      go_wp2_with fail
      go_roundg (ls.length - (j + 1))
      case measure => rw [HK.out]; omega
      case rel => exact ⟨j + 1, by omega, rfl, by simp, ⟨M + l.length, by simp, by rw [HFT.out, HM.out]⟩, rfl⟩
    · have hjn1 : (ls.length : Int) ≤ (j : Int) := by omega
      have HE : Hid (ls.take j = ls) := Lib.hid (List.take_of_length_le (by omega))
      have hM2 : M ≤ 1000000000 := by rw [HM.out, HE.out]; exact hs
      go_wp2_with fail
      refine (grow_any M w hM2).mono ?_
      rintro e w1 ⟨v1, rfl, ho1, hb1⟩
      have HO1 := Lib.hid ho1
      clear ho1
      go_wp2_with fail
      go_loopg [6, 27] ls.length (fun k s6 s27 wq => ∃ i : Nat, i ≤ ls.length ∧ k = ls.length - i ∧ s27 = .int .i64 (i : Nat) ∧ OwnB wq w.heap.size s6 (ls.take i).flatten ∧ Below w.heap.size w wq)
      case atStart => exact ⟨0, Nat.zero_le _, rfl, rfl, HO1.out, hb1⟩
      case round =>
        obtain ⟨i, hi2, hk, rfl, ho, hbq⟩ := hrel
        have HK2 := Lib.hid hk
        clear hk
        have hi0 : (0 : Int) ≤ (i : Int) := Int.natCast_nonneg _
        by_cases hin : i < ls.length
        · have hin1 : (i : Int) < (ls.length : Int) := by omega
          obtain ⟨l, hli⟩ : ∃ l, ls[i]? = some l := ⟨_, List.getElem?_eq_getElem hin⟩
          obtain ⟨g, o, lv, rfl, hg, hgc, hB⟩ := HV.out.at hli
          have hgc2 : wr.cell? ⟨g, o + i, none⟩ = some lv := by rw [World.cell?_of_block (hbq.block g hg)]; exact hgc
          have HB := Lib.hid (hB.keep hbq.size hbq.block)
          have HFT := Lib.hid (flat_take ls i l hli)
          have hle : (ls.take i).flatten.length + l.length ≤ 1000000000 := by
            have h1 := congrArg (fun x : List (List UInt8) => x.flatten.length) (List.take_append_drop (i + 1) ls)
            simp only [List.flatten_append, List.length_append, HFT.out] at h1
            omega
          have HLE := Lib.hid hle
          have HO := Lib.hid ho
          have hbs := hbq.size
          clear hB hle ho hgc hli
          go_wp2_with (first | (at_builtin; refine wpList_append_byts rfl _ _ rfl w.heap.size u6 _ rfl HO.out lv l rfl HB.out HLE.out hbs ?_; intro d' w5 hown5 hgrow5 hloc5; have HOWN := Lib.hid hown5; have HGR := Lib.hid hgrow5; clear hown5 hgrow5 hloc5) | fail)
          go_roundg (ls.length - (i + 1))
          case measure => rw [HK2.out]; omega
          case rel => exact ⟨i + 1, by omega, rfl, by simp, by rw [HFT.out]; exact HOWN.out, below_grown hbq hbq.size HO.out HGR.out⟩
        · have hin1 : (ls.length : Int) ≤ (i : Int) := by omega
          have HE2 : Hid (ls.take i = ls) := Lib.hid (List.take_of_length_le (by omega))
          rw [HE2.out] at ho
          have HO := Lib.hid ho
          clear ho
          go_wp2_with fail
          go_ret
          exact ⟨_, rfl, HO.out, hbq⟩
end Go.Proofs.YtcimobbppmpmgaaDoor
