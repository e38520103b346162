/-
  The file system: plain words; a name's test, walked.
-/
import Derived.Test.YtcimobbppmpmgaaDoorBase
import Derived.Test.YtcimobbppmpmgaaDoorCuts
import Derived.OwnWalk
import Derived.Outline
import Derived.Deep.LoopGhost
namespace Go.Proofs.YtcimobbppmpmgaaDoor
set_option linter.unusedSimpArgs false
set_option linter.unusedVariables false
open Go Go.RowKit

/-- A slice of strings. -/
def Strs (w : World) (v : Value) (ls : List ByteArray) : Prop :=
  ∃ a cap, v = .slice a ls.length cap ∧ ∀ (i : Nat) s, ls[i]? = some s → ∃ b off, a = some ⟨b, off, none⟩ ∧ b < w.heap.size ∧ w.cell? ⟨b, off + i, none⟩ = some (.string s)
theorem Strs.form {w : World} {v : Value} {ls : List ByteArray} (h : Strs w v ls) : ∃ a cap, v = .slice a ls.length cap := by
  obtain ⟨a, cap, h1, h2⟩ := h
  exact ⟨a, cap, h1⟩
theorem Strs.at {w : World} {a : Option Addr} {n cap : Nat} {ls : List ByteArray} (h : Strs w (.slice a n cap) ls) {i : Nat} {s : ByteArray} (hi : ls[i]? = some s) :
    ∃ b off, a = some ⟨b, off, none⟩ ∧ w.cell? ⟨b, off + i, none⟩ = some (.string s) := by
  obtain ⟨a', cap', h1, h2⟩ := h
  obtain ⟨b, off, e, h3, h4⟩ := h2 i s hi
  simp only [Value.slice.injEq] at h1
  exact ⟨b, off, by rw [h1.1, e], h4⟩

namespace Fs
def goodB (c : UInt8) : Bool := (decide (97 ≤ c.toNat) && decide (c.toNat ≤ 122)) || (decide (48 ≤ c.toNat) && decide (c.toNat ≤ 57)) || decide (c.toNat = 46) || decide (c.toNat = 45)
/-- A file's name. -/
def good (l : List UInt8) : Bool := decide (1 ≤ l.length) && decide (l.length ≤ 20) && l.all goodB
end Fs

theorem all_sfx (s : ByteArray) (p : UInt8 → Bool) (a : Nat) (h : a < s.size) : (sfx s a).all p = (p (bt s a) && (sfx s (a + 1)).all p) := by
  rw [sfx_cons s a h, List.all_cons]
theorem good_size (s : ByteArray) : Fs.good s.data.toList = (decide (1 ≤ s.size) && decide (s.size ≤ 20) && (sfx s 0).all Fs.goodB) := by
  unfold Fs.good
  rw [sfx_all]
  rfl
theorem all_split (ls : List ByteArray) (p : ByteArray → Bool) (j : Nat) (s : ByteArray) (h : ls[j]? = some s) : (ls.drop j).all p = (p s && (ls.drop (j + 1)).all p) := by
  obtain ⟨hj, rfl⟩ := List.getElem?_eq_some_iff.1 h
  rw [List.drop_eq_getElem_cons hj, List.all_cons]
def goodAll (ls : List ByteArray) : Bool := ls.all fun s => Fs.good s.data.toList

set_option maxHeartbeats 1000000 in
set_option maxRecDepth 100000 in
theorem named_any (v : Value) (ls : List ByteArray) (w : World) (hV : Strs w v ls) (hl : ls.length ≤ 1000000) (hs : ∀ s ∈ ls, s.size ≤ 9223372036854775807) :
    Calls Tryd.prog 42 #[v] w fun e w' => e = .returned (.bool (goodAll ls)) ∧ w' = w := by
  obtain ⟨va, vc, rfl⟩ := hV.form
  go_enter Tryd.func42, Tryd.ntmps42
  go_wp2
  go_loopg [9] ls.length (fun k s9 wr => ∃ j : Nat, j ≤ ls.length ∧ k = ls.length - j ∧ s9 = .int .i64 (j : Nat) ∧ (ls.drop j).all (fun s => Fs.good s.data.toList) = goodAll ls ∧ wr = w)
  case atStart => exact ⟨0, Nat.zero_le _, rfl, rfl, rfl, rfl⟩
  case round =>
    obtain ⟨j, hj, hk, rfl, hall, rfl⟩ := hrel
    have HK := Lib.hid hk
    have HALL := Lib.hid hall
    clear hk hall
    have hj0 : (0 : Int) ≤ (j : Int) := Int.natCast_nonneg _
    by_cases hjn : j < ls.length
    · have hjn1 : (j : Int) < (ls.length : Int) := by omega
      obtain ⟨s, hs1⟩ : ∃ s, ls[j]? = some s := ⟨_, List.getElem?_eq_getElem hjn⟩
      have hsz := hs s (List.mem_of_getElem? hs1)
      obtain ⟨g, o, rfl, hcell⟩ := hV.at hs1
      have HSP := Lib.hid (all_split ls (fun s => Fs.good s.data.toList) j s hs1)
      have HG := Lib.hid (good_size s)
      clear hs1
      have hs0 : (0 : Int) ≤ (s.size : Int) := Int.natCast_nonneg _
      by_cases hlen : s.size < 1 ∨ 20 < s.size
      · have HF : Hid (goodAll ls = false) := by
          rw [← HALL.out, HSP.out]
          have : Fs.good s.data.toList = false := by
            rw [HG.out]
            rcases hlen with h | h
            · rw [decide_eq_false (by omega)]; rfl
            · rw [decide_eq_false (p := s.size ≤ 20) (by omega)]; simp
          refine Lib.hid ?_
          show (Fs.good s.data.toList && _) = false
          rw [this, Bool.false_and]
        rcases hlen with h | h
        · have h1 : (s.size : Int) < 1 := by omega
          go_wp2
          go_ret
          exact ⟨congrArg (fun b => Ending.returned (.bool b)) HF.out.symm, rfl⟩
        · have h1 : (1 : Int) ≤ (s.size : Int) := by omega
          have h2 : (20 : Int) < (s.size : Int) := by omega
          go_wp2
          go_ret
          exact ⟨congrArg (fun b => Ending.returned (.bool b)) HF.out.symm, rfl⟩
      · have h1 : (1 : Int) ≤ (s.size : Int) := by omega
        have h2 : (s.size : Int) ≤ 20 := by omega
        have HG2 : Hid (Fs.good s.data.toList = (sfx s 0).all Fs.goodB) := by
          rw [HG.out, decide_eq_true (by omega), decide_eq_true (by omega)]
          exact Lib.hid rfl
        clear hlen HG
        go_wp2
        go_loopg [23] s.size (fun k s23 wq => ∃ a : Nat, a ≤ s.size ∧ k = s.size - a ∧ s23 = .int .i64 (a : Nat) ∧ (sfx s a).all Fs.goodB = (sfx s 0).all Fs.goodB ∧ wq = wr)
        case atStart => exact ⟨0, Nat.zero_le _, rfl, rfl, rfl, rfl⟩
        case round =>
          obtain ⟨a, ha, hk, rfl, hal, rfl⟩ := hrel
          have HK2 := Lib.hid hk
          have HAL := Lib.hid hal
          clear hk hal
          have ha0 : (0 : Int) ≤ (a : Int) := Int.natCast_nonneg _
          by_cases hlt : a < s.size
          · have hlt1 : (a : Int) < (s.size : Int) := by omega
            have HA := Lib.hid (all_sfx s Fs.goodB a hlt)
            have HB : Hid (Fs.goodB (bt s a) = true ↔ (97 ≤ (bt s a).toNat ∧ (bt s a).toNat ≤ 122) ∨ (48 ≤ (bt s a).toNat ∧ (bt s a).toNat ≤ 57) ∨ (bt s a).toNat = 46 ∨ (bt s a).toNat = 45) := by
              refine Lib.hid ?_
              unfold Fs.goodB
              simp only [Bool.or_eq_true, Bool.and_eq_true, decide_eq_true_eq]
              omega
            have hcases : ((97 ≤ (bt s a).toNat ∧ (bt s a).toNat ≤ 122) ∨ (48 ≤ (bt s a).toNat ∧ (bt s a).toNat ≤ 57) ∨ (bt s a).toNat = 46 ∨ (bt s a).toNat = 45) ∨ (((bt s a).toNat < 48 ∧ (bt s a).toNat ≠ 46 ∧ (bt s a).toNat ≠ 45) ∨ (57 < (bt s a).toNat ∧ (bt s a).toNat < 97) ∨ 122 < (bt s a).toNat) := by omega
            rcases hcases with hgd | hbd
            · have HBB : Hid (Fs.goodB (bt s a) = true) := Lib.hid (HB.out.2 hgd)
              rcases hgd with ⟨g1, g2⟩ | ⟨g1, g2⟩ | g1 | g1
              · have q1 : (97 : Int) ≤ ((bt s a).toNat : Int) := by omega
                have q2 : ((bt s a).toNat : Int) ≤ 122 := by omega
                go_wp2
                go_roundg (s.size - (a + 1))
                case measure => rw [HK2.out]; omega
                case rel => exact ⟨a + 1, hlt, rfl, by simp, by rw [← HAL.out, HA.out, HBB.out, Bool.true_and], rfl⟩
              · have q1 : (48 : Int) ≤ ((bt s a).toNat : Int) := by omega
                have q2 : ((bt s a).toNat : Int) ≤ 57 := by omega
                go_wp2
                go_roundg (s.size - (a + 1))
                case measure => rw [HK2.out]; omega
                case rel => exact ⟨a + 1, hlt, rfl, by simp, by rw [← HAL.out, HA.out, HBB.out, Bool.true_and], rfl⟩
              · have q1 : ((bt s a).toNat : Int) = 46 := by omega
                clear g1
                go_wp2
                go_roundg (s.size - (a + 1))
                case measure => rw [HK2.out]; omega
                case rel => exact ⟨a + 1, hlt, rfl, by simp, by rw [← HAL.out, HA.out, HBB.out, Bool.true_and], rfl⟩
              · have q1 : ((bt s a).toNat : Int) = 45 := by omega
                clear g1
                go_wp2
                go_roundg (s.size - (a + 1))
                case measure => rw [HK2.out]; omega
                case rel => exact ⟨a + 1, hlt, rfl, by simp, by rw [← HAL.out, HA.out, HBB.out, Bool.true_and], rfl⟩
            · have HBB : Hid (Fs.goodB (bt s a) = false) := by
                refine Lib.hid ?_
                cases hh : Fs.goodB (bt s a)
                · rfl
                · have := HB.out.1 hh
                  omega
              rcases hbd with ⟨g1, g2, g3⟩ | ⟨g1, g2⟩ | g1
              · have q1 : ((bt s a).toNat : Int) < 48 := by omega
                have q2 := neT (n := (bt s a).toNat) (k := 46) (by omega)
                have q3 := neT (n := (bt s a).toNat) (k := 45) (by omega)
                clear g2 g3
                go_wp2
                go_ret
                refine ⟨congrArg (fun b => Ending.returned (.bool b)) ?_, rfl⟩
                rw [← HALL.out, HSP.out, HG2.out, ← HAL.out, HA.out, HBB.out]
                rfl
              · have q1 : ((bt s a).toNat : Int) < 97 := by omega
                have q4 : (57 : Int) < ((bt s a).toNat : Int) := by omega
                have q2 := neT (n := (bt s a).toNat) (k := 46) (by omega)
                have q3 := neT (n := (bt s a).toNat) (k := 45) (by omega)
                go_wp2
                go_ret
                refine ⟨congrArg (fun b => Ending.returned (.bool b)) ?_, rfl⟩
                rw [← HALL.out, HSP.out, HG2.out, ← HAL.out, HA.out, HBB.out]
                rfl
              · have q1 : (122 : Int) < ((bt s a).toNat : Int) := by omega
                have q2 := neT (n := (bt s a).toNat) (k := 46) (by omega)
                have q3 := neT (n := (bt s a).toNat) (k := 45) (by omega)
                go_wp2
                go_ret
                refine ⟨congrArg (fun b => Ending.returned (.bool b)) ?_, rfl⟩
                rw [← HALL.out, HSP.out, HG2.out, ← HAL.out, HA.out, HBB.out]
                rfl
          · have hlt1 : (s.size : Int) ≤ (a : Int) := by omega
            go_wp2
            go_roundg (ls.length - (j + 1))
            case measure => rw [HK.out]; omega
            case rel =>
              refine ⟨j + 1, hjn, rfl, by simp, ?_, rfl⟩
              rw [← HALL.out, HSP.out, HG2.out, ← HAL.out, sfx_end s a (by omega)]
              rfl
    · have hjn1 : (ls.length : Int) ≤ (j : Int) := by omega
      go_wp2
      go_ret
      refine ⟨congrArg (fun b => Ending.returned (.bool b)) ?_, rfl⟩
      rw [← HALL.out, List.drop_of_length_le (by omega)]
      rfl
end Go.Proofs.YtcimobbppmpmgaaDoor
