/-
  Names of the operations of a document that came in, walked.
-/
import Derived.Test.YtabcaljnpahgpaaGreatDoorK26
import Derived.Test.YtabcaljnpahgpaaGreatDoorDq
namespace Go.Proofs.YtabcaljnpahgpaaGreatDoor
set_option linter.unusedSimpArgs false
set_option linter.unusedVariables false
open Go Go.RowKit

namespace Dq
def names (l : List Op) : List (List UInt8) := (l.map Op.name).filter fun s => !s.isEmpty
theorem names_snoc (l : List Op) (o : Op) : names (l ++ [o]) = if o.name.isEmpty then names l else names l ++ [o.name] := by
  unfold names
  rw [List.map_append, List.filter_append]
  cases h : o.name.isEmpty
  · simp [h]
  · simp [h]
theorem names_len (l : List Op) : (names l).length ≤ l.length := by
  unfold names
  have := List.length_filter_le (fun s => !s.isEmpty) (l.map Op.name)
  rwa [List.length_map] at this
end Dq
set_option maxHeartbeats 1000000 in
set_option maxRecDepth 100000 in
theorem dnames_any (xs : List Dq.Op) (a : Option Addr) (c : Nat) (v2 : Value) (hv2 : ∃ p n k, v2 = .slice p n k) (w : World) (P : Nat → Prop) (hr : Reads w P (.seq 6 (xs.map Dq.Op.d)) [.slice a xs.length c]) (hl : xs.length ≤ 1000000) :
    Calls Tryz.prog 20 #[.agg #[.slice a xs.length c, v2]] w fun r w' => ∃ v, r = .returned v ∧ Below w.heap.size w w' ∧ w'.ownsRow (w.heap.size + 1) 9 1 v (Dq.names xs).length (strCells (Dq.names xs)) := by
  obtain ⟨i0, hi, hz0, hz1, hz2⟩ := info_parts infoStr
  obtain ⟨p2, n2, k2, rfl⟩ := hv2
  obtain ⟨w1, hw1⟩ : ∃ z, z = w.alloc (.cells #[.slice a xs.length c, .slice p2 n2 k2] 43) := ⟨_, rfl⟩
  have hb1 : Below w.heap.size w w1 := by rw [hw1]; exact (Below.refl _ _).alloc (Nat.le_refl _) _
  have hs1 : w1.heap.size = w.heap.size + 1 := by rw [hw1]; simp
  have HR1 := Lib.hid (hr.to (Stands.below hb1))
  have HB1 := Lib.hid hb1
  have HW1 := Lib.hid hw1
  clear hr hb1 hw1
  go_enter Tryz.func20, Tryz.ntmps20
  go_wp2_with fail
  rw [← HW1.out]
  clear HW1
  go_loopg [3, 9] (xs.length + 1) (fun k s i wr => ∃ (j m : Nat) (va : Option Addr) (vc : Nat), k = xs.length + 1 - j ∧ j ≤ xs.length ∧ i = .int .i64 j ∧ s = .slice va m vc ∧ m = (Dq.names (xs.take j)).length ∧ wr.ownsRow w1.heap.size 9 1 (.slice va m vc) m (strCells (Dq.names (xs.take j))) ∧ Below w1.heap.size w1 wr)
  case atStart => exact ⟨0, 0, none, 0, rfl, Nat.zero_le _, rfl, rfl, rfl, World.ownsRow_nil _ _ _ _, Below.refl _ _⟩
  case round =>
    obtain ⟨j, m, va, vc, hk, hj, rfl, rfl, hm, hrow, hbel⟩ := hrel
    have HK := Lib.hid hk
    have HM := Lib.hid hm
    have HBE := Lib.hid hbel
    have hml : m ≤ j := by rw [hm]; exact Nat.le_trans (Dq.names_len _) (by simp; omega)
    have HROW0 := Lib.hid hrow
    clear hk hm hrow hbel
    by_cases hjl : j < xs.length
    · have e4 : decide (j < xs.length) = true := decide_eq_true hjl
      obtain ⟨x, hx⟩ : ∃ z, xs[j]? = some z := ⟨xs[j], List.getElem?_eq_getElem hjl⟩
      have HTK : Hid (xs.take (j + 1) = xs.take j ++ [x]) := by
        rw [List.take_add_one, hx]; exact Lib.hid rfl
      obtain ⟨g, o, cs, ha, -, hgl, hlen, hcell, hd⟩ := HR1.out.el j x.d (by rw [List.getElem?_map, hx]; rfl)
      obtain ⟨a1, a2, a3, c1, c2, c3, rfl, -⟩ := Dq.Op.opened hd
      subst ha
      have k0 : wr.cell? ⟨g, o + j * 6, none⟩ = _ := (HBE.out.cell (p := ⟨g, o + j * 6, none⟩) hgl).trans (hcell 0 _ rfl)
      have k1 : wr.cell? ⟨g, o + j * 6 + 1, none⟩ = _ := (HBE.out.cell (p := ⟨g, o + j * 6 + 1, none⟩) hgl).trans (hcell 1 _ rfl)
      have k2 : wr.cell? ⟨g, o + j * 6 + 2, none⟩ = _ := (HBE.out.cell (p := ⟨g, o + j * 6 + 2, none⟩) hgl).trans (hcell 2 _ rfl)
      have k3 : wr.cell? ⟨g, o + j * 6 + 3, none⟩ = _ := (HBE.out.cell (p := ⟨g, o + j * 6 + 3, none⟩) hgl).trans (hcell 3 _ rfl)
      have k4 : wr.cell? ⟨g, o + j * 6 + 4, none⟩ = _ := (HBE.out.cell (p := ⟨g, o + j * 6 + 4, none⟩) hgl).trans (hcell 4 _ rfl)
      have k5 : wr.cell? ⟨g, o + j * 6 + 5, none⟩ = _ := (HBE.out.cell (p := ⟨g, o + j * 6 + 5, none⟩) hgl).trans (hcell 5 _ rfl)
      clear hx hlen hcell hd
      obtain ⟨nm, hnm⟩ : ∃ z, z = x.name := ⟨_, rfl⟩
      rw [← hnm] at k1
      have HNM := Lib.hid hnm
      clear hnm
      cases hem : nm with
      | nil =>
        subst hem
        go_wp2_with fail
        go_roundg (xs.length + 1 - (j + 1))
        case measure => rw [HK.out]; omega
        case rel =>
          have e : Dq.names (xs.take (j + 1)) = Dq.names (xs.take j) := by rw [HTK.out, Dq.names_snoc, ← HNM.out]; rfl
          exact ⟨j + 1, m, va, vc, rfl, hjl, by go_num, rfl, by rw [e]; exact HM.out, by rw [e]; exact HROW0.out.alloc _, HBE.out.alloc HBE.out.size _⟩
      | cons ch tl =>
        subst hem
        have hne : (ch :: tl : List UInt8) = [] ↔ False := by simp
        have HXX : Hid ((((wr.alloc (.cells #[.int .i64 x.kind, .string ⟨(ch :: tl).toArray⟩, .slice a1 x.vars.length c1, .slice a2 x.dirs.length c2, .slice a3 x.sels.length c3, .int .i64 x.at_] 49)).alloc (.cells #[.string ⟨(ch :: tl).toArray⟩] 9))).ownsRow w1.heap.size 9 1 (.slice va m vc) m (strCells (Dq.names (xs.take j)))) := Lib.hid ((HROW0.out.alloc _).alloc _)
        have HBX : Hid (Below w1.heap.size w1 ((wr.alloc (.cells #[.int .i64 x.kind, .string ⟨(ch :: tl).toArray⟩, .slice a1 x.vars.length c1, .slice a2 x.dirs.length c2, .slice a3 x.sels.length c3, .int .i64 x.at_] 49)).alloc (.cells #[.string ⟨(ch :: tl).toArray⟩] 9))) := Lib.hid ((HBE.out.alloc HBE.out.size _).alloc (by have := HBE.out.size; simp; omega) _)
        have HLIT : Hid (∀ j u, ([.string ⟨(ch :: tl).toArray⟩] : List Value)[j]? = some u → (((wr.alloc (.cells #[.int .i64 x.kind, .string ⟨(ch :: tl).toArray⟩, .slice a1 x.vars.length c1, .slice a2 x.dirs.length c2, .slice a3 x.sels.length c3, .int .i64 x.at_] 49)).alloc (.cells #[.string ⟨(ch :: tl).toArray⟩] 9))).cell? ((⟨wr.heap.size + 1, 0, none⟩ : Addr).add j) = some u) := by
          have := lit_cells (w := ((wr.alloc (.cells #[.int .i64 x.kind, .string ⟨(ch :: tl).toArray⟩, .slice a1 x.vars.length c1, .slice a2 x.dirs.length c2, .slice a3 x.sels.length c3, .int .i64 x.at_] 49)).alloc (.cells #[.string ⟨(ch :: tl).toArray⟩] 9))) (L := wr.heap.size + 1) (zs := [.string ⟨(ch :: tl).toArray⟩]) (T := 9) (fz := (0, 0)) (by
            have h1 := heap_at_new (wr.alloc (.cells #[.int .i64 x.kind, .string ⟨(ch :: tl).toArray⟩, .slice a1 x.vars.length c1, .slice a2 x.dirs.length c2, .slice a3 x.sels.length c3, .int .i64 x.at_] 49)) (.cells #[.string ⟨(ch :: tl).toArray⟩] 9)
            rw [show (wr.alloc (.cells #[.int .i64 x.kind, .string ⟨(ch :: tl).toArray⟩, .slice a1 x.vars.length c1, .slice a2 x.dirs.length c2, .slice a3 x.sels.length c3, .int .i64 x.at_] 49)).heap.size = wr.heap.size + 1 by simp] at h1
            exact h1)
          exact Lib.hid this
        have hbase : w1.heap.size ≤ (((wr.alloc (.cells #[.int .i64 x.kind, .string ⟨(ch :: tl).toArray⟩, .slice a1 x.vars.length c1, .slice a2 x.dirs.length c2, .slice a3 x.sels.length c3, .int .i64 x.at_] 49)).alloc (.cells #[.string ⟨(ch :: tl).toArray⟩] 9))).heap.size := HBX.out.size
        go_wp2_with (first | (at_builtin; refine wpList_append_own_at _ rfl _ _ 34 rfl w1.heap.size 9 i0 _ 1 16 Tryz.underlying34 hi hz0 hz1 hz2 rfl (by decide) (.slice va m vc) m (strCells (Dq.names (xs.take j))) rfl HXX.out ⟨wr.heap.size + 1, 0, none⟩ 1 1 [.string ⟨(ch :: tl).toArray⟩] rfl rfl HLIT.out (fun u hu => by simp at hu; subst hu; rfl) (by unfold maxLen; omega) (by omega) hbase ?_; intro v' w8 hrow8 hg8 hnil8 hloc8; clear hnil8 hloc8; obtain ⟨g', c', rfl, hg1, hg2⟩ := rowForm hrow8 (by omega); have HROW := Lib.hid hrow8; have HG8 := Lib.hid hg8; clear hrow8 hg8) | fail)
        go_roundg (xs.length + 1 - (j + 1))
        case measure => rw [HK.out]; omega
        case rel =>
          have e : Dq.names (xs.take (j + 1)) = Dq.names (xs.take j) ++ [ch :: tl] := by rw [HTK.out, Dq.names_snoc, ← HNM.out]; rfl
          refine ⟨j + 1, m + 1, _, _, rfl, hjl, by go_num, rfl, by rw [e, List.length_append, ← HM.out]; rfl, ?_, below_grown HBX.out HXX.out HBX.out.size HG8.out⟩
          rw [e]
          unfold strCells
          rw [List.map_append]
          exact HROW.out
    · have hje : j = xs.length := by omega
      have e4 : decide (j < xs.length) = false := decide_eq_false hjl
      have HF : Hid (xs.take j = xs) := Lib.hid (by rw [hje, List.take_length])
      clear hje
      go_wp2_with fail
      go_ret
      refine ⟨_, rfl, HB1.out.trans (HBE.out.mono HB1.out.size), ?_⟩
      have := HROW0.out
      have hm := HM.out
      rw [HF.out] at this hm
      rw [← hm, ← hs1]
      exact this
end Go.Proofs.YtabcaljnpahgpaaGreatDoor
