/-
  The file system: a directory's changes, walked.
-/
import Derived.Test.YtcimobbppmpmgaaDoorFs6
import Derived.Maps.OwnOps
namespace Go.Proofs.YtcimobbppmpmgaaDoor
set_option linter.unusedSimpArgs false
set_option linter.unusedVariables false
open Go Go.RowKit
open Go.Maps Go.WideMaps

namespace Fs
def doOne (d : Names) (c : List UInt8 × Int) : Names := if c.2 < 0 then mdel d c.1 else mput d c.1 c.2
def doAll (d : Names) (l : Names) : Names := l.foldl doOne d
theorem mins_len (x : List UInt8 × Int) : ∀ l : Names, (mins x l).length = l.length + 1
  | [] => rfl
  | y :: r => by
    unfold mins
    split
    · simp
    · simp [mins_len x r]
theorem mdel_len (l : Names) (k : List UInt8) : (mdel l k).length ≤ l.length := List.length_filter_le _ _
theorem mput_len (l : Names) (k : List UInt8) (v : Int) : (mput l k v).length ≤ l.length + 1 := by
  unfold mput
  rw [mins_len]
  have := mdel_len l k
  omega
theorem doOne_len (d : Names) (c : List UInt8 × Int) : (doOne d c).length ≤ d.length + 1 := by
  unfold doOne
  split
  · have := mdel_len d c.1; omega
  · exact mput_len _ _ _
theorem doAll_len : ∀ (l d : Names), (doAll d l).length ≤ d.length + l.length
  | [], d => Nat.le_refl _
  | c :: l, d => by
    have h1 := doAll_len l (doOne d c)
    have h2 := doOne_len d c
    unfold doAll at h1 ⊢
    rw [List.foldl_cons, List.length_cons]
    omega
end Fs

/-- The cells of changes. -/
def ChgCells (w : World) (v : Value) (l : Fs.Names) : Prop :=
  ∃ b cap, v = .slice (some ⟨b, 0, none⟩) l.length cap ∧ b < w.heap.size ∧ ∀ (i : Nat) p, l[i]? = some p → w.cell? ⟨b, i * 2, none⟩ = some (.string ⟨p.1.toArray⟩) ∧ w.cell? ⟨b, i * 2 + 1, none⟩ = some (.int .i64 p.2)

theorem MapOf.but {w w' : World} {b : Nat} {l : Fs.Names} (h : MapOf w b l) {X : Nat → Prop} (hb : But X w w') (hx : ¬ X b) : MapOf w' b l := h.heap (hb.block b h.lt hx)
theorem But.grown {X : Nat → Prop} {a w w' : World} {r : Option Nat} (h : But X a w) (hg : w.grownBy w' r) (hr : ∀ k, r = some k → X k) : But X a w' :=
  ⟨hg.os.trans h.os, hg.tape.trans h.tape, hg.output.trans h.output, Nat.le_trans h.size hg.size, fun k hk hx => by
    rw [hg.block k (Nat.lt_of_lt_of_le hk h.size) (fun e => hx (hr k e.symm))]
    exact h.block k hk hx⟩

set_option maxHeartbeats 1000000 in
set_option maxRecDepth 100000 in
theorem do_any (md : Nat) (d l : Fs.Names) (v : Value) (w : World) (hM : MapOf w md d) (hC : ChgCells w v l) (hne : ∀ b n c, v = .slice (some b) n c → b.block ≠ md) (hl : ∀ c ∈ l, c.1.length ≤ 1000000 ∧ -9223372036854775808 ≤ c.2 ∧ c.2 ≤ 9223372036854775807)
    (hn : d.length + l.length ≤ 1000000) :
    Calls Tryd.prog 34 #[.map (some md), v] w fun e w' => e = .returned (.tuple #[]) ∧ MapOf w' md (Fs.doAll d l) ∧ But (fun k => k = md) w w' := by
  obtain ⟨g, cap, rfl, hg, hcl⟩ := hC
  have hgm : g ≠ md := hne _ _ _ rfl
  go_enter Tryd.func34, Tryd.ntmps34
  go_wp2
  go_loopg [8] l.length (fun k s8 wr => ∃ j : Nat, j ≤ l.length ∧ k = l.length - j ∧ s8 = .int .i64 (j : Nat) ∧ MapOf wr md (Fs.doAll d (l.take j)) ∧ But (fun k => k = md) w wr)
  case atStart => exact ⟨0, Nat.zero_le _, rfl, rfl, hM, But.refl _ _⟩
  case round =>
    obtain ⟨j, hj, hk, rfl, hMr, hB⟩ := hrel
    have HK := Lib.hid hk
    clear hk
    have hj0 : (0 : Int) ≤ (j : Int) := Int.natCast_nonneg _
    by_cases hjn : j < l.length
    · have hjn1 : (j : Int) < (l.length : Int) := by omega
      obtain ⟨p, hp⟩ : ∃ p, l[j]? = some p := ⟨_, List.getElem?_eq_getElem hjn⟩
      obtain ⟨k0, k1⟩ := hcl j p hp
      have c0 : wr.cell? ⟨g, j * 2, none⟩ = some (.string ⟨p.1.toArray⟩) := by rw [hB.cell hg hgm]; exact k0
      have c1 : wr.cell? ⟨g, j * 2 + 1, none⟩ = some (.int .i64 p.2) := by rw [hB.cell hg hgm]; exact k1
      obtain ⟨hpl, hpa, hpb⟩ := hl p (List.mem_of_getElem? hp)
      have HTK : Hid (Fs.doAll d (l.take (j + 1)) = Fs.doOne (Fs.doAll d (l.take j)) p) := by
        unfold Fs.doAll
        rw [List.take_add_one, hp, List.foldl_append]
        exact Lib.hid rfl
      have hlen : (Fs.doAll d (l.take j)).length ≤ 1000000 := by
        have := Fs.doAll_len (l.take j) d
        rw [List.length_take] at this
        omega
      have hkey := keyOf_string_mk Tryd.underlying9 (s := ⟨p.1.toArray⟩) (show p.1.length ≤ maxLen by unfold maxLen; omega)
      have HM1 := Lib.hid (World.ownsMap.alloc hMr (.cells #[.string ⟨p.1.toArray⟩, .int .i64 p.2] 100))
      have HB1 := Lib.hid (hB.alloc (.cells #[.string ⟨p.1.toArray⟩, .int .i64 p.2] 100))
      have HW : Hid ((Lit.int .i64 p.2).wf = true) := by
        refine Lib.hid ?_
        have e1 : IntKind.i64.min = -9223372036854775808 := by decide
        have e2 : IntKind.i64.max = 9223372036854775807 := by decide
        simp [Lit.wf, e1, e2]
        omega
      clear k0 k1 hp hMr hB
      by_cases hneg : p.2 < 0
      · have HD : Hid (Fs.doOne (Fs.doAll d (l.take j)) p = Fs.mdel (Fs.doAll d (l.take j)) p.1) := by unfold Fs.doOne; rw [if_pos hneg]; exact Lib.hid rfl
        go_wp2_with (first | (at_delete; refine wpList_delete_own _ rfl _ _ 54 9 rfl 3 strKeyed Tryd.underlying54 _ md _ _ rfl HM1.out _ _ rfl hkey ?_; intro w3 hown3 hturn3) | fail)
        go_roundg (l.length - (j + 1))
        case measure => rw [HK.out]; omega
        case rel =>
          refine ⟨j + 1, hjn, rfl, by simp, ?_, HB1.out.grown hturn3.grown (fun k h => by simpa using h.symm)⟩
          rw [HTK.out, HD.out]
          rw [Fs.datum_del] at hown3
          exact MapOf.of hown3
      · have hneg2 : 0 ≤ p.2 := by omega
        have HD : Hid (Fs.doOne (Fs.doAll d (l.take j)) p = Fs.mput (Fs.doAll d (l.take j)) p.1 p.2) := by unfold Fs.doOne; rw [if_neg hneg]; exact Lib.hid rfl
        go_wp2_with (first | (at_mapUpdate; refine wpList_mapUpdate_own _ rfl _ _ _ 54 rfl 9 3 strKeyed Tryd.underlying54 _ md _ _ rfl HM1.out (by unfold maxLen; omega) _ _ _ rfl rfl hkey _ [] (plainElem_int Tryd.underlying3 HW.out) ?_; intro w3 hown3 hgrow3) | fail)
        go_roundg (l.length - (j + 1))
        case measure => rw [HK.out]; omega
        case rel =>
          refine ⟨j + 1, hjn, rfl, by simp, ?_, HB1.out.grown hgrow3 (fun k h => by simpa using h.symm)⟩
          rw [HTK.out, HD.out]
          rw [Fs.datum_put] at hown3
          exact MapOf.of hown3
    · have hjn1 : (l.length : Int) ≤ (j : Int) := by omega
      have hjl : l.take j = l := List.take_of_length_le (by omega)
      rw [hjl] at hMr
      go_wp2
      go_end0
      exact ⟨rfl, hMr, hB⟩
end Go.Proofs.YtcimobbppmpmgaaDoor
