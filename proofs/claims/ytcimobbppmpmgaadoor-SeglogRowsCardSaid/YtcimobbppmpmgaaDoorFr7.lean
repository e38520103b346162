/-
  Frames: Scan, walked.
-/
import Derived.Test.YtcimobbppmpmgaaDoorFr6
namespace Go.Proofs.YtcimobbppmpmgaaDoor
set_option linter.unusedSimpArgs false
set_option linter.unusedVariables false
open Go Go.RowKit
open Go.Maps Go.WideMaps

namespace Fr
abbrev F := Int × List UInt8
/-- Is there a frame at the front? -/
def stop (l : List UInt8) : Bool := decide (l.length < 9) || decide (8192 < num l) || decide (l.length - 9 < num l) || decide (decE (l.take (9 + num l)) ≠ 0)
def first (l : List UInt8) : F := (kind (l.take (9 + num l)), pay (l.take (9 + num l)))
def scanGo : Nat → List UInt8 → List F → Nat → List F × Nat
  | 0, _, out, a => (out, a)
  | k + 1, l, out, a => if stop l then (out, a) else scanGo k (l.drop (9 + num l)) (out ++ [first l]) (a + (9 + num l))
/-- The frames of the front, and where they end. -/
def scan (l : List UInt8) : List F × Nat := scanGo (l.length + 1) l [] 0
end Fr

def frCells (ps : List (Fr.F × Value)) : List Value := ps.flatMap fun p => [.int .i64 p.1.1, p.2]
/-- Frames in memory of the call's own. -/
structure FrAt (w : World) (base : Nat) (v : Value) (ps : List (Fr.F × Value)) : Prop where
  row : w.ownsRow base 43 2 v ps.length (frCells ps)
  pay : ∀ p ∈ ps, OwnB w base p.2 p.1.2
  apart : ∀ p ∈ ps, ∀ g, p.2.ownBlock = some g → v.ownBlock ≠ some g
theorem FrAt.keep {w w' : World} {base : Nat} {v : Value} {ps : List (Fr.F × Value)} (h : FrAt w base v ps) (hb : Below w.heap.size w w') : FrAt w' base v ps :=
  ⟨row_kept h.row (fun g hg => hb.block g (h.row.lt g hg).2), fun p hp => (h.pay p hp).keep hb, h.apart⟩
theorem FrAt.nil (w : World) (base : Nat) : FrAt w base (.slice none 0 0) [] := ⟨World.ownsRow_nil _ _ _ _, fun p h => by simp at h, fun p h => by simp at h⟩
theorem infoF : (Tryd.prog.info? 43).map (fun i => (i.zero, i.size, i.bytes)) = some (some (.agg #[.int .i64 0, .slice none 0 0]), 2, 32) := by kernel_rfl
/-- One frame more. -/
theorem FrAt.more {w w5 : World} {base : Nat} {v v' x : Value} {ps : List (Fr.F × Value)} {f : Fr.F} (h : FrAt w base v ps) (hx : OwnB w base x f.2) (hne : ∀ g, x.ownBlock = some g → v.ownBlock ≠ some g)
    (hrow : w5.ownsRow base 43 2 v' (ps.length + 1) (frCells ps ++ [.int .i64 f.1, x])) (hg : w.grownBy w5 v.ownBlock) (hloc : v'.ownBlock = v.ownBlock ∨ v'.ownBlock = some w.heap.size) :
    FrAt w5 base v' (ps ++ [(f, x)]) := by
  have hk : ∀ (y : Value) (l : List UInt8), OwnB w base y l → (∀ g, y.ownBlock = some g → v.ownBlock ≠ some g) → OwnB w5 base y l ∧ (∀ g, y.ownBlock = some g → v'.ownBlock ≠ some g) := fun y l hy hn =>
    ⟨row_kept hy (fun g hg2 => hg.block g (hy.lt g hg2).2 (fun e => hn g hg2 e.symm)), fun g hg2 => by
      rcases hloc with e | e
      · rw [e]; exact hn g hg2
      · rw [e]
        intro e2
        have := (hy.lt g hg2).2
        simp at e2
        omega⟩
  refine ⟨?_, fun p hp => ?_, fun p hp => ?_⟩
  · rw [List.length_append]
    unfold frCells at hrow ⊢
    rw [List.flatMap_append]
    exact hrow
  · rcases List.mem_append.1 hp with hp | hp
    · exact (hk p.2 p.1.2 (h.pay p hp) (h.apart p hp)).1
    · simp at hp; subst hp; exact (hk x f.2 hx hne).1
  · rcases List.mem_append.1 hp with hp | hp
    · exact (hk p.2 p.1.2 (h.pay p hp) (h.apart p hp)).2
    · simp at hp; subst hp; exact (hk x f.2 hx hne).2

/-- What 'Scan' leaves. -/
def ScanPost (l : List UInt8) (w : World) (e : Ending) (w' : World) : Prop :=
  Below w.heap.size w w' ∧ ∃ v ps, e = .returned (.tuple #[v, .int .i64 ((Fr.scan l).2 : Nat)]) ∧ FrAt w' w.heap.size v ps ∧ ps.map (·.1) = (Fr.scan l).1

set_option maxHeartbeats 1000000 in
set_option maxRecDepth 100000 in
theorem scan_any (v : Value) (l : List UInt8) (w : World) (hV : Byts w v l) (hl : l.length ≤ 1000000000) :
    Calls Tryd.prog 28 #[v] w (ScanPost l w) := by
  obtain ⟨va, vc, rfl, hvc⟩ := hV.form
  have HVC := Lib.hid hvc
  have HV := Lib.hid hV
  obtain ⟨L, hL⟩ : ∃ L, L = l.length := ⟨_, rfl⟩
  have HL := Lib.hid hL
  have hLB : (L : Int) ≤ 1000000000 := by omega
  have hL0 : (0 : Int) ≤ (L : Int) := Int.natCast_nonneg _
  rw [← hL] at HV ⊢
  clear hvc hV hL
  go_enter Tryd.func28, Tryd.ntmps28
  go_wp2_with fail
  go_loopg [4, 5] (L + 1) (fun k s4 s5 wr => ∃ (a : Nat) (ps : List (Fr.F × Value)), a ≤ L ∧ L < k + a ∧ s5 = .int .i64 (a : Nat) ∧ FrAt wr w.heap.size s4 ps ∧ Fr.scanGo k (l.drop a) (ps.map (·.1)) a = Fr.scan l ∧ ps.length ≤ a ∧ Below w.heap.size w wr)
  case atStart => exact ⟨0, [], Nat.zero_le _, by omega, rfl, FrAt.nil _ _, by rw [HL.out]; rfl, Nat.le_refl _, Below.refl _ _⟩
  case round =>
    obtain ⟨a, ps, ha, hk, rfl, hF, hsc, hpl, hB⟩ := hrel
    have HF := Lib.hid hF
    have HSC := Lib.hid hsc
    have HPL := Lib.hid hpl
    have HB := Lib.hid hB
    clear hF hsc hpl hB
    have ha0 : (0 : Int) ≤ (a : Int) := Int.natCast_nonneg _
    have haL : (a : Int) ≤ (L : Int) := by omega
    obtain ⟨k', rfl⟩ : ∃ k', gk = k' + 1 := ⟨gk - 1, by omega⟩
    have HGO : Hid (Fr.scanGo (k' + 1) (l.drop a) (ps.map (·.1)) a = if Fr.stop (l.drop a) then (ps.map (·.1), a) else Fr.scanGo k' ((l.drop a).drop (9 + Fr.num (l.drop a))) (ps.map (·.1) ++ [Fr.first (l.drop a)]) (a + (9 + Fr.num (l.drop a)))) := Lib.hid rfl
    have HLD : Hid ((l.drop a).length = L - a) := by rw [List.length_drop, HL.out]; exact Lib.hid rfl
    have HEND : Fr.stop (l.drop a) = true → Fr.scan l = (ps.map (·.1), a) := fun h => by rw [← HSC.out, HGO.out, if_pos h]
    have HND := Lib.hid HEND
    clear HEND
    by_cases h9 : a + 9 ≤ L
    · have h9a : (9 : Int) ≤ (L : Int) - (a : Int) := by omega
      have hva : vc ≠ a := by have := HVC.out; have := HL.out; omega
      obtain ⟨x0, hx0⟩ : ∃ x, l[a]? = some x := ⟨_, List.getElem?_eq_getElem (by have := HL.out; omega)⟩
      obtain ⟨g, o, rfl, hg, _⟩ := HV.out.at hx0
      clear hx0
      have HBD : Hid (Byts wr (.slice (some ⟨g, o + a, none⟩) (L - a) (vc - a)) (l.drop a)) := by
        have h1 := (HV.out.below HB.out).part a L (vc - a) ha (by rw [HL.out]; exact Nat.le_refl _) (by have := HVC.out; have := HL.out; omega) _ (.inl rfl)
        rw [List.take_of_length_le (by rw [HLD.out]; exact Nat.le_refl _)] at h1
        exact Lib.hid h1
      go_wp2_with fail
      refine (number_any _ (l.drop a) _ HBD.out (by rw [HLD.out]; omega) (by rw [HLD.out]; omega)).mono ?_
      rintro e w1 ⟨rfl, n1, rfl⟩
      have HB1 := Lib.hid (Below.drewN HB.out n1)
      have HF1 := Lib.hid (HF.out.keep (Below.drewN (Below.refl _ _) n1))
      obtain ⟨N, hN⟩ : ∃ N, N = Fr.num (l.drop a) := ⟨_, rfl⟩
      have HN := Lib.hid hN
      rw [← hN]
      clear hN
      have hN0 : (0 : Int) ≤ (N : Int) := Int.natCast_nonneg _
      by_cases hbig : 8192 < N
      · have hb2 : (8192 : Int) < (N : Int) := by omega
        have HS : Hid (Fr.stop (l.drop a) = true) := by
          unfold Fr.stop
          rw [← HN.out, decide_eq_true hbig]
          exact Lib.hid (by simp)
        clear hbig
        go_wp2_with fail
        refine bodyPost_ret (v := .tuple #[u4, .int .i64 (a : Nat)]) (by simp [results, Tryd.results28, go_sem]) rfl ?_
        exact ⟨HB1.out, u4, ps, by rw [HND.out HS.out], HF1.out, by rw [HND.out HS.out]⟩
      · have hb2 : (N : Int) ≤ 8192 := by omega
        clear hbig
        by_cases hlong : L < a + 9 + N
        · have hl2 : (L : Int) - (a : Int) - 9 < (N : Int) := by omega
          have HS : Hid (Fr.stop (l.drop a) = true) := by
            unfold Fr.stop
            rw [← HN.out, HLD.out, decide_eq_true (p := L - a - 9 < N) (by omega)]
            exact Lib.hid (by simp)
          clear hlong
          go_wp2_with fail
          refine bodyPost_ret (v := .tuple #[u4, .int .i64 (a : Nat)]) (by simp [results, Tryd.results28, go_sem]) rfl ?_
          exact ⟨HB1.out, u4, ps, by rw [HND.out HS.out], HF1.out, by rw [HND.out HS.out]⟩
        · have hl2 : (N : Int) ≤ (L : Int) - (a : Int) - 9 := by omega
          have hw1 : ((a : Int) + 9 + (N : Int)).toNat = a + 9 + N := by omega
          have hw2 : (a : Int) + 9 + (N : Int) ≤ (vc : Int) := by have := HVC.out; have := HL.out; omega
          have hw3 : (0 : Int) ≤ (a : Int) + 9 + (N : Int) := by omega
          have hw4 : (a : Int) ≤ (a : Int) + 9 + (N : Int) := by omega
          have HBD2 : Hid (Byts (wr.drewN n1) (.slice (some ⟨g, o + a, none⟩) (a + 9 + N - a) (vc - a)) ((l.drop a).take (9 + Fr.num (l.drop a)))) := by
            have h1 := (HV.out.below HB1.out).part a (a + 9 + N) (vc - a) (by omega) (by rw [← HL.out]; omega) (by have := HVC.out; have := HL.out; omega) _ (.inl rfl)
            rw [show (l.drop a).take (a + 9 + N - a) = (l.drop a).take (9 + Fr.num (l.drop a)) by rw [← HN.out, show a + 9 + N - a = 9 + N by omega]] at h1
            exact Lib.hid h1
          go_wp2_with fail
          refine (decode_any _ ((l.drop a).take (9 + Fr.num (l.drop a))) _ HBD2.out (by rw [List.length_take, List.length_drop]; omega)).mono ?_
          rintro e w2 ⟨hb2', hres⟩
          have HB2 := Lib.hid (HB1.out.trans (hb2'.mono HB1.out.size))
          have HF2 := Lib.hid (HF1.out.keep hb2')
          have HBD3 := Lib.hid hb2'
          clear hb2'
          rcases hres with ⟨h0, v2, rfl, ho⟩ | ⟨h0, rfl⟩
          · obtain ⟨da2, dn2, dc2, hd2, HN2⟩ := OwnB.form3 ho
            subst hd2
            have HO := Lib.hid ho
            have HD0 := Lib.hid h0
            clear ho h0
            obtain ⟨K, hK⟩ : ∃ K, K = Fr.kind ((l.drop a).take (9 + Fr.num (l.drop a))) := ⟨_, rfl⟩
            have HKK := Lib.hid hK
            rw [← hK]
            clear hK
            obtain ⟨i0, hi, hz0, hz1, hz2⟩ := info_parts infoF
            have hpl : ps.length ≤ 1000000000 := by have := HPL.out; omega
            have hbW : Below w2.heap.size w2 ((w2.alloc (.cells #[.int .i64 K, .slice da2 dn2 dc2] 43)).alloc (.cells #[.int .i64 K, .slice da2 dn2 dc2] 43)) := ((Below.refl _ _).alloc (Nat.le_refl _) _).alloc (by simp) _
            have HFW := Lib.hid (HF2.out.keep hbW)
            have HOW := Lib.hid ((HO.out.keep hbW).mono HB1.out.size)
            have HBW := Lib.hid (HB2.out.trans (hbW.mono HB2.out.size))
            have hbase := HBW.out.size
            have HCN : Hid (∀ (j : Nat) u, [Value.int .i64 K, Value.slice da2 dn2 dc2][j]? = some u → ((w2.alloc (.cells #[.int .i64 K, .slice da2 dn2 dc2] 43)).alloc (.cells #[.int .i64 K, .slice da2 dn2 dc2] 43)).cell? ((⟨w2.heap.size + 1, 0, none⟩ : Addr).add j) = some u) := by
              refine Lib.hid fun j u hj => ?_
              rw [addr_add]
              have := cell_new (w2.alloc (.cells #[.int .i64 K, .slice da2 dn2 dc2] 43)) #[.int .i64 K, .slice da2 dn2 dc2] 43 j u (by simpa using hj)
              rw [show (w2.alloc (.cells #[.int .i64 K, .slice da2 dn2 dc2] 43)).heap.size = w2.heap.size + 1 by simp] at this
              exact this
            have HONE : Hid (∀ u ∈ [Value.int .i64 K, Value.slice da2 dn2 dc2], u.oneCell' = true) := Lib.hid (fun u hu => by simp at hu; rcases hu with rfl | rfl <;> rfl)
            have HAP : Hid (∀ g, (Value.slice da2 dn2 dc2).ownBlock = some g → u4.ownBlock ≠ some g) := Lib.hid (fun g hg e => by
              have h1 := (HO.out.lt g hg).1
              have h2 := (HF.out.row.lt g e).2
              have h3 : (wr.drewN n1).heap.size = wr.heap.size := rfl
              omega)
            have HS0 : Hid (Fr.stop (l.drop a) = false) := by
              unfold Fr.stop
              have e1 := HD0.out
              rw [← HN.out] at e1
              rw [HLD.out, ← HN.out]
              exact Lib.hid (by simp [e1]; omega)
            have HF' : Hid (Fr.scanGo k' (l.drop (a + (9 + N))) ((ps ++ [((K, Fr.pay ((l.drop a).take (9 + Fr.num (l.drop a)))), Value.slice da2 dn2 dc2)]).map (·.1)) (a + (9 + N)) = Fr.scan l) := by
              refine Lib.hid ?_
              rw [← HSC.out, HGO.out, if_neg (by rw [HS0.out]; simp), List.drop_drop, List.map_append, HKK.out, HN.out]
              rfl
            clear hbW
            go_wp2_with (first | (at_builtin; refine wpList_append_own_at _ rfl _ _ 75 rfl w.heap.size 43 i0 _ 2 32 Tryd.underlying75 hi hz0 hz1 hz2 rfl (by decide) u4 ps.length (frCells ps) rfl HFW.out.row ⟨w2.heap.size + 1, 0, none⟩ 1 1 [.int .i64 K, .slice da2 dn2 dc2] rfl rfl HCN.out HONE.out (by unfold maxLen; omega) (by omega) hbase ?_; intro d' w5 hown5 hgrow5 hnil5 hloc5; clear hnil5; have HNEW := Lib.hid (FrAt.more (f := (K, Fr.pay ((l.drop a).take (9 + Fr.num (l.drop a))))) HFW.out HOW.out HAP.out hown5 hgrow5 hloc5); have HB5 := Lib.hid (below_grown HBW.out hbase HFW.out.row hgrow5); clear hloc5 hown5 hgrow5) | fail)
            go_roundg k'
            case measure => omega
            case rel =>
              exact ⟨a + (9 + N), _, by omega, by omega, by simp, HNEW.out, HF'.out, by rw [List.length_append]; have := HPL.out; simp; omega, HB5.out⟩
          · have ht : (Fr.decE ((l.drop a).take (9 + Fr.num (l.drop a))) != 0) = true := by rw [bne_iff_ne]; exact h0
            have HS : Hid (Fr.stop (l.drop a) = true) := by
              unfold Fr.stop
              rw [decide_eq_true h0]
              exact Lib.hid (by simp)
            clear h0
            have hbE : Below w2.heap.size w2 (w2.alloc (.cells #[.int .i64 0, .slice none 0 0] 43)) := (Below.refl _ _).alloc (Nat.le_refl _) _
            have HBE := Lib.hid (HB2.out.trans (hbE.mono HB2.out.size))
            have HFE := Lib.hid (HF2.out.keep hbE)
            clear hbE
            go_wp2_with fail
            refine bodyPost_ret (v := .tuple #[u4, .int .i64 (a : Nat)]) (by simp [results, Tryd.results28, go_sem]) rfl ?_
            exact ⟨HBE.out, u4, ps, by rw [HND.out HS.out], HFE.out, by rw [HND.out HS.out]⟩
    · have h9a : (L : Int) - (a : Int) < 9 := by omega
      have HS : Hid (Fr.stop (l.drop a) = true) := by
        unfold Fr.stop
        rw [HLD.out, decide_eq_true (p := L - a < 9) (by omega)]
        exact Lib.hid rfl
      go_wp2_with fail
      refine bodyPost_ret (v := .tuple #[u4, .int .i64 (a : Nat)]) (by simp [results, Tryd.results28, go_sem]) rfl ?_
      exact ⟨HB.out, u4, ps, by rw [HND.out HS.out], HF.out, by rw [HND.out HS.out]⟩
end Go.Proofs.YtcimobbppmpmgaaDoor
