/-
  'ManifestLast', walked. Numbers, texts, manifests that came in. What the listed variables give; a world for the witnesses (layers 5 and 6).
-/
import Derived.Test.YtcinagglbkbmkaaGreatDoorZl10
import Derived.Test.YtcinagglbkbmkaaGreatDoorZl11
import Derived.Test.YtcinagglbkbmkaaGreatDoorZl2
import Derived.Test.YtcinagglbkbmkaaGreatDoorCards
import Derived.Test.YtcinagglbkbmkaaGreatDoorTie
import Derived.WalkKit
import Derived.ProofKit
import Derived.OpenShut
import Derived.Deep.DeepHandedRow
import Derived.Lib.LaidTab
import Derived.Lib.LaidIn
import Derived.Lib.LaidU8
import Derived.Stop.LaidErr
import Derived.LaidLaws
import Derived.Carry
namespace Go.Proofs.YtcinagglbkbmkaaGreatDoor
set_option linter.unusedSimpArgs false
set_option linter.unusedVariables false
open Go Go.RowKit
open Go.Maps Go.WideMaps

/-- A slice of manifests. -/
def Manifs (w : World) (v : Value) (ms : List (Int × List Int)) : Prop :=
  ∃ a cap, v = .slice a ms.length cap ∧ ∀ (i : Nat) m, ms[i]? = some m → ∃ b off sv, a = some ⟨b, off, none⟩ ∧ b < w.heap.size ∧ w.cell? ⟨b, off + i * 2, none⟩ = some (.int .i64 m.1) ∧ w.cell? ⟨b, off + i * 2 + 1, none⟩ = some sv ∧ Ints w sv m.2
theorem Manifs.form {w : World} {v : Value} {ms : List (Int × List Int)} (h : Manifs w v ms) : ∃ a cap, v = .slice a ms.length cap := by
  obtain ⟨a, cap, h1, _⟩ := h
  exact ⟨a, cap, h1⟩
theorem Manifs.at {w : World} {a : Option Addr} {n cap : Nat} {ms : List (Int × List Int)} (h : Manifs w (.slice a n cap) ms) {i : Nat} {m : Int × List Int} (hi : ms[i]? = some m) :
    ∃ b off sv, a = some ⟨b, off, none⟩ ∧ b < w.heap.size ∧ w.cell? ⟨b, off + i * 2, none⟩ = some (.int .i64 m.1) ∧ w.cell? ⟨b, off + i * 2 + 1, none⟩ = some sv ∧ Ints w sv m.2 := by
  obtain ⟨a', cap', h1, h2⟩ := h
  obtain ⟨b, off, sv, e, h3, h4, h5⟩ := h2 i m hi
  simp only [Value.slice.injEq] at h1
  exact ⟨b, off, sv, by rw [h1.1, e], h3, h4, h5⟩
theorem Manifs.below {w w' : World} {v : Value} {l : List (Int × List Int)} (h : Manifs w v l) (hb : Below w.heap.size w w') : Manifs w' v l := by
  obtain ⟨a, cap, h1, h3⟩ := h
  refine ⟨a, cap, h1, fun i x hi => ?_⟩
  obtain ⟨b, off, sv, e, h4, h5, h6, h7⟩ := h3 i x hi
  exact ⟨b, off, sv, e, Nat.lt_of_lt_of_le h4 hb.size, by rw [World.cell?_of_block (hb.block b h4)]; exact h5, by rw [World.cell?_of_block (hb.block b h4)]; exact h6, h7.below hb⟩
theorem Strs.below {w w' : World} {v : Value} {l : List ByteArray} (h : Strs w v l) (hb : Below w.heap.size w w') : Strs w' v l := by
  obtain ⟨a, cap, h1, h3⟩ := h
  refine ⟨a, cap, h1, fun i x hi => ?_⟩
  obtain ⟨b, off, e, h4, h5⟩ := h3 i x hi
  exact ⟨b, off, e, Nat.lt_of_lt_of_le h4 hb.size, by rw [World.cell?_of_block (hb.block b h4)]; exact h5⟩
/-- The file system, and a block of the caller's own beside it. -/
structure LWorld (base B g : Nat) (w1 : World) (c : Array Value) (st : Fs.St) (V : FsV) (own : Nat → Tag) (w : World) : Prop where
  ok : FsOK base B st V own w
  bel : Below base w1 w
  cell : w.heap[g]? = some (.cells c 24 (0, 0))
  og : own g = .other
  bg : base ≤ g
  hb : base ≤ w.heap.size
section
variable {base B g : Nat} {w1 : World} {c : Array Value} {st : Fs.St} {V : FsV} {own : Nat → Tag} {w w' : World} (h : LWorld base B g w1 c st V own w)
include h
theorem LWorld.op {st' : Fs.St} (hp : OpPost base B st' own w w') : ∃ V' own', LWorld base B g w1 c st' V' own' w' := by
  have hb := hp.below0 h.ok h.hb
  obtain ⟨V', own', h1, h2, h3⟩ := hp
  have hg := heap_lt h.cell
  exact ⟨V', own', h1, h.bel.trans hb, by rw [h3.block g hg (by rw [h.og]; simp)]; exact h.cell, (h2 g hg).trans h.og, h.bg, Nat.le_trans h.hb h3.size⟩
theorem LWorld.below (hb : Below w.heap.size w w') : LWorld base B g w1 c st V own w' :=
  ⟨h.ok.kept (kept_below hb), h.bel.trans (hb.mono h.hb), by rw [hb.block g (heap_lt h.cell)]; exact h.cell, h.og, h.bg, Nat.le_trans h.hb hb.size⟩
theorem LWorld.set (k : Nat) (v : Value) : LWorld base B g w1 (c.setIfInBounds k v) st V own (w.setCell ⟨g, k, none⟩ v) :=
  ⟨h.ok.kept ((Kept.refl _ _ _).setCell ⟨g, k, none⟩ h.og v), h.bel.setCell (p := ⟨g, k, none⟩) h.bg v, heap_set h.cell v, h.og, h.bg, by simpa [World.setCell] using h.hb⟩
end
set_option maxHeartbeats 2000000 in
set_option maxRecDepth 100000 in
theorem manifestLast_any (lv ov : Value) (ms : List (Int × List Int)) (os : List ByteArray) (w : World) (B0 : Nat) (hE : MEnv B0 w) (hB : B0 ≤ w.heap.size) (hM : Manifs w lv ms) (hO : Strs w ov os)
    (hm : ms.length ≤ 9223372036854775807) (hm2 : ∀ m ∈ ms, m.2.length ≤ 9223372036854775807) (ho : os.length ≤ 9223372036854775807) (ho2 : ∀ s ∈ os, s.size ≤ 9223372036854775807) :
    Calls Tryz.prog 4 #[lv, ov] w fun e w' => e = .returned (.bool true) ∧ Below w.heap.size w w' := by
  obtain ⟨la, lc, rfl⟩ := hM.form
  obtain ⟨oa, oc, rfl⟩ := hO.form
  have HE := Lib.hid hE
  have HM := Lib.hid hM
  have HO := Lib.hid hO
  have HM2 := Lib.hid hm2
  have HO2 := Lib.hid ho2
  clear hE hM hO hm2 ho2
  go_enter Tryz.func4, Tryz.ntmps4
  go_wp2_with fail
  refine (mawake_any w B0 HE.out hB).mono ?_
  rintro e w1 ⟨rfl, hb1⟩
  have HB1 := Lib.hid hb1
  have HE1 := Lib.hid (HE.out.below (hb1.mono hB))
  have hB1 := Nat.le_trans hB hb1.size
  clear hb1
  go_wp2_with fail
  refine (new_any 60000 w1).mono ?_
  rintro e w2 ⟨hb2, hres⟩
  rcases hres with ⟨h, rfl⟩ | ⟨_, rfl, V0, hok⟩
  · omega
  · have HB2 := Lib.hid hb2
    have hz2 := hb2.size
    have HEb := Lib.hid (HE1.out.mono hB1)
    have HLW : Hid (LWorld w1.heap.size (w1.heap.size + 2) w2.heap.size w1 #[.int .i64 0, .slice none 0 0] (Fs.new 60000) V0 (tags0 w1.heap.size) (w2.alloc (.cells #[.int .i64 0, .slice none 0 0] 24))) := by
      have hbA : Below w2.heap.size w2 (w2.alloc (.cells #[.int .i64 0, .slice none 0 0] 24)) := (Below.refl _ _).alloc (Nat.le_refl _) _
      exact Lib.hid ⟨hok.kept (kept_below hbA), hb2.trans (hbA.mono hz2), heap_new _ _, hok.fresh _ (Nat.le_refl _), hz2, by simp; omega⟩
    have HMs := Lib.hid (HM.out.below HB1.out)
    have HOs := Lib.hid (HO.out.below HB1.out)
    clear hb2 hok
    go_wp2_with fail
    go_loopg [8] ms.length (fun k s8 wr => ∃ (i : Nat) (st : Fs.St) (V : FsV) (own : Nat → Tag) (last : Int × List Int) (lsv : Value), i ≤ ms.length ∧ i ≤ 20 ∧ k = ms.length - i ∧ s8 = .int .i64 (i : Nat) ∧
      LWorld w1.heap.size (w1.heap.size + 2) w2.heap.size w1 #[.int .i64 last.1, lsv] st V own wr ∧ Fs.LastInv i st last ∧ Ints w1 lsv last.2)
    case atStart => exact ⟨0, _, _, _, (0, []), _, Nat.zero_le _, by omega, rfl, rfl, HLW.out, Fs.LastInv.new, ⟨none, 0, rfl, fun i x h => by simp at h⟩⟩
    case round =>
      obtain ⟨i, st, V, own, last, lsv, hi, hi20, hk, rfl, hlw, hinv, hls⟩ := hrel
      have HK := Lib.hid hk
      have HLW := Lib.hid hlw
      have HINV := Lib.hid hinv
      have HLS := Lib.hid hls
      clear hk hlw hinv hls
      have hi0 : (0 : Int) ≤ (i : Int) := Int.natCast_nonneg _
      by_cases hin : i < ms.length ∧ i < 20
      · obtain ⟨hin1, hin2⟩ := hin
        have hin1' : (i : Int) < (ms.length : Int) := by omega
        have hin2' : (i : Int) < 20 := by omega
        obtain ⟨m, hmi⟩ : ∃ m, ms[i]? = some m := ⟨_, List.getElem?_eq_getElem hin1⟩
        obtain ⟨b, off, sv, rfl, hb, c0, c1, hsv⟩ := HMs.out.at hmi
        have hml := HM2.out m (List.mem_of_getElem? hmi)
        obtain ⟨sa, sc, rfl⟩ := hsv.form
        have d0 : wr.cell? ⟨b, off + i * 2, none⟩ = some (.int .i64 m.1) := by rw [HLW.out.bel.cell hb]; exact c0
        have d1 : wr.cell? ⟨b, off + i * 2 + 1, none⟩ = some (.slice sa m.2.length sc) := by rw [HLW.out.bel.cell hb]; exact c1
        have HSV := Lib.hid hsv
        have hl0 : (0 : Int) ≤ (m.2.length : Int) := Int.natCast_nonneg _
        clear hmi c0 c1 hsv
        by_cases hlong : 100 < m.2.length
        · have hlong' : (100 : Int) < (m.2.length : Int) := by omega
          go_wp2_with fail
          go_roundg (ms.length - (i + 1))
          case measure => rw [HK.out]; omega
          case rel => exact ⟨i + 1, st, V, own, last, lsv, by omega, by omega, rfl, by simp, HLW.out, HINV.out.next, HLS.out⟩
        · have hlong' : (m.2.length : Int) ≤ 100 := by omega
          go_wp2_with fail
          refine (save_any w1.heap.size _ st V own m.1 _ m.2 wr HLW.out.ok (HEb.out.below HLW.out.bel).sg HLW.out.hb (20 * i) HINV.out.sound (by omega) HINV.out.plan (HSV.out.below (HLW.out.bel.mono (Nat.le_refl _))) (by omega)).mono ?_
          rintro e w3 ⟨rfl, hp3⟩
          obtain ⟨V3, own3, h3⟩ := HLW.out.op hp3
          have H3 := Lib.hid h3
          have q0 : w3.cell? ⟨w2.heap.size, 0, none⟩ = some (.int .i64 last.1) := root_cell h3.cell 0 _ rfl
          have q1 : w3.cell? ⟨w2.heap.size, 1, none⟩ = some lsv := root_cell h3.cell 1 _ rfl
          have p0 : w3.frozen? ⟨w2.heap.size, 0, none⟩ = false := root_frozen h3.cell 0
          have p1 : w3.frozen? ⟨w2.heap.size, 1, none⟩ = false := root_frozen h3.cell 1
          have d0 : w3.cell? ⟨b, off + i * 2, none⟩ = some (.int .i64 m.1) := by rw [← d0]; exact World.cell?_of_block ((h3.bel.block b hb).trans (HLW.out.bel.block b hb).symm)
          have d1 : w3.cell? ⟨b, off + i * 2 + 1, none⟩ = some (.slice sa m.2.length sc) := by rw [← d1]; exact World.cell?_of_block ((h3.bel.block b hb).trans (HLW.out.bel.block b hb).symm)
          obtain ⟨st3, hst3⟩ : ∃ s, s = (Mf.save st m.1 m.2).1 := ⟨_, rfl⟩
          obtain ⟨c3, hc3⟩ : ∃ c, c = (Mf.save st m.1 m.2).2 := ⟨_, rfl⟩
          have hmid := HINV.out.mid hin2 m.1 m.2
          rw [← hst3] at H3 hmid
          rw [← hc3] at hmid ⊢
          clear hp3 h3 hst3 hc3 hlong
          rcases hmid with ⟨hc0, hmid⟩ | ⟨hc0, hmid⟩
          · subst hc0
            have HMID := Lib.hid hmid
            have H4 : Hid (LWorld w1.heap.size (w1.heap.size + 2) w2.heap.size w1 #[.int .i64 m.1, .slice sa m.2.length sc] st3 V3 own3 ((w3.setCell ⟨w2.heap.size, 0, none⟩ (.int .i64 m.1)).setCell ⟨w2.heap.size, 1, none⟩ (.slice sa m.2.length sc))) := Lib.hid ((H3.out.set 0 (.int .i64 m.1)).set 1 (.slice sa m.2.length sc))
            have HLS4 : Hid (Ints w1 (.slice sa m.2.length sc) (m.1, m.2).2) := HSV
            clear hmid
            by_cases hio : i < os.length
            · have hio' : (i : Int) < (os.length : Int) := by omega
              obtain ⟨s, hsi⟩ : ∃ s, os[i]? = some s := ⟨_, List.getElem?_eq_getElem hio⟩
              obtain ⟨bo, oo, rfl, e0⟩ := HOs.out.at hsi
              have hbo := cellLt e0
              have e1 : w3.cell? ⟨bo, oo + i, none⟩ = some (.string s) := by rw [H3.out.bel.cell hbo]; exact e0
              have hss := HO2.out s (List.mem_of_getElem? hsi)
              have hs0 : (0 : Int) ≤ (s.size : Int) := Int.natCast_nonneg _
              clear hsi
              by_cases hsl : 50 < s.size
              · have hsl' : (50 : Int) < (s.size : Int) := by omega
                go_wp2_with fail
                go_roundg (ms.length - (i + 1))
                case measure => rw [HK.out]; omega
                case rel => exact ⟨i + 1, st3, V3, own3, (m.1, m.2), (.slice sa m.2.length sc), by omega, by omega, rfl, by simp, H4.out, HMID.out.next, HLS4.out⟩
              · have hsl' : (s.size : Int) ≤ 50 := by omega
                by_cases hsf : s = ⟨#[109, 97, 110, 105, 102, 101, 115, 116]⟩
                · subst hsf
                  go_wp2_with fail
                  go_roundg (ms.length - (i + 1))
                  case measure => rw [HK.out]; omega
                  case rel => exact ⟨i + 1, st3, V3, own3, (m.1, m.2), (.slice sa m.2.length sc), by omega, by omega, rfl, by simp, H4.out, HMID.out.next, HLS4.out⟩
                · have hne : (s.toList == [109, 97, 110, 105, 102, 101, 115, 116]) = false := by
                    rw [beq_eq_false_iff_ne]
                    intro e
                    rw [ByteArray.toList_eq] at e
                    exact hsf (by apply ByteArray.ext; apply Array.ext'; exact e)
                  have hsf2 : s.data.toList ≠ Mf.final := fun e => hsf (by
                    apply ByteArray.ext
                    apply Array.ext'
                    exact e)
                  go_wp2_with fail
                  refine (create_any w1.heap.size _ st3 V3 own3 s _ H4.out.ok (by omega) (by have := HMID.out.sound.nf; omega) (by have := HMID.out.sound.nc; omega) (by have := HMID.out.sound.ndir; omega)).mono ?_
                  rintro e w5 ⟨rfl, hp5⟩
                  obtain ⟨V5, own5, h5⟩ := H4.out.op hp5
                  have HOT := Lib.hid (HMID.out.other hin2 hsf2 (decide (i % 3 = 2)))
                  obtain ⟨st5, hst5⟩ : ∃ x, x = (Fs.create st3 s.data.toList).1 := ⟨_, rfl⟩
                  have hst5' : Hid (st5 = (Fs.create st3 s.data.toList).1) := Lib.hid hst5
                  rw [← hst5] at h5 HOT
                  have e5 : w5.cell? ⟨bo, oo + i, none⟩ = some (.string s) := by rw [h5.bel.cell hbo]; exact e0
                  have H5 := Lib.hid (h5.below ((Below.refl _ _).alloc (Nat.le_refl _) (.cells #[.int .u8 1] 5)))
                  have hz5 := h5.hb
                  have HBI : Hid (BytesIn (w5.alloc (.cells #[.int .u8 1] 5)) own5 (.slice (some ⟨w5.heap.size, 0, none⟩) 1 1) [1]) := by
                    refine Lib.hid ⟨w5.heap.size, 0, 1, rfl, Nat.le_refl _, by simp, h5.ok.fresh _ (Nat.le_refl _), fun k x hk => ?_⟩
                    have hk0 : k = 0 := by have := (List.getElem?_eq_some_iff.1 hk).1; simpa using this
                    subst hk0
                    simp at hk; subst hk
                    exact cell_new _ _ _ 0 _ rfl
                  clear hp5 h5 hst5 e1
                  go_wp2_with fail
                  refine (append_any w1.heap.size _ st5 V5 own5 s _ [1] _ H5.out.ok HBI.out (by omega) (fun f hf => (HOT.out.2.1.full f hf).2) (by simp) (by have := HOT.out.2.1.ndir; omega) (by have := HOT.out.2.1.nf; omega) HOT.out.2.1.room HOT.out.2.2.1.how H5.out.hb).mono ?_
                  rintro e w6 ⟨rfl, hp6⟩
                  obtain ⟨V6, own6, h6⟩ := H5.out.op hp6
                  obtain ⟨st6, hst6⟩ : ∃ x, x = (Fs.append st5 s.data.toList [1]).1 := ⟨_, rfl⟩
                  have hst6' : Hid (st6 = (Fs.append st5 s.data.toList [1]).1) := Lib.hid hst6
                  rw [← hst6] at h6 HOT
                  have e6 : w6.cell? ⟨bo, oo + i, none⟩ = some (.string s) := by rw [h6.bel.cell hbo]; exact e0
                  have H6 := Lib.hid h6
                  clear hp6 h6 hst6 e5
                  by_cases hrm : i % 3 = 2
                  · have hr1 : ((i : Int) % 3 == 2) = true := by rw [beq_iff_eq]; omega
                    have HINV6 : Hid (Fs.LastInv (i + 1) (Fs.remove st6 s.data.toList).1 (m.1, m.2)) := by
                      have := HOT.out.1
                      unfold Fs.other at this
                      rw [decide_eq_true hrm, if_pos rfl, ← hst5'.out, ← hst6'.out] at this
                      exact Lib.hid this
                    clear hrm
                    go_wp2_with fail
                    refine (remove_any w1.heap.size _ st6 V6 own6 s w6 H6.out.ok H6.out.hb (by omega) (by have := HOT.out.2.2.2.nf; omega) (by have := HOT.out.2.2.2.nc; omega) (by have := HOT.out.2.2.2.ndir; omega)).mono ?_
                    rintro e w7 ⟨rfl, hp7⟩
                    obtain ⟨V7, own7, h7⟩ := H6.out.op hp7
                    have H7 := Lib.hid h7
                    clear hp7 h7
                    go_wp2_with fail
                    go_roundg (ms.length - (i + 1))
                    case measure => rw [HK.out]; omega
                    case rel => exact ⟨i + 1, _, V7, own7, (m.1, m.2), (.slice sa m.2.length sc), by omega, by omega, rfl, by simp, H7.out, HINV6.out, HLS4.out⟩
                  · have hr1 : ((i : Int) % 3 == 2) = false := by rw [beq_eq_false_iff_ne]; omega
                    have HINV6 : Hid (Fs.LastInv (i + 1) st6 (m.1, m.2)) := by
                      have := HOT.out.1
                      unfold Fs.other at this
                      rw [decide_eq_false hrm, if_neg (by simp), ← hst5'.out, ← hst6'.out] at this
                      exact Lib.hid this
                    clear hrm
                    go_wp2_with fail
                    go_roundg (ms.length - (i + 1))
                    case measure => rw [HK.out]; omega
                    case rel => exact ⟨i + 1, st6, V6, own6, (m.1, m.2), (.slice sa m.2.length sc), by omega, by omega, rfl, by simp, H6.out, HINV6.out, HLS4.out⟩
            · have hio' : (os.length : Int) ≤ (i : Int) := by omega
              go_wp2_with fail
              go_roundg (ms.length - (i + 1))
              case measure => rw [HK.out]; omega
              case rel => exact ⟨i + 1, st3, V3, own3, (m.1, m.2), (.slice sa m.2.length sc), by omega, by omega, rfl, by simp, H4.out, HMID.out.next, HLS4.out⟩
          · have HMID := Lib.hid hmid
            have H4 := H3
            have HLS4 := HLS
            have hc1 : (c3 == 0) = false := by rw [beq_eq_false_iff_ne]; exact hc0
            clear hmid hc0 d0 d1 q0 q1 p0 p1
            by_cases hio : i < os.length
            · have hio' : (i : Int) < (os.length : Int) := by omega
              obtain ⟨s, hsi⟩ : ∃ s, os[i]? = some s := ⟨_, List.getElem?_eq_getElem hio⟩
              obtain ⟨bo, oo, rfl, e0⟩ := HOs.out.at hsi
              have hbo := cellLt e0
              have e1 : w3.cell? ⟨bo, oo + i, none⟩ = some (.string s) := by rw [H3.out.bel.cell hbo]; exact e0
              have hss := HO2.out s (List.mem_of_getElem? hsi)
              have hs0 : (0 : Int) ≤ (s.size : Int) := Int.natCast_nonneg _
              clear hsi
              by_cases hsl : 50 < s.size
              · have hsl' : (50 : Int) < (s.size : Int) := by omega
                go_wp2_with fail
                go_roundg (ms.length - (i + 1))
                case measure => rw [HK.out]; omega
                case rel => exact ⟨i + 1, st3, V3, own3, last, lsv, by omega, by omega, rfl, by simp, H4.out, HMID.out.next, HLS4.out⟩
              · have hsl' : (s.size : Int) ≤ 50 := by omega
                by_cases hsf : s = ⟨#[109, 97, 110, 105, 102, 101, 115, 116]⟩
                · subst hsf
                  go_wp2_with fail
                  go_roundg (ms.length - (i + 1))
                  case measure => rw [HK.out]; omega
                  case rel => exact ⟨i + 1, st3, V3, own3, last, lsv, by omega, by omega, rfl, by simp, H4.out, HMID.out.next, HLS4.out⟩
                · have hne : (s.toList == [109, 97, 110, 105, 102, 101, 115, 116]) = false := by
                    rw [beq_eq_false_iff_ne]
                    intro e
                    rw [ByteArray.toList_eq] at e
                    exact hsf (by apply ByteArray.ext; apply Array.ext'; exact e)
                  have hsf2 : s.data.toList ≠ Mf.final := fun e => hsf (by
                    apply ByteArray.ext
                    apply Array.ext'
                    exact e)
                  go_wp2_with fail
                  refine (create_any w1.heap.size _ st3 V3 own3 s _ H4.out.ok (by omega) (by have := HMID.out.sound.nf; omega) (by have := HMID.out.sound.nc; omega) (by have := HMID.out.sound.ndir; omega)).mono ?_
                  rintro e w5 ⟨rfl, hp5⟩
                  obtain ⟨V5, own5, h5⟩ := H4.out.op hp5
                  have HOT := Lib.hid (HMID.out.other hin2 hsf2 (decide (i % 3 = 2)))
                  obtain ⟨st5, hst5⟩ : ∃ x, x = (Fs.create st3 s.data.toList).1 := ⟨_, rfl⟩
                  have hst5' : Hid (st5 = (Fs.create st3 s.data.toList).1) := Lib.hid hst5
                  rw [← hst5] at h5 HOT
                  have e5 : w5.cell? ⟨bo, oo + i, none⟩ = some (.string s) := by rw [h5.bel.cell hbo]; exact e0
                  have H5 := Lib.hid (h5.below ((Below.refl _ _).alloc (Nat.le_refl _) (.cells #[.int .u8 1] 5)))
                  have hz5 := h5.hb
                  have HBI : Hid (BytesIn (w5.alloc (.cells #[.int .u8 1] 5)) own5 (.slice (some ⟨w5.heap.size, 0, none⟩) 1 1) [1]) := by
                    refine Lib.hid ⟨w5.heap.size, 0, 1, rfl, Nat.le_refl _, by simp, h5.ok.fresh _ (Nat.le_refl _), fun k x hk => ?_⟩
                    have hk0 : k = 0 := by have := (List.getElem?_eq_some_iff.1 hk).1; simpa using this
                    subst hk0
                    simp at hk; subst hk
                    exact cell_new _ _ _ 0 _ rfl
                  clear hp5 h5 hst5 e1
                  go_wp2_with fail
                  refine (append_any w1.heap.size _ st5 V5 own5 s _ [1] _ H5.out.ok HBI.out (by omega) (fun f hf => (HOT.out.2.1.full f hf).2) (by simp) (by have := HOT.out.2.1.ndir; omega) (by have := HOT.out.2.1.nf; omega) HOT.out.2.1.room HOT.out.2.2.1.how H5.out.hb).mono ?_
                  rintro e w6 ⟨rfl, hp6⟩
                  obtain ⟨V6, own6, h6⟩ := H5.out.op hp6
                  obtain ⟨st6, hst6⟩ : ∃ x, x = (Fs.append st5 s.data.toList [1]).1 := ⟨_, rfl⟩
                  have hst6' : Hid (st6 = (Fs.append st5 s.data.toList [1]).1) := Lib.hid hst6
                  rw [← hst6] at h6 HOT
                  have e6 : w6.cell? ⟨bo, oo + i, none⟩ = some (.string s) := by rw [h6.bel.cell hbo]; exact e0
                  have H6 := Lib.hid h6
                  clear hp6 h6 hst6 e5
                  by_cases hrm : i % 3 = 2
                  · have hr1 : ((i : Int) % 3 == 2) = true := by rw [beq_iff_eq]; omega
                    have HINV6 : Hid (Fs.LastInv (i + 1) (Fs.remove st6 s.data.toList).1 last) := by
                      have := HOT.out.1
                      unfold Fs.other at this
                      rw [decide_eq_true hrm, if_pos rfl, ← hst5'.out, ← hst6'.out] at this
                      exact Lib.hid this
                    clear hrm
                    go_wp2_with fail
                    refine (remove_any w1.heap.size _ st6 V6 own6 s w6 H6.out.ok H6.out.hb (by omega) (by have := HOT.out.2.2.2.nf; omega) (by have := HOT.out.2.2.2.nc; omega) (by have := HOT.out.2.2.2.ndir; omega)).mono ?_
                    rintro e w7 ⟨rfl, hp7⟩
                    obtain ⟨V7, own7, h7⟩ := H6.out.op hp7
                    have H7 := Lib.hid h7
                    clear hp7 h7
                    go_wp2_with fail
                    go_roundg (ms.length - (i + 1))
                    case measure => rw [HK.out]; omega
                    case rel => exact ⟨i + 1, _, V7, own7, last, lsv, by omega, by omega, rfl, by simp, H7.out, HINV6.out, HLS4.out⟩
                  · have hr1 : ((i : Int) % 3 == 2) = false := by rw [beq_eq_false_iff_ne]; omega
                    have HINV6 : Hid (Fs.LastInv (i + 1) st6 last) := by
                      have := HOT.out.1
                      unfold Fs.other at this
                      rw [decide_eq_false hrm, if_neg (by simp), ← hst5'.out, ← hst6'.out] at this
                      exact Lib.hid this
                    clear hrm
                    go_wp2_with fail
                    go_roundg (ms.length - (i + 1))
                    case measure => rw [HK.out]; omega
                    case rel => exact ⟨i + 1, st6, V6, own6, last, lsv, by omega, by omega, rfl, by simp, H6.out, HINV6.out, HLS4.out⟩
            · have hio' : (os.length : Int) ≤ (i : Int) := by omega
              go_wp2_with fail
              go_roundg (ms.length - (i + 1))
              case measure => rw [HK.out]; omega
              case rel => exact ⟨i + 1, st3, V3, own3, last, lsv, by omega, by omega, rfl, by simp, H4.out, HMID.out.next, HLS4.out⟩
      · have hend : ((ms.length : Int) ≤ (i : Int)) ∨ ((i : Int) < (ms.length : Int) ∧ (20 : Int) ≤ (i : Int)) := by omega
        have HLD := Lib.hid HINV.out.load
        rcases hend with h1 | ⟨h1, h2⟩
        · skip
          go_wp2_with fail
          refine (load_any w1.heap.size _ st V own wr HLW.out.ok (HEb.out.below HLW.out.bel) HLW.out.hb _ HINV.out.sound).mono ?_
          rintro e w3 ⟨hb3, sv, rfl, hoi⟩
          obtain ⟨sva, svn, svc, hsv, HSVN⟩ := OwnI.form3 hoi
          subst hsv
          have hbA : Below w3.heap.size w3 (w3.alloc (.cells #[.int .i64 (Mf.load st).1.1, .slice sva svn svc] 24)) := (Below.refl _ _).alloc (Nat.le_refl _) _
          have HLA := Lib.hid ((HLW.out.below hb3).below hbA)
          have q0 : (w3.alloc (.cells #[.int .i64 (Mf.load st).1.1, .slice sva svn svc] 24)).cell? ⟨w2.heap.size, 0, none⟩ = some (.int .i64 last.1) := root_cell HLA.out.cell 0 _ rfl
          have HNA := Lib.hid (hoi.keep hbA).nums
          have HFIN : Hid (Below w.heap.size w (w3.alloc (.cells #[.int .i64 (Mf.load st).1.1, .slice sva svn svc] 24))) := Lib.hid (HB1.out.trans (HLA.out.bel.mono HB1.out.size))
          clear hb3 hoi hbA
          by_cases hz : last.1 = 0
          · have hl := HLD.out.1 hz
            rw [hl] at q0 HFIN ⊢
            rw [hz] at q0
            clear hz
            go_wp2_with fail
            go_ret
            exact ⟨rfl, HFIN.out⟩
          · have hl := HLD.out.2 hz
            rw [hl] at q0 HFIN HLA HNA ⊢
            have hne : (last.1 == 0) = false := by rw [beq_eq_false_iff_ne]; exact hz
            obtain ⟨lsa, lsc, hlsv⟩ := HLS.out.form
            subst hlsv
            have hg3 := heap_new w3 (.cells #[.int .i64 last.1, .slice sva svn svc] 24)
            have x0 := fun x => Later.cell (root_cell hg3 0 _ rfl : (w3.alloc (.cells #[.int .i64 last.1, .slice sva svn svc] 24)).cell? ⟨w3.heap.size, 0, none⟩ = some (.int .i64 last.1)) x
            have x1 := fun x => Later.cell (root_cell hg3 1 _ rfl : (w3.alloc (.cells #[.int .i64 last.1, .slice sva svn svc] 24)).cell? ⟨w3.heap.size, 1, none⟩ = some (.slice sva svn svc)) x
            have x2 := fun x => Later.cell q0 x
            have x3 := fun x => Later.cell (root_cell HLA.out.cell 1 _ rfl : (w3.alloc (.cells #[.int .i64 last.1, .slice sva svn svc] 24)).cell? ⟨w2.heap.size, 1, none⟩ = some (.slice lsa last.2.length lsc)) x
            have hgl : last.2.length ≤ 1000000000 := by have := (Mf.good_out (HINV.out.cur hz).1).2.1; omega
            have HNL : Hid (Ints (w3.alloc (.cells #[.int .i64 last.1, .slice sva svn svc] 24)) (.slice lsa last.2.length lsc) last.2) := Lib.hid (HLS.out.below HLA.out.bel)
            have HREF : Hid (∀ x : Later (w3.alloc (.cells #[.int .i64 last.1, .slice sva svn svc] 24)), Calls Tryz.prog 16 #[.agg #[.int .i64 last.1, .slice lsa last.2.length lsc]] x.1 fun e w' => e = .returned (.agg #[.int .i64 last.1, .slice lsa last.2.length lsc]) ∧ Below x.1.heap.size x.1 w') :=
              Lib.hid fun x => lref_any _ _ _ _ _
            have HSAME : Hid (∀ x : Later (w3.alloc (.cells #[.int .i64 last.1, .slice sva svn svc] 24)), Calls Tryz.prog 20 #[.agg #[.int .i64 last.1, .slice sva svn svc], .agg #[.int .i64 last.1, .slice lsa last.2.length lsc]] x.1 fun e w' => e = .returned (.bool true) ∧ Below x.1.heap.size x.1 w') :=
              Lib.hid fun x => (lsame_any last.1 last.1 _ _ last.2 last.2 _ (HNA.out.below x.2) (HNL.out.below x.2) hgl hgl).mono (by rintro e w' ⟨rfl, hb⟩; exact ⟨by rw [decide_eq_true ⟨rfl, rfl⟩], hb⟩)
            clear hz hg3
            go_wp2_with fail
            refine wp_region_later (by kernel_rfl) (by kernel_rfl) ?_
            repeat (go_big_quiet_step ((first | (with_reducible exact Later.call (v := .agg #[.int .i64 last.1, .slice lsa last.2.length lsc]) (HREF.out _)) | (with_reducible exact Later.call (v := .bool true) (HSAME.out _)))))
            refine wpQuiet_nil ?_; rintro w4 ⟨⟨_, hb4⟩, rfl⟩
            go_wp2_with fail
            go_ret
            exact ⟨rfl, HFIN.out.trans (hb4.mono HFIN.out.size)⟩
        · skip
          go_wp2_with fail
          refine (load_any w1.heap.size _ st V own wr HLW.out.ok (HEb.out.below HLW.out.bel) HLW.out.hb _ HINV.out.sound).mono ?_
          rintro e w3 ⟨hb3, sv, rfl, hoi⟩
          obtain ⟨sva, svn, svc, hsv, HSVN⟩ := OwnI.form3 hoi
          subst hsv
          have hbA : Below w3.heap.size w3 (w3.alloc (.cells #[.int .i64 (Mf.load st).1.1, .slice sva svn svc] 24)) := (Below.refl _ _).alloc (Nat.le_refl _) _
          have HLA := Lib.hid ((HLW.out.below hb3).below hbA)
          have q0 : (w3.alloc (.cells #[.int .i64 (Mf.load st).1.1, .slice sva svn svc] 24)).cell? ⟨w2.heap.size, 0, none⟩ = some (.int .i64 last.1) := root_cell HLA.out.cell 0 _ rfl
          have HNA := Lib.hid (hoi.keep hbA).nums
          have HFIN : Hid (Below w.heap.size w (w3.alloc (.cells #[.int .i64 (Mf.load st).1.1, .slice sva svn svc] 24))) := Lib.hid (HB1.out.trans (HLA.out.bel.mono HB1.out.size))
          clear hb3 hoi hbA
          by_cases hz : last.1 = 0
          · have hl := HLD.out.1 hz
            rw [hl] at q0 HFIN ⊢
            rw [hz] at q0
            clear hz
            go_wp2_with fail
            go_ret
            exact ⟨rfl, HFIN.out⟩
          · have hl := HLD.out.2 hz
            rw [hl] at q0 HFIN HLA HNA ⊢
            have hne : (last.1 == 0) = false := by rw [beq_eq_false_iff_ne]; exact hz
            obtain ⟨lsa, lsc, hlsv⟩ := HLS.out.form
            subst hlsv
            have hg3 := heap_new w3 (.cells #[.int .i64 last.1, .slice sva svn svc] 24)
            have x0 := fun x => Later.cell (root_cell hg3 0 _ rfl : (w3.alloc (.cells #[.int .i64 last.1, .slice sva svn svc] 24)).cell? ⟨w3.heap.size, 0, none⟩ = some (.int .i64 last.1)) x
            have x1 := fun x => Later.cell (root_cell hg3 1 _ rfl : (w3.alloc (.cells #[.int .i64 last.1, .slice sva svn svc] 24)).cell? ⟨w3.heap.size, 1, none⟩ = some (.slice sva svn svc)) x
            have x2 := fun x => Later.cell q0 x
            have x3 := fun x => Later.cell (root_cell HLA.out.cell 1 _ rfl : (w3.alloc (.cells #[.int .i64 last.1, .slice sva svn svc] 24)).cell? ⟨w2.heap.size, 1, none⟩ = some (.slice lsa last.2.length lsc)) x
            have hgl : last.2.length ≤ 1000000000 := by have := (Mf.good_out (HINV.out.cur hz).1).2.1; omega
            have HNL : Hid (Ints (w3.alloc (.cells #[.int .i64 last.1, .slice sva svn svc] 24)) (.slice lsa last.2.length lsc) last.2) := Lib.hid (HLS.out.below HLA.out.bel)
            have HREF : Hid (∀ x : Later (w3.alloc (.cells #[.int .i64 last.1, .slice sva svn svc] 24)), Calls Tryz.prog 16 #[.agg #[.int .i64 last.1, .slice lsa last.2.length lsc]] x.1 fun e w' => e = .returned (.agg #[.int .i64 last.1, .slice lsa last.2.length lsc]) ∧ Below x.1.heap.size x.1 w') :=
              Lib.hid fun x => lref_any _ _ _ _ _
            have HSAME : Hid (∀ x : Later (w3.alloc (.cells #[.int .i64 last.1, .slice sva svn svc] 24)), Calls Tryz.prog 20 #[.agg #[.int .i64 last.1, .slice sva svn svc], .agg #[.int .i64 last.1, .slice lsa last.2.length lsc]] x.1 fun e w' => e = .returned (.bool true) ∧ Below x.1.heap.size x.1 w') :=
              Lib.hid fun x => (lsame_any last.1 last.1 _ _ last.2 last.2 _ (HNA.out.below x.2) (HNL.out.below x.2) hgl hgl).mono (by rintro e w' ⟨rfl, hb⟩; exact ⟨by rw [decide_eq_true ⟨rfl, rfl⟩], hb⟩)
            clear hz hg3
            go_wp2_with fail
            refine wp_region_later (by kernel_rfl) (by kernel_rfl) ?_
            repeat (go_big_quiet_step ((first | (with_reducible exact Later.call (v := .agg #[.int .i64 last.1, .slice lsa last.2.length lsc]) (HREF.out _)) | (with_reducible exact Later.call (v := .bool true) (HSAME.out _)))))
            refine wpQuiet_nil ?_; rintro w4 ⟨⟨_, hb4⟩, rfl⟩
            go_wp2_with fail
            go_ret
            exact ⟨rfl, HFIN.out.trans (hb4.mono HFIN.out.size)⟩
end Go.Proofs.YtcinagglbkbmkaaGreatDoor
namespace Go.Proofs.YtcinagglbkbmkaaGreatDoor
set_option linter.unusedSimpArgs false
set_option linter.unusedVariables false
open Go Go.RowKit

theorem ints_reads {w : World} {P : Nat → Prop} {a : Option Addr} {cap : Nat} {l : List Int} (h : Reads w P (.seq 1 (l.map .int)) [.slice a l.length cap]) : Ints w (.slice a l.length cap) l := by
  obtain ⟨a', cap', e, hs⟩ := h.seq_inv
  simp only [List.length_map, List.cons.injEq, and_true, Value.slice.injEq] at e
  obtain ⟨rfl, -, rfl⟩ := e
  refine ⟨a, cap, rfl, fun i x hi => ?_⟩
  obtain ⟨g, o, cs, e, -, hg, hl, hc, hr⟩ := hs.at i (.int x) (by rw [List.getElem?_map, hi]; rfl)
  have e2 := hr.int_inv
  subst e2
  refine ⟨g, o, e, hg, ?_⟩
  have := hc 0 (.int .i64 x) rfl
  rw [Nat.zero_add, Nat.mul_one, Nat.add_zero] at this
  exact this
theorem ints_reads1 {w : World} {P : Nat → Prop} {l : List Int} {cs : List Value} (h : Reads w P (.seq 1 (l.map .int)) cs) : ∃ sv, cs = [sv] ∧ Ints w sv l := by
  obtain ⟨a, cap, e, hs⟩ := h.seq_inv
  rw [List.length_map] at e
  subst e
  exact ⟨_, rfl, ints_reads h⟩
theorem strs_reads {w : World} {P : Nat → Prop} {l : List (List UInt8)} {cs : List Value} (h : Reads w P (.seq 1 (l.map .str)) cs) : ∃ sv, cs = [sv] ∧ Strs w sv (strsOf l) := by
  obtain ⟨a, cap, e, hs⟩ := h.seq_inv
  subst e
  refine ⟨_, rfl, a, cap, by unfold strsOf; rw [List.length_map, List.length_map], fun i s hi => ?_⟩
  unfold strsOf at hi
  rw [List.getElem?_map] at hi
  cases hx : l[i]? with
  | none => rw [hx] at hi; cases hi
  | some x =>
    rw [hx] at hi
    simp at hi; subst hi
    obtain ⟨g, o, cs, e, -, hg, hl, hc, hr⟩ := hs.at i (.str x) (by rw [List.getElem?_map, hx]; rfl)
    have e2 := hr.str_inv
    subst e2
    refine ⟨g, o, e, hg, ?_⟩
    have := hc 0 _ rfl
    rw [Nat.zero_add, Nat.mul_one, Nat.add_zero] at this
    exact this
/-- A manifest as a tree. -/
def manD (m : Int × List Int) : D := .obj [.int m.1, .seq 1 (m.2.map .int)]
theorem man_reads {w : World} {P : Nat → Prop} {m : Int × List Int} {cs : List Value} (h : Reads w P (manD m) cs) : ∃ sv, cs = [.int .i64 m.1, sv] ∧ Ints w sv m.2 := by
  obtain ⟨c, r, rfl, h1, h2⟩ := h.obj_inv.cons_inv
  obtain ⟨c2, r2, rfl, h3, h4⟩ := h2.cons_inv
  have := h4.nil_inv
  subst this
  have := h1.int_inv
  subst this
  obtain ⟨sv, rfl, h5⟩ := ints_reads1 h3
  exact ⟨sv, rfl, h5⟩
theorem manifs_reads {w : World} {P : Nat → Prop} {ms : List (Int × List Int)} {cs : List Value} (h : Reads w P (.seq 2 (ms.map manD)) cs) : ∃ sv, cs = [sv] ∧ Manifs w sv ms := by
  obtain ⟨a, cap, e, hs⟩ := h.seq_inv
  subst e
  refine ⟨_, rfl, a, cap, by rw [List.length_map], fun i m hi => ?_⟩
  obtain ⟨g, o, cs, e, -, hg, hl, hc, hr⟩ := hs.at i (manD m) (by rw [List.getElem?_map, hi]; rfl)
  obtain ⟨sv, rfl, h5⟩ := man_reads hr
  have c0 := hc 0 _ rfl
  have c1 := hc 1 _ rfl
  rw [Nat.zero_add, Nat.add_zero] at c0
  rw [Nat.zero_add] at c1
  exact ⟨g, o, sv, e, hg, c0, c1, h5⟩
theorem hasT_ints : ∀ {ds : List D}, HasTe Tryz.prog 3 ds → ∃ l : List Int, ds = l.map .int
  | [], _ => ⟨[], rfl⟩
  | d :: ds, h => by
    unfold HasTe at h
    obtain ⟨n, rfl, -⟩ := h.1.int Tryz.underlying3
    obtain ⟨l, rfl⟩ := hasT_ints h.2
    exact ⟨n :: l, rfl⟩
theorem hasT_strs : ∀ {ds : List D}, HasTe Tryz.prog 9 ds → ∃ l : List (List UInt8), ds = l.map .str ∧ ∀ s ∈ l, s.length ≤ maxLen
  | [], _ => ⟨[], rfl, fun s hs => by cases hs⟩
  | d :: ds, h => by
    unfold HasTe at h
    obtain ⟨s, rfl, hs⟩ := h.1.str Tryz.underlying9
    obtain ⟨l, rfl, hl⟩ := hasT_strs h.2
    exact ⟨s :: l, rfl, fun x hx => by rcases List.mem_cons.1 hx with rfl | hx; exact hs; exact hl x hx⟩
theorem manFields : ∃ fs, Tryz.prog.underlying 24 = some (.struct fs) ∧ fs.toList.map (·.type) = [3, 22] := ⟨_, Tryz.underlying24, rfl⟩
theorem cellsInt : Tryz.prog.cellsOf 3 = 1 := by kernel_rfl
theorem cellsMan : Tryz.prog.cellsOf 24 = 2 := by kernel_rfl
theorem cellsString : Tryz.prog.cellsOf 9 = 1 := by kernel_rfl
theorem hasT_man {d : D} (h : HasT Tryz.prog 24 d) : ∃ m, d = manD m ∧ m.2.length ≤ maxLen := by
  obtain ⟨fs, hu, hf⟩ := manFields
  obtain ⟨ds, rfl, ht⟩ := h.obj hu
  rw [hf] at ht
  obtain ⟨d0, r, rfl, h0, ht⟩ := ht.cons
  obtain ⟨d1, r, rfl, h1, ht⟩ := ht.cons
  have := ht.nil
  subst this
  obtain ⟨n, rfl, -⟩ := h0.int Tryz.underlying3
  obtain ⟨ds, rfl, hl, he⟩ := h1.seq Tryz.underlying22
  obtain ⟨l, rfl⟩ := hasT_ints he
  rw [cellsInt]
  exact ⟨(n, l), rfl, by simpa using hl⟩
theorem hasT_mans : ∀ {ds : List D}, HasTe Tryz.prog 24 ds → ∃ ms : List (Int × List Int), ds = ms.map manD ∧ ∀ m ∈ ms, m.2.length ≤ maxLen
  | [], _ => ⟨[], rfl, fun s hs => by cases hs⟩
  | d :: ds, h => by
    unfold HasTe at h
    obtain ⟨m, rfl, hm⟩ := hasT_man h.1
    obtain ⟨l, rfl, hl⟩ := hasT_mans h.2
    exact ⟨m :: l, rfl, fun x hx => by rcases List.mem_cons.1 hx with rfl | hx; exact hm; exact hl x hx⟩
def manTypes : List TypeId := [41, 24, 22, 3, 42, 9]
theorem manNice : niceB Tryz.prog manTypes = true := by kernel_rfl
section
set_option maxRecDepth 20000
variable {H : Type} {enc : TypeId × Value → H} {W : World} {v : Value} {x : DataW H} {ps : List MemPlace} {sp : Nat → Bool} {r : Reach} {base : Nat}
theorem strs_arg (hv : Value.okWide Tryz.prog W r base 42 v) (h : DataW.Trod enc Tryz.prog W 0 sp true 42 v x ps) : ∃ l : List (List UInt8), Strs W v (strsOf l) ∧ l.length ≤ maxLen ∧ ∀ s ∈ l, s.length ≤ maxLen := by
  obtain ⟨a0, len, cap, rfl⟩ := Go.WideShapes.okWide_slice Tryz.underlying42 hv
  obtain ⟨d, hr, ht⟩ := open_arg manNice (by simp [manTypes]) h
  obtain ⟨ds, rfl, hl, he⟩ := ht.seq Tryz.underlying42
  obtain ⟨l, rfl, hs⟩ := hasT_strs he
  rw [cellsString] at hr
  obtain ⟨sv, e, h1⟩ := strs_reads hr
  have e : [Value.slice a0 len cap] = [sv] := e
  simp only [List.cons.injEq, and_true] at e
  subst e
  exact ⟨l, h1, by simpa using hl, hs⟩
theorem manifs_arg (hv : Value.okWide Tryz.prog W r base 41 v) (h : DataW.Trod enc Tryz.prog W 0 sp true 41 v x ps) : ∃ ms, Manifs W v ms ∧ ms.length ≤ maxLen ∧ ∀ m ∈ ms, m.2.length ≤ maxLen := by
  obtain ⟨a0, len, cap, rfl⟩ := Go.WideShapes.okWide_slice Tryz.underlying41 hv
  obtain ⟨d, hr, ht⟩ := open_arg manNice (by simp [manTypes]) h
  obtain ⟨ds, rfl, hl, he⟩ := ht.seq Tryz.underlying41
  obtain ⟨l, rfl, hs⟩ := hasT_mans he
  rw [cellsMan] at hr
  obtain ⟨sv, e, h1⟩ := manifs_reads hr
  have e : [Value.slice a0 len cap] = [sv] := e
  simp only [List.cons.injEq, and_true] at e
  subst e
  exact ⟨l, h1, by simpa using hl, hs⟩
end
end Go.Proofs.YtcinagglbkbmkaaGreatDoor
namespace Go.Proofs.YtcinagglbkbmkaaGreatDoor
set_option linter.unusedSimpArgs false
set_option linter.unusedVariables false
open Go Go.RowKit
open Go.ChangeShapes Go.WideShapes Go.ChangeAt

theorem own : ownKnob Tryz.prog.godebug = none := by kernel_rfl
theorem laidOut : laidOutB Tryz.prog = true := by kernel_rfl
/-- The list that each row bears. -/
abbrev laidList : List (String × DataW Unit) := [("math/bits.deBruijn32tab", Rows.laid_math_bits_deBruijn32tab), ("math/bits.deBruijn64tab", Rows.laid_math_bits_deBruijn64tab), ("internal/strconv.uint64pow10", Rows.laid_internal_strconv_uint64pow10), ("unicode/utf8.acceptRanges", Rows.laid_unicode_utf8_acceptRanges), ("strconv.ErrRange", Rows.laid_strconv_ErrRange), ("strconv.ErrSyntax", Rows.laid_strconv_ErrSyntax), ("unicode/utf8.first", Rows.laid_unicode_utf8_first)]
theorem starES : "*" ++ "errors.errorString" = "*errors.errorString" := by decide
theorem rowES (u : TypeId) (h : Tryz.prog.typeName? 3 u = some "*errors.errorString") : u = 301 :=
  typeName_ptr_named (nm := "errors.errorString") (by rw [starES]; kernel_rfl) (by kernel_rfl) (by decide) u (by rw [starES]; exact h)
theorem cellsES : Tryz.prog.cellsOf 303 = 1 := by kernel_rfl
theorem cellsStr : Tryz.prog.cellsOf 9 = 1 := by kernel_rfl
theorem varLt {W : World} {n : String} {g : Nat} {cs : Array Value} (hg : Tryz.prog.globalNamed n = some g) (h : W.var? Tryz.prog n = some cs) : g < W.heap.size := by
  unfold World.var? at h
  rw [hg] at h
  rcases Nat.lt_or_ge g W.heap.size with h' | h'
  · exact h'
  · simp [Array.getElem?_eq_none h'] at h
set_option maxRecDepth 100000 in
theorem env_of {W : World} (hL : laidMet Tryz.prog laidList W) (hS : W.ShapedOpen Tryz.prog) : MEnv W.heap.size W := by
  have h1 : Lib.TabIs Tryz.prog W "internal/strconv.uint64pow10" .u64 Lib.pow10Tab :=
    Lib.tabIs_of_head (g := 2) (by kernel_rfl) (by kernel_rfl) Tryz.underlying296 Tryz.underlying270 (by kernel_rfl) (by kernel_rfl) (show laidMet Tryz.prog (("internal/strconv.uint64pow10", Lib.tabData .u64 Lib.pow10Tab) :: _) W from hL.tail.tail)
  obtain ⟨a0, s0, hv0, -, -, -⟩ := laid_sentinel hL.tail.tail.tail.tail (g := 1) (by kernel_rfl) (by kernel_rfl) Tryz.underlying137 rowES Tryz.underlying301 Tryz.underlying303 rfl rfl Tryz.underlying9 cellsES cellsStr
  obtain ⟨a1, s1, hv1, -, -, -⟩ := laid_sentinel hL.tail.tail.tail.tail.tail (g := 0) (by kernel_rfl) (by kernel_rfl) Tryz.underlying137 rowES Tryz.underlying301 Tryz.underlying303 rfl rfl Tryz.underlying9 cellsES cellsStr
  have hm : ∃ m, W.cell? ⟨3, 0, none⟩ = some (.int .i64 m) := cell_of_shapedOpen_int (zero := #[.int .i64 0]) (t := 3) hS (of_decide_eq_true (by kernel_rfl)) (by kernel_rfl) rfl (by kernel_rfl) (by kernel_rfl) Tryz.underlying3
  obtain ⟨m, hm'⟩ := hm
  exact ⟨⟨h1, ⟨_, _, hv0⟩, ⟨_, _, hv1⟩, varLt (by kernel_rfl) h1, varLt (by kernel_rfl) hv0, varLt (by kernel_rfl) hv1⟩, ⟨m, hm'⟩, cellLt hm'⟩

abbrev synS : ByteArray := { data := #[105, 110, 118, 97, 108, 105, 100, 32, 115, 121, 110, 116, 97, 120] }
abbrev rngS : ByteArray := { data := #[118, 97, 108, 117, 101, 32, 111, 117, 116, 32, 111, 102, 32, 114, 97, 110, 103, 101] }
/-- So many blocks has the settled world. -/
noncomputable def low : Nat := (World.holding Tryz.prog default ⟨#[], #[], []⟩).heap.size
def tab32 : List Int := [0, 1, 28, 2, 29, 14, 24, 3, 30, 22, 20, 15, 25, 17, 4, 8, 31, 27, 13, 23, 21, 19, 16, 7, 26, 12, 18, 6, 11, 5, 10, 9]
def tab64 : List Int := [0, 1, 56, 2, 57, 49, 28, 3, 61, 58, 42, 50, 38, 29, 17, 4, 62, 47, 59, 36, 45, 43, 51, 22, 53, 39, 33, 30, 24, 18, 12, 5, 63, 55, 48, 27, 60, 41, 37, 16, 46, 35, 44, 21, 52, 32, 23, 11, 54, 26, 40, 15, 34, 20, 31, 10, 25, 14, 19, 9, 13, 8, 7, 6]
/-- The settled world, the variables holding what their initialisers lay. -/
noncomputable def laidWorld (os : Os) : World :=
  let w0 := World.holding Tryz.prog os ⟨#[.cells #[.string synS] 303, .cells #[.string rngS] 303], #[], []⟩
  let put (h : Array Obj) (g : Nat) (cs : Array Value) : Array Obj := h.modify g fun
    | .cells _ t frozen => .cells cs t frozen
    | o => o
  let h1 := put w0.heap 0 #[.iface 301 (.pointer (some ⟨low, 0, none⟩))]
  let h2 := put h1 1 #[.iface 301 (.pointer (some ⟨low + 1, 0, none⟩))]
  let h3 := put h2 2 (Lib.pow10Tab.map fun z => Value.int .u64 z).toArray
  let h4 := put h3 6 (tab32.map fun z => Value.int .u8 z).toArray
  let h5 := put h4 7 (tab64.map fun z => Value.int .u8 z).toArray
  let h6 := put h5 4 (Lib.firstTab.map fun z => Value.int .u8 z).toArray
  let h7 := put h6 5 ((List.range 16).flatMap fun i => [Value.int .u8 (Lib.accLo i), Value.int .u8 (Lib.accHi i)]).toArray
  { w0 with heap := h7 }
theorem laid_met (os : Os) (args : Array Value) : laidMet Tryz.prog laidList ((laidWorld os).forCall (fun _ _ => 0) ⟨#[], args, []⟩).memory :=
  (LaidIn.of_run (l := laidList) [0, 1, 2, 6, 7, 4, 5, low, low + 1] 8 (by kernel_rfl) (by kernel_rfl) (by kernel_rfl) (by kernel_rfl)).met
end Go.Proofs.YtcinagglbkbmkaaGreatDoor
