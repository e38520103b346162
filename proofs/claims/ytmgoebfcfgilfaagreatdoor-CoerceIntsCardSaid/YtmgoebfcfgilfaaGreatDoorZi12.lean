/-
  The lexer's 'dedent', walked.
-/
import Derived.Test.YtmgoebfcfgilfaaGreatDoorZi11
import Derived.Test.YtmgoebfcfgilfaaGreatDoorZi10
import Derived.Outline
import Derived.Deep.LoopGhost
import Derived.Deep.DeepCutAuto
namespace Go.Proofs.YtmgoebfcfgilfaaGreatDoor
set_option linter.unusedSimpArgs false
set_option linter.unusedVariables false
open Go Go.RowKit

/-- A block of strings. -/
def Row (w : World) (g : Nat) (ls : List (List UInt8)) : Prop := w.heap[g]? = some (.cells (ls.map fun x => Value.string ⟨x.toArray⟩).toArray 9 (0, 0))
theorem Row.lt {w : World} {g : Nat} {ls : List (List UInt8)} (h : Row w g ls) : g < w.heap.size := by
  rcases Nat.lt_or_ge g w.heap.size with h' | h'
  · exact h'
  · unfold Row at h; simp [Array.getElem?_eq_none h'] at h
theorem Row.cell {w : World} {g i : Nat} {ls : List (List UInt8)} {x : List UInt8} (h : Row w g ls) (hi : ls[i]? = some x) : w.cell? ⟨g, i, none⟩ = some (.string ⟨x.toArray⟩) := by
  unfold Row at h; simp [World.cell?, h, hi]
theorem Row.frozen {w : World} {g : Nat} {ls : List (List UInt8)} (h : Row w g ls) (i : Nat) : w.frozen? ⟨g, i, none⟩ = false := by
  unfold Row at h; simp [World.frozen?, h]
theorem Row.below {w w' : World} {g : Nat} {ls : List (List UInt8)} (h : Row w g ls) (hb : Below w.heap.size w w') : Row w' g ls := by
  have hl := h.lt; unfold Row at *; rw [hb.block g hl]; exact h
theorem Row.set {w : World} {g : Nat} {ls : List (List UInt8)} (h : Row w g ls) (i : Nat) (y : List UInt8) : Row (w.setCell ⟨g, i, none⟩ (.string ⟨y.toArray⟩)) g (ls.set i y) := by
  unfold Row at *
  simp [World.setCell, Array.getElem?_modify, h, List.map_set]

theorem Row.drewN {w : World} {g : Nat} {ls : List (List UInt8)} (h : Row w g ls) (n : Nat) : Row (w.drewN n) g ls := h
theorem extract_list (x : List UInt8) (a : Nat) : (ByteArray.mk x.toArray).extract a x.length = ⟨(x.drop a).toArray⟩ := extract_sfx ⟨x.toArray⟩ a
theorem drop_min (x : List UInt8) (c : Int) (h : 0 ≤ c) : x.drop (min c (x.length : Int)).toNat = x.drop c.toNat := by
  by_cases h1 : c ≤ x.length
  · rw [Int.min_eq_left h1]
  · rw [Int.min_eq_right (by omega), List.drop_of_length_le (by omega), List.drop_of_length_le (by omega)]

theorem splitNl (raw : List UInt8) (w : World) (hE : Env w) (hr : (Lx.nl raw).length ≤ 100000) :
    Calls Tryz.prog 254 #[.string ⟨(Lx.nl raw).toArray⟩, .string ⟨#[10]⟩] w fun e w' => e = .returned (.slice (some ⟨w.heap.size, 0, none⟩) (Lx.lines raw).length (Lx.lines raw).length) ∧ Row w' w.heap.size (Lx.lines raw) ∧ Below w.heap.size w w' := by
  obtain ⟨_, m, hm⟩ := hE
  refine (Tryz.strings_Split _ _ m w (by show (Lx.nl raw).length < _; omega) hm (by decide)).mono ?_
  rintro e w' ⟨rfl, rfl⟩
  rw [Lx.lines_len]
  refine ⟨rfl, ?_, (Below.refl _ _).alloc (Nat.le_refl _) _⟩
  unfold Row
  show (w.heap.push _)[w.heap.size]? = _
  simp [Lx.lines, Lx.linesB, Function.comp_def]

theorem replAll (s old : List UInt8) (w : World) (hE : Env w) (h1 : 1 ≤ old.length) (hr : s.length ≤ 100000) :
    Calls Tryz.prog 255 #[.string ⟨s.toArray⟩, .string ⟨old.toArray⟩, .string ⟨#[10]⟩] w fun e w' => e = .returned (.string ⟨(Lib.replaceAll s old [10]).toArray⟩) ∧ Below w.heap.size w w' := by
  obtain ⟨_, m, hm⟩ := hE
  have hc := Lib.count_le s old
  refine (Tryz.strings_ReplaceAll ⟨s.toArray⟩ ⟨old.toArray⟩ ⟨#[10]⟩ m w (by show s.length < _; omega) hm h1 ?_).mono ?_
  · show s.length + Lib.count s old * 1 ≤ _
    omega
  · rintro e w' ⟨rfl, hb⟩
    exact ⟨rfl, hb⟩

theorem indent_list (x : List UInt8) (w : World) (hl : x.length ≤ 100000) :
    Calls Tryz.prog 256 #[.string ⟨x.toArray⟩] w fun e w' => e = .returned (.int .i64 (Lx.ind x)) ∧ Below w.heap.size w w' := indent_any ⟨x.toArray⟩ w hl

theorem foldl_take_succ {α β : Type} (f : α → β → α) (a : α) (l : List β) (i : Nat) (x : β) (h : l[i]? = some x) : (l.take (i + 1)).foldl f a = f ((l.take i).foldl f a) x := by
  rw [List.take_add_one, h, List.foldl_append]; rfl

theorem List.getElem?_take_of_some {α : Type} {l : List α} {m i : Nat} {y : α} (h : (l.take m)[i]? = some y) : l[i]? = some y := by
  rw [List.getElem?_take] at h
  split at h
  · exact h
  · cases h

theorem joinNl (g o n cap : Nat) (xs : List (List UInt8)) (w : World) (hc : ∀ (i : Nat) y, xs[i]? = some y → w.cell? ⟨g, o + i, none⟩ = some (.string ⟨y.toArray⟩)) (hg : g < w.heap.size)
    (hn : xs.length = n) (hcap : n ≤ cap) (hl : ∀ y ∈ xs, y.length ≤ 100000) (hn2 : n ≤ 100000) :
    Calls Tryz.prog 257 #[.slice (some ⟨g, o, none⟩) n cap, .string ⟨#[10]⟩] w fun e w' => e = .returned (.string ⟨(Lib.join xs [10]).toArray⟩) ∧ Below w.heap.size w w' := by
  have hmap : (xs.map fun x => (ByteArray.mk x.toArray)).map (·.data.toList) = xs := by simp [Function.comp_def]
  have hlen := Lx.join_le xs 100000 hl
  have := Tryz.strings_Join g o cap (xs.map fun x => ByteArray.mk x.toArray) ⟨#[10]⟩ w (by
      intro j x h
      rw [List.getElem?_map] at h
      cases hx : xs[j]? with
      | none => rw [hx] at h; simp at h
      | some y =>
        rw [hx] at h
        simp only [Option.map_some, Option.some.injEq] at h
        subst h
        exact hc j y hx) hg (by rw [List.length_map]; omega) (by rw [List.length_map]; omega) (by
      rw [hmap]
      have h1 : xs.length * 100001 ≤ 100000 * 100001 := Nat.mul_le_mul_right _ (by omega)
      show (Lib.join xs [10]).length ≤ _
      omega)
  rw [hmap, List.length_map, hn] at this
  exact this

def DedPost (raw : List UInt8) (w : World) (e : Ending) (w' : World) : Prop := e = .returned (.string ⟨(Lx.dedent raw).toArray⟩) ∧ Below w.heap.size w w'

set_option maxHeartbeats 8000000 in
set_option maxRecDepth 100000 in
theorem dedent_any (raw : List UInt8) (w : World) (hE : Env w) (hr : raw.length ≤ 5000) : Calls Tryz.prog 240 #[.string ⟨raw.toArray⟩] w (DedPost raw w) := by
  have hl1 := Lx.replaceAll_len raw [13, 10] [10] rfl
  have hnl := Lx.nl_len raw
  go_enter Tryz.func240, Tryz.ntmps240
  go_wp2_with fail
  refine (replAll raw [13, 10] w hE (by decide) (by omega)).mono ?_
  rintro e w1 ⟨rfl, hb1⟩
  go_wp2_with fail
  refine (replAll _ [13] w1 (hE.below hb1) (by decide) (by omega)).mono ?_
  rintro e w2 ⟨rfl, hb2⟩
  have hb12 := hb1.trans (hb2.mono hb1.size)
  have hE2 := hE.below hb12
  go_wp2_with fail
  refine (splitNl raw w2 hE2 (by omega)).mono ?_
  rintro e w3 ⟨rfl, hR, hb3⟩
  have hll := Lx.lines_le raw
  have hli := Lx.line_le raw
  have hl0 := Lx.lines_len raw
  have hB : Below w.heap.size w w3 := hb12.trans (hb3.mono hb12.size)
  have hg : w.heap.size ≤ w2.heap.size := hb12.size
  have HF : Hid (Lx.dedent raw = Lib.join (Lx.trimEnd ((Lx.strip (Lx.common (Lx.lines raw).tail) (Lx.lines raw)).dropWhile Lx.allSp)) [10]) := rfl
  generalize hls : Lx.lines raw = ls at *
  have h1 : 1 ≤ ls.length := by omega
  have HLI := Lib.hid hli
  clear hli hl0 hls hb1 hb2 hb12 hb3 hnl hl1 hE hE2
  generalize w2.heap.size = g at *
  go_upto_region 3 with (fail)
  go_cut [3, 14, 15, 16] (fun s3 s14 s15 s16 wx => wx = w3 ∧ ∃ o1, s3 = .slice (some ⟨g, 0, none⟩) ls.length ls.length ∧ s14 = .slice (some ⟨g, o1, none⟩) (ls.length - 1) (ls.length - 1) ∧ (2 ≤ ls.length → o1 = 1) ∧ s15 = .int .i64 ((ls.length - 1 : Nat) : Int) ∧ s16 = .int .i64 0)
  case first =>
    by_cases hn1 : ls.length = 1
    · rw [hn1]
      go_wp2
      go_meet
      exact ⟨rfl, 0, by rw [hn1], by rw [hn1], by omega, by rw [hn1]; rfl, rfl⟩
    · have hn2 : 2 ≤ ls.length := by omega
      have HN1 := Lib.hid hn1
      clear hn1
      go_wp2
      go_meet
      exact ⟨rfl, 1, rfl, rfl, fun _ => rfl, rfl, rfl⟩
  case rest =>
    obtain ⟨rfl, o1, rfl, rfl, ho1, rfl, rfl⟩ := hcut
    have HO1 := Lib.hid ho1
    clear ho1
    go_wp2_with fail
    go_loopg [4, 16] (ls.length - 1) (fun k s4 s16 wr => ∃ i : Nat, k = ls.length - 1 - i ∧ i ≤ ls.length - 1 ∧ s16 = .int .i64 i ∧ s4 = .int .i64 ((ls.tail.take i).foldl Lx.comStep (-1)) ∧ Below wc.heap.size wc wr)
    case atStart => exact ⟨0, by omega, by omega, rfl, rfl, Below.refl _ _⟩
    case round =>
      obtain ⟨i, hk, hi, rfl, rfl, hb⟩ := hrel
      have HK := Lib.hid hk
      clear hk
      by_cases hlt : i < ls.length - 1
      · have ho := HO1.out (by omega)
        subst ho
        obtain ⟨x, hx⟩ : ∃ x, ls[1 + i]? = some x := ⟨ls[1 + i]'(by omega), List.getElem?_eq_getElem _⟩
        have hxl := HLI.out x (List.mem_of_getElem? hx)
        have hx1 : (ls.tail)[i]? = some x := by rw [List.getElem?_tail, Nat.add_comm]; exact hx
        have HF := Lib.hid (foldl_take_succ Lx.comStep (-1) ls.tail i x hx1)
        have hcell : wr.cell? ⟨g, 1 + i, none⟩ = some (.string ⟨x.toArray⟩) := (hR.below hb).cell hx
        have hcg := Lx.common_ge (ls.tail.take i) (-1) (by omega)
        have hcg2 : -1 ≤ List.foldl Lx.comStep (-1) (List.take i ls.tail) ∧ List.foldl Lx.comStep (-1) (List.take i ls.tail) ≤ 1000000000 := by
          rcases hcg with h' | ⟨y, hy, h'⟩
          · omega
          · have := HLI.out y (List.mem_of_mem_tail (List.mem_of_mem_take hy))
            omega
        obtain ⟨hc1, hc2⟩ := hcg2
        clear hcg hx hx1
        generalize List.foldl Lx.comStep (-1) (List.take i ls.tail) = c at *
        have hil := Lx.ind_le x
        have hi0 : (0 : Int) ≤ (i : Int) := Int.natCast_nonneg _
        have hi1 : (i : Int) < ((ls.length - 1 : Nat) : Int) := by omega
        have hsz : (ByteArray.mk x.toArray).size = x.length := rfl
        have hcase : (decide (Lx.ind x < x.length) = false ∧ Lx.comStep c x = c) ∨
            (decide (Lx.ind x < x.length) = true ∧ decide (c < 0) = true ∧ Lx.comStep c x = Lx.ind x) ∨
            (decide (Lx.ind x < x.length) = true ∧ decide (c < 0) = false ∧ decide ((Lx.ind x : Int) < c) = true ∧ Lx.comStep c x = Lx.ind x) ∨
            (decide (Lx.ind x < x.length) = true ∧ decide (c < 0) = false ∧ decide ((Lx.ind x : Int) < c) = false ∧ Lx.comStep c x = c) := by
          unfold Lx.comStep
          by_cases a1 : Lx.ind x < x.length
          · by_cases a2 : c < 0
            · exact .inr (.inl ⟨by simpa using a1, by simpa using a2, by rw [if_pos ⟨by omega, .inl a2⟩]⟩)
            · by_cases a3 : (Lx.ind x : Int) < c
              · exact .inr (.inr (.inl ⟨by simpa using a1, by simpa using a2, by simpa using a3, by rw [if_pos ⟨by omega, .inr a3⟩]⟩))
              · exact .inr (.inr (.inr ⟨by simpa using a1, by simpa using a2, by simpa using a3, by rw [if_neg (by omega)]⟩))
          · exact .inl ⟨by simpa using a1, by rw [if_neg (by omega)]⟩
        rcases hcase with ⟨e1, e4⟩ | ⟨e1, e2, e4⟩ | ⟨e1, e2, e3, e4⟩ | ⟨e1, e2, e3, e4⟩
        all_goals
          have E4 := Lib.hid e4
          clear e4
          go_wp2_with fail
          refine (indent_list x wr (by omega)).mono ?_
          rintro e w5 ⟨rfl, hb5⟩
          have hb6 := hb.trans (hb5.mono hb.size)
          go_wp2
          go_roundg (ls.length - 1 - (i + 1))
          case measure => rw [HK.out]; omega
          case rel => exact ⟨i + 1, rfl, by omega, by go_num, by rw [HF.out, E4.out], hb6⟩
      · have hie : i = ls.length - 1 := by omega
        have hi1 : ((ls.length - 1 : Nat) : Int) ≤ (i : Int) := by omega
        have hct : List.take i ls.tail = ls.tail := List.take_of_length_le (by rw [List.length_tail]; omega)
        rw [hct]
        have hcg := Lx.common_ge ls.tail (-1) (by omega)
        have hcg2 : -1 ≤ Lx.common ls.tail ∧ Lx.common ls.tail ≤ 1000000000 := by
          rcases hcg with h' | ⟨y, hy, h'⟩
          · unfold Lx.common; omega
          · have := HLI.out y (List.mem_of_mem_tail hy)
            omega
        change Code.wp _ _ _ { tmps := _, defers := _ } _
        have HCM : Hid (Lx.common ls.tail = List.foldl Lx.comStep (-1) ls.tail) := rfl
        rw [← HCM.out]
        have hR2 := hR.below hb
        have hB2 : Below w.heap.size w wr := hB.trans (hb.mono hB.size)
        obtain ⟨hc1, hc2⟩ := hcg2
        generalize Lx.common ls.tail = c at *
        clear hcg hct HCM hR hb hB hie hi HK
        go_wp2_with fail
        go_loopg [39] ls.length (fun k s39 wq => ∃ j : Nat, k = ls.length - j ∧ j ≤ ls.length ∧ s39 = .int .i64 j ∧ Row wq g ((Lx.strip c ls).take j ++ ls.drop j) ∧ Below w.heap.size w wq)
        case atStart => exact ⟨0, by omega, by omega, rfl, by simpa using hR2, hB2⟩
        case round =>
          obtain ⟨j, hk, hj, rfl, hRq, hBq⟩ := hrel
          have HK := Lib.hid hk
          clear hk hR2 hB2
          by_cases hlt : j < ls.length
          · obtain ⟨x, hx⟩ : ∃ x, ls[j]? = some x := ⟨ls[j], List.getElem?_eq_getElem _⟩
            have hxl := HLI.out x (List.mem_of_getElem? hx)
            have htl : ((Lx.strip c ls).take j).length = j := by rw [List.length_take, Lx.strip_len]; omega
            have hcur : ((Lx.strip c ls).take j ++ ls.drop j)[j]? = some x := by
              rw [List.getElem?_append_right (by omega), htl, List.getElem?_drop, Nat.sub_self, Nat.add_zero]; exact hx
            have hnext : ((Lx.strip c ls).take j ++ ls.drop j).set j (Lx.stripAt c j x) = (Lx.strip c ls).take (j + 1) ++ ls.drop (j + 1) := by
              rw [List.set_append_right _ _ (by omega), htl, Nat.sub_self, List.drop_eq_getElem_cons hlt, List.set_cons_zero, List.take_add_one, Lx.strip_get, hx]
              simp
            have hcell := hRq.cell hcur
            have hfz := hRq.frozen j
            have HNX := Lib.hid hnext
            have hj0 : (0 : Int) ≤ (j : Int) := Int.natCast_nonneg _
            have hj1 : (j : Int) < (ls.length : Int) := by omega
            have hsz : (ByteArray.mk x.toArray).size = x.length := rfl
            by_cases hdo : 0 < j ∧ 0 < c
            · have HST : Hid (Lx.stripAt c j x = x.drop c.toNat) := by unfold Lx.stripAt; rw [if_pos hdo]; rfl
              obtain ⟨hd1, hd2⟩ := hdo
              have hd1' : (0 : Int) < (j : Int) := by omega
              clear hx htl hcur hnext
              go_wp2_with fail
              refine wp_region_cuts [15] (by kernel_rfl) (by kernel_rfl) ?_; simp only [wpMix, List.take_succ_cons, List.take_zero, List.drop_succ_cons, List.drop_zero, Nat.sub_zero, Nat.reduceSub, Nat.reduceAdd]
              repeat (go_big_quiet_step (fail))
              refine wpQuiet_nil ?_; rintro _ ⟨nq, rfl⟩
              go_wp2
              repeat (go_big_quiet_step (fail))
              refine wpQuiet_nil ?_; rintro _ ⟨nq, rfl⟩
              go_wp2
              go_roundg (ls.length - (j + 1))
              case measure => rw [HK.out]; omega
              case rel =>
                refine ⟨j + 1, rfl, by omega, by go_num, ?_, ?_⟩
                · have h1 : ∀ n m : Nat, Row (((wr.drewN n).setCell ⟨g, j, none⟩ (.string ((ByteArray.mk x.toArray).extract (min c (x.length : Int)).toNat x.length))).drewN m) g ((Lx.strip c ls).take (j + 1) ++ ls.drop (j + 1)) := fun n m => by
                    rw [extract_list, drop_min x c (by omega), ← HNX.out, HST.out]
                    exact ((hRq.drewN n).set j _).drewN m
                  exact h1 _ _
                · exact Below.drewN (Below.setCell (Below.drewN hBq _) hg _) _
            · have HST : Hid (Lx.stripAt c j x = x) := by unfold Lx.stripAt; rw [if_neg hdo]; rfl
              have hcase : j = 0 ∨ ((0 : Int) < (j : Int) ∧ c ≤ 0) := by omega
              have HR : Hid (Row wr g ((Lx.strip c ls).take (j + 1) ++ ls.drop (j + 1))) := by
                rw [← HNX.out, HST.out]
                have : ((Lx.strip c ls).take j ++ ls.drop j).set j x = (Lx.strip c ls).take j ++ ls.drop j := by
                  apply List.ext_getElem?
                  intro m
                  rw [List.getElem?_set]
                  split
                  · rename_i h'
                    subst h'
                    split
                    · exact hcur.symm
                    · rename_i h''
                      rw [List.getElem?_eq_none (by omega)]
                  · rfl
                rw [this]
                exact hRq
              clear hx htl hcur hnext hdo
              rcases hcase with rfl | ⟨e1, e2⟩
              · go_wp2
                go_roundg (ls.length - 1)
                case measure => rw [HK.out]; omega
                case rel => exact ⟨1, rfl, by omega, rfl, HR.out, hBq⟩
              · go_wp2
                go_roundg (ls.length - (j + 1))
                case measure => rw [HK.out]; omega
                case rel => exact ⟨j + 1, rfl, by omega, by go_num, HR.out, hBq⟩
          · have hje : j = ls.length := by omega
            have hj1 : (ls.length : Int) ≤ (j : Int) := by omega
            have hjd : decide (j < ls.length) = false := by simp; omega
            have hR3 : Row wr g (Lx.strip c ls) := by
              rw [hje, List.take_of_length_le (by rw [Lx.strip_len]; omega), List.drop_of_length_le (by omega), List.append_nil] at hRq
              exact hRq
            have hl3 := Lx.strip_len c ls
            have hli3 : ∀ y, y ∈ Lx.strip c ls → y.length ≤ 4 * raw.length + 3 := by
              intro y hy
              obtain ⟨m, hm⟩ := List.getElem?_of_mem hy
              rw [Lx.strip_get] at hm
              cases hlm : ls[m]? with
              | none => rw [hlm] at hm; simp at hm
              | some z =>
                rw [hlm] at hm
                simp only [Option.map_some, Option.some.injEq] at hm
                subst hm
                have h1 := Lx.stripAt_le c m z
                have h2 := HLI.out z (List.mem_of_getElem? hlm)
                omega
            have HL3 := Lib.hid hli3
            clear hli3 hRq hje HK hlt
            generalize Lx.strip c ls = ms at *
            go_wp2_with fail
            go_loopg [3] ls.length (fun k s3 wq => ∃ j o : Nat, k = ls.length - j ∧ j ≤ ls.length ∧ s3 = .slice (some ⟨g, o, none⟩) (ls.length - j) (ls.length - j) ∧ (j < ls.length → o = j) ∧ (ms.drop j).dropWhile Lx.allSp = ms.dropWhile Lx.allSp ∧ Below wr.heap.size wr wq)
            case atStart => exact ⟨0, 0, by omega, by omega, rfl, fun _ => rfl, rfl, Below.refl _ _⟩
            case round =>
              obtain ⟨j, o, hk, hj, rfl, ho, hdw, hb⟩ := hrel
              obtain ⟨wq, rfl⟩ : ∃ wq : World, wq = wr := ⟨_, rfl⟩
              have HK := Lib.hid hk
              have HO := Lib.hid ho
              have HDW := Lib.hid hdw
              clear hk ho hdw
              by_cases hlt : j < ls.length
              · have hoj := HO.out hlt
                subst hoj
                obtain ⟨x, hx⟩ : ∃ x, ms[o]? = some x := ⟨ms[o]'(by omega), List.getElem?_eq_getElem _⟩
                have hxl := HL3.out x (List.mem_of_getElem? hx)
                have hcell := (hR3.below hb).cell hx
                have hcl : ∀ y : Later wq, y.1.cell? ⟨g, o, none⟩ = some (.string ⟨x.toArray⟩) := fun y => Later.cell hcell y
                have hsz : (ByteArray.mk x.toArray).size = x.length := rfl
                have hdc : ms.drop o = x :: ms.drop (o + 1) := by
                  rw [List.drop_eq_getElem_cons (by omega)]
                  have := (List.getElem?_eq_some_iff.1 hx).2
                  rw [this]
                have HDC := Lib.hid hdc
                have hp0 : (0 : Int) < ((ls.length - o : Nat) : Int) := by omega
                have hp1 : 0 < ls.length - o := by omega
                clear hx hdc
                cases hsp : Lx.allSp x
                · have e1 : (Lx.ind x == x.length) = false := hsp
                  have e2 : ((Lx.ind x : Int) == (x.length : Int)) = false := eqF (by simp at e1; omega)
                  have HSP := Lib.hid hsp
                  clear hsp
                  go_wp2_with fail
                  refine wp_region_later (by kernel_rfl) (by kernel_rfl) ?_
                  repeat (go_big_quiet_step (((exact Later.call (v := .int .i64 (Lx.ind x)) (indent_list x _ (by omega))))))
                  refine wpQuiet_nil ?_; rintro w5 ⟨⟨_, hb5⟩, rfl⟩
                  have hks : ms.dropWhile Lx.allSp = ms.drop o := by
                    rw [← HDW.out, HDC.out, List.dropWhile_cons, HSP.out]
                    simp
                  obtain ⟨ks, HFK, hkl, hcs⟩ : ∃ ks, Hid (Lx.dedent raw = Lib.join (Lx.trimEnd ks) [10]) ∧ ks.length = ls.length - o ∧ (∀ (i : Nat) y, ks[i]? = some y → ms[o + i]? = some y) :=
                    ⟨ms.drop o, by rw [← hks]; exact HF, by rw [List.length_drop]; omega, fun i y h => by rw [List.getElem?_drop] at h; exact h⟩
                  have hbw := hb.trans (hb5.mono hb.size)
                  clear hks HDC HDW hcell hcl hp0 hp1 HSP e1 e2
                  have HCS := Lib.hid hcs
                  clear hcs HF
                  go_wp2_with fail
                  go_loopg [3] (ls.length - o) (fun k s3 wq => ∃ m : Nat, k = m ∧ m ≤ (ls.length - o) ∧ s3 = .slice (some ⟨g, o, none⟩) m (ls.length - o) ∧ Lx.trimEnd (ks.take m) = Lx.trimEnd ks ∧ Below wr.heap.size wr wq)
                  case atStart => exact ⟨_, rfl, Nat.le_refl _, rfl, by rw [List.take_of_length_le (by omega)], (by first | exact hbw | exact Below.drewN hbw _)⟩
                  case round =>
                    obtain ⟨m, hk, hm, rfl, htr, hb⟩ := hrel
                    have hR4 := hR3.below hb
                    have hB4 := hBq.trans (hb.mono hBq.size)
                    have HK4 := Lib.hid hk
                    have HTR := Lib.hid htr
                    clear hk htr hbw
                    by_cases hm0 : 0 < m
                    · obtain ⟨x, hx⟩ : ∃ x, ks[m - 1]? = some x := ⟨ks[m - 1]'(by omega), List.getElem?_eq_getElem _⟩
                      have hxl := HL3.out x (List.mem_of_getElem? (HCS.out _ _ hx))
                      have hcell := hR4.cell (HCS.out _ _ hx)
                      have hcl : ∀ y : Later wr, y.1.cell? ⟨g, o + (m - 1), none⟩ = some (.string ⟨x.toArray⟩) := fun y => Later.cell hcell y
                      have hsz : (ByteArray.mk x.toArray).size = x.length := rfl
                      have htk : ks.take m = ks.take (m - 1) ++ [x] := by
                        have := List.take_add_one (l := ks) (i := m - 1)
                        rw [show m - 1 + 1 = m by omega, hx] at this
                        exact this
                      have HTK := Lib.hid htk
                      have hq0 : (0 : Int) < (m : Int) := by omega
                      have hq1 : (0 : Int) ≤ (m : Int) - 1 := by omega
                      have hq2 : (m : Int) - 1 < (m : Int) := by omega
                      clear hx htk
                      cases hsp : Lx.allSp x
                      · have e1 : (Lx.ind x == x.length) = false := hsp
                        have e2 : ((Lx.ind x : Int) == (x.length : Int)) = false := eqF (by simp at e1; omega)
                        have HSP := Lib.hid hsp
                        clear hsp
                        have HEND : Hid (Lx.dedent raw = Lib.join (ks.take m) [10]) := by
                          rw [HFK.out, ← HTR.out, HTK.out, Lx.trimEnd_snoc, HSP.out]
                          rfl
                        go_wp2_with fail
                        refine wp_region_later (by kernel_rfl) (by kernel_rfl) ?_
                        repeat (go_big_quiet_step (((exact Later.call (v := .int .i64 (Lx.ind x)) (indent_list x _ (by omega))))))
                        refine wpQuiet_nil ?_; rintro w6 ⟨⟨_, hb6⟩, rfl⟩
                        have hR6 := hR4.below hb6
                        have hB6 := hB4.trans (hb6.mono hB4.size)
                        have HJ := Lib.hid (joinNl g o m (ls.length - o) (ks.take m) w6 (fun i y h => hR6.cell (HCS.out i y (List.getElem?_take_of_some h))) hR6.lt (by rw [List.length_take]; omega) hm (fun y hy => by
                          obtain ⟨i, hi⟩ := List.getElem?_of_mem (List.mem_of_mem_take hy)
                          have := HL3.out y (List.mem_of_getElem? (HCS.out _ _ hi))
                          omega) (by omega))
                        clear hcell hcl e1 e2
                        go_wp2_with fail
                        refine HJ.out.mono ?_
                        rintro e w7 ⟨rfl, hb7⟩
                        go_wp2
                        go_ret
                        exact ⟨by rw [HEND.out]; rfl, hB6.trans (hb7.mono hB6.size)⟩
                      · have e1 : (Lx.ind x == x.length) = true := hsp
                        have e2 : ((Lx.ind x : Int) == (x.length : Int)) = true := eqT (by simp at e1; omega)
                        have HSP := Lib.hid hsp
                        clear hsp
                        go_wp2_with fail
                        refine wp_region_later (by kernel_rfl) (by kernel_rfl) ?_
                        repeat (go_big_quiet_step (((exact Later.call (v := .int .i64 (Lx.ind x)) (indent_list x _ (by omega))))))
                        refine wpQuiet_nil ?_; rintro w6 ⟨⟨_, hb6⟩, rfl⟩
                        go_wp2
                        go_roundg (m - 1)
                        case measure => rw [HK4.out]; omega
                        case rel =>
                          refine ⟨m - 1, rfl, by omega, rfl, ?_, hb.trans (hb6.mono hb.size)⟩
                          rw [← HTR.out, HTK.out, Lx.trimEnd_snoc, HSP.out]
                          rfl
                    · have hm1 : m = 0 := by omega
                      subst hm1
                      have HEND : Hid (Lx.dedent raw = Lib.join [] [10]) := by
                        rw [HFK.out, ← HTR.out]
                        rfl
                      have hn0 : ¬ (0 : Int) < ((0 : Nat) : Int) := by omega
                      have HJ : Hid (∀ n : Nat, Calls Tryz.prog 257 #[.slice (some ⟨g, o, none⟩) 0 (ls.length - o), .string ⟨#[10]⟩] (wr.drewN n) fun e w' => e = .returned (.string ⟨(Lib.join [] [10]).toArray⟩) ∧ Below (wr.drewN n).heap.size (wr.drewN n) w') :=
                        fun n => joinNl g o 0 (ls.length - o) [] (wr.drewN n) (fun i y h => by simp at h) (hR4.drewN n).lt rfl hm (fun y hy => by simp at hy) (by omega)
                      clear hn0
                      go_wp2_with fail
                      go_quiet (fail)
                      go_wp2_with fail
                      refine (HJ.out _).mono ?_
                      rintro e w7 ⟨rfl, hb7⟩
                      go_wp2
                      go_ret
                      exact ⟨by rw [HEND.out]; rfl, hB4.trans ((Below.undrew hb7).mono hB4.size)⟩
                · have e1 : (Lx.ind x == x.length) = true := hsp
                  have e2 : ((Lx.ind x : Int) == (x.length : Int)) = true := eqT (by simp at e1; omega)
                  have HSP := Lib.hid hsp
                  clear hsp
                  have hdn : (ms.drop (o + 1)).dropWhile Lx.allSp = ms.dropWhile Lx.allSp := by
                    rw [← HDW.out, HDC.out, List.dropWhile_cons, HSP.out]
                    simp
                  have HDN := Lib.hid hdn
                  clear hdn
                  by_cases hlast : ls.length - o = 1
                  · go_wp2_with fail
                    refine wp_region_later (by kernel_rfl) (by kernel_rfl) ?_
                    repeat (go_big_quiet_step (((exact Later.call (v := .int .i64 (Lx.ind x)) (indent_list x _ (by omega))))))
                    refine wpQuiet_nil ?_; rintro w5 ⟨⟨_, hb5⟩, rfl⟩
                    go_wp2
                    go_roundg (ls.length - (o + 1))
                    case measure => rw [HK.out]; omega
                    case rel => exact ⟨o + 1, o, rfl, by omega, by rw [show ls.length - (o + 1) = 0 by omega], by omega, HDN.out, hb.trans (hb5.mono hb.size)⟩
                  · have hl2 : 1 < ls.length - o := by omega
                    have HLA := Lib.hid hlast
                    clear hlast
                    go_wp2_with fail
                    refine wp_region_later (by kernel_rfl) (by kernel_rfl) ?_
                    repeat (go_big_quiet_step (((exact Later.call (v := .int .i64 (Lx.ind x)) (indent_list x _ (by omega))))))
                    refine wpQuiet_nil ?_; rintro w5 ⟨⟨_, hb5⟩, rfl⟩
                    go_wp2
                    go_roundg (ls.length - (o + 1))
                    case measure => rw [HK.out]; omega
                    case rel => exact ⟨o + 1, o + 1, rfl, by omega, by rw [Nat.sub_sub], fun _ => rfl, HDN.out, hb.trans (hb5.mono hb.size)⟩
              · have hjn : j = ls.length := by omega
                have hks : ms.dropWhile Lx.allSp = [] := by
                  rw [← HDW.out, List.drop_of_length_le (by omega)]
                  rfl
                obtain ⟨ks, HFK, hkl, hcs⟩ : ∃ ks, Hid (Lx.dedent raw = Lib.join (Lx.trimEnd ks) [10]) ∧ ks.length = 0 ∧ (∀ (i : Nat) y, ks[i]? = some y → ms[o + i]? = some y) :=
                    ⟨[], by rw [← hks]; exact HF, rfl, fun i y h => by simp at h⟩
                have hj0 : ls.length - j = 0 := by omega
                have hj1 : ¬ (0 : Int) < ((ls.length - j : Nat) : Int) := by omega
                have hj2 : ls.length ≤ j := by omega
                have hbw := hb
                clear hjn hj0 hks
                go_wp2_with fail
                go_quiet (fail)
                have HCS := Lib.hid hcs
                clear hcs HF
                go_wp2_with fail
                go_loopg [3] 0 (fun k s3 wq => ∃ m : Nat, k = m ∧ m ≤ 0 ∧ s3 = .slice (some ⟨g, o, none⟩) m 0 ∧ Lx.trimEnd (ks.take m) = Lx.trimEnd ks ∧ Below wr.heap.size wr wq)
                case atStart => exact ⟨_, rfl, Nat.le_refl _, rfl, by rw [List.take_of_length_le (by omega)], (by first | exact hbw | exact Below.drewN hbw _)⟩
                case round =>
                  obtain ⟨m, hk, hm, rfl, htr, hb⟩ := hrel
                  have hR4 := hR3.below hb
                  have hB4 := hBq.trans (hb.mono hBq.size)
                  have HK4 := Lib.hid hk
                  have HTR := Lib.hid htr
                  clear hk htr hbw
                  by_cases hm0 : 0 < m
                  · obtain ⟨x, hx⟩ : ∃ x, ks[m - 1]? = some x := ⟨ks[m - 1]'(by omega), List.getElem?_eq_getElem _⟩
                    have hxl := HL3.out x (List.mem_of_getElem? (HCS.out _ _ hx))
                    have hcell := hR4.cell (HCS.out _ _ hx)
                    have hcl : ∀ y : Later wr, y.1.cell? ⟨g, o + (m - 1), none⟩ = some (.string ⟨x.toArray⟩) := fun y => Later.cell hcell y
                    have hsz : (ByteArray.mk x.toArray).size = x.length := rfl
                    have htk : ks.take m = ks.take (m - 1) ++ [x] := by
                      have := List.take_add_one (l := ks) (i := m - 1)
                      rw [show m - 1 + 1 = m by omega, hx] at this
                      exact this
                    have HTK := Lib.hid htk
                    have hq0 : (0 : Int) < (m : Int) := by omega
                    have hq1 : (0 : Int) ≤ (m : Int) - 1 := by omega
                    have hq2 : (m : Int) - 1 < (m : Int) := by omega
                    clear hx htk
                    cases hsp : Lx.allSp x
                    · have e1 : (Lx.ind x == x.length) = false := hsp
                      have e2 : ((Lx.ind x : Int) == (x.length : Int)) = false := eqF (by simp at e1; omega)
                      have HSP := Lib.hid hsp
                      clear hsp
                      have HEND : Hid (Lx.dedent raw = Lib.join (ks.take m) [10]) := by
                        rw [HFK.out, ← HTR.out, HTK.out, Lx.trimEnd_snoc, HSP.out]
                        rfl
                      go_wp2_with fail
                      refine wp_region_later (by kernel_rfl) (by kernel_rfl) ?_
                      repeat (go_big_quiet_step (((exact Later.call (v := .int .i64 (Lx.ind x)) (indent_list x _ (by omega))))))
                      refine wpQuiet_nil ?_; rintro w6 ⟨⟨_, hb6⟩, rfl⟩
                      have hR6 := hR4.below hb6
                      have hB6 := hB4.trans (hb6.mono hB4.size)
                      have HJ := Lib.hid (joinNl g o m 0 (ks.take m) w6 (fun i y h => hR6.cell (HCS.out i y (List.getElem?_take_of_some h))) hR6.lt (by rw [List.length_take]; omega) hm (fun y hy => by
                        obtain ⟨i, hi⟩ := List.getElem?_of_mem (List.mem_of_mem_take hy)
                        have := HL3.out y (List.mem_of_getElem? (HCS.out _ _ hi))
                        omega) (by omega))
                      clear hcell hcl e1 e2
                      go_wp2_with fail
                      refine HJ.out.mono ?_
                      rintro e w7 ⟨rfl, hb7⟩
                      go_wp2
                      go_ret
                      exact ⟨by rw [HEND.out]; rfl, hB6.trans (hb7.mono hB6.size)⟩
                    · have e1 : (Lx.ind x == x.length) = true := hsp
                      have e2 : ((Lx.ind x : Int) == (x.length : Int)) = true := eqT (by simp at e1; omega)
                      have HSP := Lib.hid hsp
                      clear hsp
                      go_wp2_with fail
                      refine wp_region_later (by kernel_rfl) (by kernel_rfl) ?_
                      repeat (go_big_quiet_step (((exact Later.call (v := .int .i64 (Lx.ind x)) (indent_list x _ (by omega))))))
                      refine wpQuiet_nil ?_; rintro w6 ⟨⟨_, hb6⟩, rfl⟩
                      go_wp2
                      go_roundg (m - 1)
                      case measure => rw [HK4.out]; omega
                      case rel =>
                        refine ⟨m - 1, rfl, by omega, rfl, ?_, hb.trans (hb6.mono hb.size)⟩
                        rw [← HTR.out, HTK.out, Lx.trimEnd_snoc, HSP.out]
                        rfl
                  · have hm1 : m = 0 := by omega
                    subst hm1
                    have HEND : Hid (Lx.dedent raw = Lib.join [] [10]) := by
                      rw [HFK.out, ← HTR.out]
                      rfl
                    have hn0 : ¬ (0 : Int) < ((0 : Nat) : Int) := by omega
                    have HJ : Hid (∀ n : Nat, Calls Tryz.prog 257 #[.slice (some ⟨g, o, none⟩) 0 0, .string ⟨#[10]⟩] (wr.drewN n) fun e w' => e = .returned (.string ⟨(Lib.join [] [10]).toArray⟩) ∧ Below (wr.drewN n).heap.size (wr.drewN n) w') :=
                      fun n => joinNl g o 0 0 [] (wr.drewN n) (fun i y h => by simp at h) (hR4.drewN n).lt rfl hm (fun y hy => by simp at hy) (by omega)
                    clear hn0
                    go_wp2_with fail
                    go_quiet (fail)
                    go_wp2_with fail
                    refine (HJ.out _).mono ?_
                    rintro e w7 ⟨rfl, hb7⟩
                    go_wp2
                    go_ret
                    exact ⟨by rw [HEND.out]; rfl, hB4.trans ((Below.undrew hb7).mono hB4.size)⟩
end Go.Proofs.YtmgoebfcfgilfaaGreatDoor
