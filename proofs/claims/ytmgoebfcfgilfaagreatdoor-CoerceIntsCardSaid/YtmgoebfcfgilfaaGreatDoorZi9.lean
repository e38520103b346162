/-
  slices.Compact at problems, walked. Problems in order (coerce.Sorted), walked. DERIVED: THE SHELF's CONTRACTS AT THIS DUMP, IN PLAIN WORDS (tools/lay-plain.mjs out of 'TryzShelf.lean', which tools/lay-shelf.mjs wrote): THE SAME DECLARATIONS UNDER THE SAME NAMES: 'import', 'namespace', 'open', 'def', 'theorem' AND NOTHING ELSE: no command of the shelf's: FOR A HAND-IN. Each laying: the table of numbers ('.._ren') and one theorem, a field a fact of the dump's own or the kernel's comparison; each contract: ONE APPLICATION.
-/
import Derived.Test.YtmgoebfcfgilfaaGreatDoorZi8
import Derived.Shelf.Strings.Builder1
import Derived.Shelf.Strings.Builder2
import Derived.Shelf.Strings.OnBuilder
import Derived.Shelf.Strings.Trim
import Derived.Shelf.Small.Utf8
import Derived.Shelf.Small.Bits
import Derived.Shelf.Small.Strs
import Derived.Shelf.Small.Wraps
import Derived.Shelf.Strings.BuilderF
import Derived.Shelf.Strings.BuilderK
import Derived.Shelf.Strings.BuilderRune
import Derived.Shelf.Utf8.AppendRune
import Derived.Shelf.Utf8.AppendRunePlain
import Derived.Shelf.Utf8.RuneCount
import Derived.Shelf.Strings.Builder2Cap
import Derived.Shelf.Strconv.Itoa0
import Derived.Shelf.Strconv.Itoa1
import Derived.Shelf.LaysM
import Derived.Shelf.Strconv.Itoa2
import Derived.Shelf.Strconv.Itoa3
import Derived.Shelf.Strconv.ParseIntEmpty
import Derived.Shelf.Strconv.Clone
import Derived.Shelf.Strconv.SyntaxError
import Derived.Shelf.LaysC
import Derived.Shelf.Strconv.ToError
import Derived.Shelf.Strconv.Lower
import Derived.Shelf.Strconv.ParseUint10
import Derived.Shelf.Strconv.ParseUint10Empty
import Derived.Shelf.Strconv.ParseUint10Any
import Derived.Shelf.Strconv.ParseInt10
import Derived.Shelf.Strconv.RangeError
import Derived.Shelf.Strconv.ToErrorRange
import Derived.Shelf.Strconv.ParseUintEmpty
import Derived.Shelf.Strconv.ParseUint10b64
import Derived.Shelf.Strconv.ParseUint10b32
import Derived.Shelf.Strconv.ParseUint10b16
import Derived.Shelf.Strconv.ParseUint10b8
import Derived.Shelf.Strconv.ParseUint10At
import Derived.Shelf.Strconv.ParseInt10At64
import Derived.Shelf.Strconv.ParseInt10At32
import Derived.Shelf.Strconv.ParseInt10At16
import Derived.Shelf.Strconv.ParseInt10At8
import Derived.Shelf.Strconv.ParseInt10All
import Derived.Shelf.Strconv.ParseIntPublic10
import Derived.Shelf.Strconv.ErrVarParseInt
import Derived.Shelf.Strings.Search1
import Derived.Shelf.Strings.Search2
import Derived.Shelf.Strings.Search3
import Derived.Shelf.Strings.Count
import Derived.Shelf.Strings.Shaped
import Derived.Shelf.Strings.Prefix
import Derived.Shelf.Strings.Split
import Derived.Shelf.Strings.Replace
import Derived.Shelf.Strings.SplitShaped
import Derived.Shelf.Unicode.Decode
import Derived.Shelf.Strings.Runes
import Derived.Shelf.Strings.RuneCount
import Derived.Shelf.Strings.AsciiSet
import Derived.Shelf.Strings.Explode
import Derived.Shelf.Unicode.DecodeSlow
import Derived.Shelf.Unicode.DecodeAny
import Derived.Shelf.Strings.BuilderCap
import Derived.Shelf.Slices.Turned
import Derived.Shelf.Slices.Equal
import Derived.Ground.Names2Prog
import Derived.Shelf.Slices.Clone
import Derived.Shelf.Slices.Empties2
import Derived.Ground.SlgnProg
import Derived.Shelf.SlicesE.Clone
import Derived.Test.YtmgoebfcfgilfaaGreatDoorProg
namespace Go.Proofs.YtmgoebfcfgilfaaGreatDoor
set_option linter.unusedSimpArgs false
set_option linter.unusedVariables false
open Go Go.RowKit
open Go.Maps Go.WideMaps

theorem RowP.cut {w : World} {g cap : Nat} {d : List Cp.Pb} (h : RowP w g cap d) (k : Nat) (hk : k ≤ d.length) (vs : List Value) : RowP (w.setCells g (k * 2) vs) g cap (d.take k) := by
  obtain ⟨cur, h1, h2, h3⟩ := (h.take k hk).row
  obtain ⟨cur', g1, g2, g3, _⟩ := setCells_row g 42 (0, 0) vs (k * 2) w cur h1
  have hl : (d.take k).length = k := by rw [List.length_take]; omega
  refine ⟨⟨cur', g1, by rw [g2, h2], ?_⟩, (h.take k hk).le⟩
  rw [← h3]
  apply List.ext_getElem?
  intro j
  rw [List.getElem?_take, List.getElem?_take, hl]
  split
  · rename_i hj
    have := g3 j hj
    simpa using this
  · rfl
theorem Below.setc {base : Nat} {a w : World} (h : Below base a w) (p : Addr) (hp : base ≤ p.block) (v : Value) : Below base a (w.setCell p v) :=
  h.trans ⟨rfl, rfl, rfl, by simp [World.setCell], fun j hj => Below.heap_setCell _ _ _ _ (by omega)⟩
set_option maxHeartbeats 2000000 in
set_option maxRecDepth 100000 in
theorem compactP_any (v : Value) (l : List Cp.Pb) (w : World) (base : Nat) (ho : OwnP w base v l) (hbw : base ≤ w.heap.size) (hl : l.length ≤ 1000000) :
    Calls Tryz.prog 55 #[v] w fun e w' => ∃ v', e = .returned v' ∧ OwnP w' base v' (Cp.comp l) ∧ Below base w w' := by
  by_cases h2 : l.length < 2
  · have hc : Cp.comp l = l := match l, h2 with
      | [], _ => rfl
      | [_], _ => rfl
      | _ :: _ :: _, h => absurd h (by simp)
    rw [hc]
    obtain ⟨a, n, c, rfl, HN⟩ := ho.form
    have h3 : (n : Int) < 2 := by have := HN.out; omega
    have HO := Lib.hid ho
    clear ho hc
    go_enter Tryz.func55, Tryz.ntmps55
    go_wp2_with fail
    go_ret
    exact ⟨_, rfl, HO.out, Below.refl _ _⟩
  rcases ho.2 with ⟨h4, h5⟩ | ⟨g, cap, cur, hv, hg, hb, hc, hm, hs, ht⟩
  · exact absurd h5 (by omega)
  subst hv
  have HR := Lib.hid ho.row
  have hgs : g < w.heap.size := block_lt hb
  have hcap := hc
  have HG := Lib.hid hg
  have HM := Lib.hid hm
  have e2 : decide ((l.length : Int) < 2) = false := decide_eq_false (by omega)
  have HBW := Lib.hid hbw
  clear ho hb hc hs ht cur hm hbw
  obtain ⟨o, hoz⟩ : ∃ o : Nat, o = 0 := ⟨_, rfl⟩
  rw [← hoz]
  have HOZ := Lib.hid hoz
  clear hoz
  go_enter Tryz.func55, Tryz.ntmps55
  go_wp2_with fail
  go_loopg [3] l.length (fun m s3 wr => ∃ k n : Nat, 1 ≤ k ∧ k ≤ l.length ∧ m = l.length + 1 - k ∧ s3 = .int .i64 (k : Nat) ∧ wr = w.drewN n ∧ ∀ (i : Nat) a b, i + 1 < k → l[i]? = some a → l[i + 1]? = some b → a ≠ b)
  case atStart => exact ⟨1, 0, Nat.le_refl _, by omega, rfl, rfl, rfl, fun i a b h => by omega⟩
  case round =>
    obtain ⟨k, n, hk1, hk, hm, rfl, hwr, hdd⟩ := hrel
    subst hwr
    have HK := Lib.hid hm
    have HD := Lib.hid hdd
    clear hm hdd
    have hk0 : (0 : Int) ≤ (k : Int) := Int.natCast_nonneg _
    by_cases hlt : k < l.length
    · have hlt1 : (k : Int) < (l.length : Int) := by omega
      obtain ⟨q, hq⟩ : ∃ q, k = q + 1 := ⟨k - 1, by omega⟩
      obtain ⟨x, hx⟩ : ∃ x, l[k]? = some x := ⟨_, List.getElem?_eq_getElem hlt⟩
      obtain ⟨y, hy⟩ : ∃ y, l[k - 1]? = some y := ⟨_, List.getElem?_eq_getElem (by omega)⟩
      obtain ⟨c0, c1⟩ := HR.out.at hx
      obtain ⟨d0, d1⟩ := HR.out.at hy
      obtain ⟨x1, x2⟩ := x
      obtain ⟨y1, y2⟩ := y
      dsimp only at c0 c1 d0 d1
      have C0 : ∀ m, (w.drewN m).cell? ⟨g, o + k * 2, none⟩ = some (.int .i64 x1) := fun _ => by rw [HOZ.out, Nat.zero_add]; exact c0
      have C1 : ∀ m, (w.drewN m).cell? ⟨g, o + k * 2 + 1, none⟩ = some (.int .i64 x2) := fun _ => by rw [HOZ.out, Nat.zero_add]; exact c1
      have D0 : ∀ m, (w.drewN m).cell? ⟨g, o + (k - 1) * 2, none⟩ = some (.int .i64 y1) := fun _ => by rw [HOZ.out, Nat.zero_add]; exact d0
      have D1 : ∀ m, (w.drewN m).cell? ⟨g, o + (k - 1) * 2 + 1, none⟩ = some (.int .i64 y2) := fun _ => by rw [HOZ.out, Nat.zero_add]; exact d1
      have HQ := Lib.hid hq
      have HX := Lib.hid hx
      have HY := Lib.hid hy
      clear c0 c1 d0 d1 hq hx hy
      by_cases he : ((x1, x2) : Cp.Pb) = (y1, y2)
      · have hcmp := Cp.eqb_true he
        have HE := Lib.hid he
        clear he
        go_wp2_with fail
        refine wp_region_cuts [] (by kernel_rfl) (by kernel_rfl) ?_; simp only [wpMix, List.take_succ_cons, List.take_zero, List.drop_succ_cons, List.drop_zero, Nat.sub_zero, Nat.reduceSub, Nat.reduceAdd]
        repeat (go_big_quiet_step (fail))
        refine wpQuiet_nil ?_; rintro _ ⟨nq, rfl⟩
        clear C0 C1 D0 D1
        have HR0 : Hid (RowP (w.drewN (n + nq)) g cap l) := Lib.hid (HR.out.heap rfl)
        have HCI : Hid (Cp.CI l (k + 1) k l) := by
          obtain rfl := HQ.out
          refine Lib.hid (Cp.CI.start HX.out (by rw [HE.out]; exact HY.out) (fun i a b hi ha hb => HD.out i a b hi ha hb))
        go_wp2_with fail
        go_loopg [3, 5] l.length (fun m s3 s5 wq => ∃ (kk k2 : Nat) (d : List Cp.Pb), s3 = .int .i64 (kk : Nat) ∧ s5 = .int .i64 (k2 : Nat) ∧ 1 ≤ k2 ∧ k + k2 ≤ l.length ∧ m = l.length + 1 - k2 ∧ Cp.CI l (k + k2) kk d ∧ RowP wq g cap d ∧ Below base w wq)
        case atStart => exact ⟨k, 1, l, rfl, rfl, Nat.le_refl _, by omega, rfl, HCI.out, HR0.out, Below.drewN (Below.refl _ _) _⟩
        case round =>
          obtain ⟨kk, k2, d, rfl, rfl, h1, hle, hm2, hI, hRd, hB⟩ := hrel
          have HM2 := Lib.hid hm2
          have hkk := hI.le
          have hdl := hI.len
          have HI := Lib.hid hI
          have HRd := Lib.hid hRd
          have HDL := Lib.hid hdl
          clear hm2 hI hdl
          have hkk0 : (0 : Int) ≤ (kk : Int) := Int.natCast_nonneg _
          have hk20 : (0 : Int) ≤ (k2 : Int) := Int.natCast_nonneg _
          by_cases hlt2 : k + k2 < l.length
          · have hlt3 : (k2 : Int) < ((l.length - k : Nat) : Int) := by omega
            obtain ⟨u, hu⟩ : ∃ u, l[k + k2]? = some u := ⟨_, List.getElem?_eq_getElem hlt2⟩
            obtain ⟨z, hz⟩ : ∃ z, l[k + k2 - 1]? = some z := ⟨_, List.getElem?_eq_getElem (by omega)⟩
            obtain ⟨t, ht⟩ : ∃ t, d[kk]? = some t := ⟨_, List.getElem?_eq_getElem (by rw [HDL.out]; omega)⟩
            have hu2 := (HI.out.rest (k + k2) (by omega)).trans hu
            have hz2 := (HI.out.rest (k + k2 - 1) (by omega)).trans hz
            obtain ⟨a0, a1⟩ := hRd.at hu2
            obtain ⟨b0, b1⟩ := hRd.at hz2
            obtain ⟨t0, t1⟩ := hRd.at ht
            have f0 := hRd.frozen (kk * 2)
            have f1 := hRd.frozen (kk * 2 + 1)
            obtain ⟨u1, u2⟩ := u
            obtain ⟨z1, z2⟩ := z
            obtain ⟨v1, v2⟩ := t
            dsimp only at a0 a1 b0 b1 t0 t1
            have A0 : ∀ m, (wr.drewN m).cell? ⟨g, o + k * 2 + k2 * 2, none⟩ = some (.int .i64 u1) := fun _ => by rw [HOZ.out, show 0 + k * 2 + k2 * 2 = (k + k2) * 2 by omega]; exact a0
            have A1 : ∀ m, (wr.drewN m).cell? ⟨g, o + k * 2 + k2 * 2 + 1, none⟩ = some (.int .i64 u2) := fun _ => by rw [HOZ.out, show 0 + k * 2 + k2 * 2 = (k + k2) * 2 by omega]; exact a1
            have B0 : ∀ m, (wr.drewN m).cell? ⟨g, o + k * 2 + (k2 - 1) * 2, none⟩ = some (.int .i64 z1) := fun _ => by rw [HOZ.out, show 0 + k * 2 + (k2 - 1) * 2 = (k + k2 - 1) * 2 by omega]; exact b0
            have B1 : ∀ m, (wr.drewN m).cell? ⟨g, o + k * 2 + (k2 - 1) * 2 + 1, none⟩ = some (.int .i64 z2) := fun _ => by rw [HOZ.out, show 0 + k * 2 + (k2 - 1) * 2 = (k + k2 - 1) * 2 by omega]; exact b1
            have T0 : ∀ m, (wr.drewN m).cell? ⟨g, o + kk * 2, none⟩ = some (.int .i64 v1) := fun _ => by rw [HOZ.out, Nat.zero_add]; exact t0
            have T1 : ∀ m, (wr.drewN m).cell? ⟨g, o + kk * 2 + 1, none⟩ = some (.int .i64 v2) := fun _ => by rw [HOZ.out, Nat.zero_add]; exact t1
            have F0 : ∀ m, (wr.drewN m).frozen? ⟨g, o + kk * 2, none⟩ = false := fun _ => by rw [HOZ.out, Nat.zero_add]; exact f0
            have F1 : ∀ m, (wr.drewN m).frozen? ⟨g, o + kk * 2 + 1, none⟩ = false := fun _ => by rw [HOZ.out, Nat.zero_add]; exact f1
            obtain ⟨j, hj⟩ : ∃ j, k + k2 = j + 1 := ⟨k + k2 - 1, by omega⟩
            have HJ := Lib.hid hj
            have HU := Lib.hid hu
            have HZ := Lib.hid hz
            clear a0 a1 b0 b1 t0 t1 f0 f1 hj hu hz hu2 hz2 ht hRd
            by_cases huz : ((u1, u2) : Cp.Pb) = (z1, z2)
            · have hcmp2 := Cp.eqb_true huz
              have HUZ := Lib.hid huz
              clear huz
              go_wp2_with fail
              refine wp_region_cuts [] (by kernel_rfl) (by kernel_rfl) ?_; simp only [wpMix, List.take_succ_cons, List.take_zero, List.drop_succ_cons, List.drop_zero, Nat.sub_zero, Nat.reduceSub, Nat.reduceAdd]
              repeat (go_big_quiet_step (fail))
              refine wpQuiet_nil ?_; rintro _ ⟨nq, rfl⟩
              go_wp2_with fail
              go_roundg (l.length + 1 - (k2 + 1))
              case measure => rw [HM2.out]; omega
              case rel =>
                refine ⟨kk, k2 + 1, d, rfl, by simp, by omega, by omega, rfl, ?_, HRd.out.heap rfl, Below.drewN hB _⟩
                have hI2 := HI.out
                have hU := HU.out
                have hZ := HZ.out
                rw [show k + (k2 + 1) = k + k2 + 1 by omega]
                rw [HJ.out] at hI2 hU ⊢
                rw [show k + k2 - 1 = j by have := HJ.out; omega] at hZ
                exact hI2.skip hU (by rw [HUZ.out]; exact hZ)
            · have hcmp2 := Cp.eqb_false huz
              have HUZ := Lib.hid huz
              clear huz
              go_wp2_with fail
              refine wp_region_cuts [] (by kernel_rfl) (by kernel_rfl) ?_; simp only [wpMix, List.take_succ_cons, List.take_zero, List.drop_succ_cons, List.drop_zero, Nat.sub_zero, Nat.reduceSub, Nat.reduceAdd]
              repeat (go_big_quiet_step (fail))
              refine wpQuiet_nil ?_; rintro _ ⟨nq, rfl⟩
              go_wp2_with fail
              go_roundg (l.length + 1 - (k2 + 1))
              case measure => rw [HM2.out]; omega
              case rel =>
                refine ⟨kk + 1, k2 + 1, d.set kk (u1, u2), by simp, by simp, by omega, by omega, rfl, ?_, ?_, ?_⟩
                · have hI2 := HI.out
                  have hU := HU.out
                  have hZ := HZ.out
                  rw [show k + (k2 + 1) = k + k2 + 1 by omega]
                  rw [HJ.out] at hI2 hU ⊢
                  rw [show k + k2 - 1 = j by have := HJ.out; omega] at hZ
                  exact hI2.keep hU hZ HUZ.out
                · rw [HOZ.out, Nat.zero_add]
                  exact RowP.set (i := kk) (w := wr.drewN _) (HRd.out.heap rfl) (by rw [HDL.out]; omega) (u1, u2)
                · exact Below.setc (Below.setc (Below.drewN hB _) _ HG.out _) _ HG.out _
          · have hend : k + k2 = l.length := by omega
            have hlt3 : ((l.length - k : Nat) : Int) ≤ (k2 : Int) := by omega
            have hkd : kk < l.length := by omega
            have hkd1 : (kk : Int) ≤ (l.length : Int) := by omega
            have hcl : ∀ ty, (Builtin.clear_ #[37] ty #[.slice (some ⟨g, o + kk * 2, none⟩) (l.length - kk) (cap - kk)]).run Tryz.prog wr = .ok (.tuple #[]) (wr.setCells g (o + kk * 2) (List.replicate ((l.length - kk) * 2) (.int .i64 0))) :=
              fun ty => run_clear_pb wr ty g (o + kk * 2) _ _ (by omega) (fun j hj => by rw [HOZ.out, Nat.zero_add]; exact hRd.there (by omega)) (fun j hj => hRd.frozen _)
            have HEND := Lib.hid hend
            have HKD := Lib.hid hkd
            clear hRd hend
            go_wp2_with fail
            go_ret
            have hI2 := HI.out
            rw [HEND.out] at hI2
            have hk3 := hI2.kept
            rw [List.take_length] at hk3
            have hlen : (Cp.comp l).length = kk := by rw [← hk3, List.length_take, HDL.out]; have := HKD.out; omega
            have hrow := (HRd.out.cut kk (by rw [HDL.out]; have := HKD.out; omega) (List.replicate ((l.length - kk) * 2) (.int .i64 0)))
            rw [hk3] at hrow
            refine ⟨.slice (some ⟨g, o, none⟩) kk cap, rfl, ?_, ?_⟩
            · rw [HOZ.out, Nat.zero_add]
              have h9 := hrow.own HG.out HM.out
              rw [hlen] at h9
              exact h9
            · obtain ⟨cur, g1, _⟩ := HRd.out.row
              obtain ⟨_, _, _, _, h9⟩ := setCells_row g 42 (0, 0) (List.replicate ((l.length - kk) * 2) (.int .i64 0)) (o + kk * 2) wr cur g1
              exact hB.trans (h9 base HG.out)
      · have hcmp := Cp.eqb_false he
        have HE := Lib.hid he
        clear he
        go_wp2_with fail
        refine wp_region_cuts [] (by kernel_rfl) (by kernel_rfl) ?_; simp only [wpMix, List.take_succ_cons, List.take_zero, List.drop_succ_cons, List.drop_zero, Nat.sub_zero, Nat.reduceSub, Nat.reduceAdd]
        repeat (go_big_quiet_step (fail))
        refine wpQuiet_nil ?_; rintro _ ⟨nq, rfl⟩
        go_wp2_with fail
        go_roundg (l.length + 1 - (k + 1))
        case measure => rw [HK.out]; omega
        case rel =>
          refine ⟨k + 1, _, by omega, by omega, rfl, by simp, rfl, fun i a b hi ha hb => ?_⟩
          rcases Nat.lt_or_ge (i + 1) k with h3 | h3
          · exact HD.out i a b h3 ha hb
          · obtain rfl : i = k - 1 := by omega
            rw [HY.out] at ha
            rw [show k - 1 + 1 = k by omega, HX.out] at hb
            cases ha
            cases hb
            exact fun e => HE.out e.symm
    · have hlt1 : (l.length : Int) ≤ (k : Int) := by omega
      have HC : Hid (Cp.comp l = l) := Lib.hid (Cp.comp_same l fun i a b ha hb => by
        have := (List.getElem?_eq_some_iff.1 hb).1
        exact HD.out i a b (by omega) ha hb)
      go_wp2_with fail
      go_ret
      refine ⟨_, rfl, ?_, Below.drewN (Below.refl _ _) _⟩
      rw [HC.out, HOZ.out]
      exact (HR.out.heap rfl).own HG.out HM.out
end Go.Proofs.YtmgoebfcfgilfaaGreatDoor
namespace Go.Proofs.YtmgoebfcfgilfaaGreatDoor
set_option linter.unusedSimpArgs false
set_option linter.unusedVariables false
open Go Go.RowKit
open Go.Maps Go.WideMaps

/-- Problems in a block of the call's own, whatever the room. -/
def HasP (w : World) (base : Nat) (v : Value) (l : List Cp.Pb) : Prop :=
  (v = .slice none 0 0 ∧ l = []) ∨ ∃ g cap c, v = .slice (some ⟨g, 0, none⟩) l.length c ∧ base ≤ g ∧ g < w.heap.size ∧ RowP w g cap l
section
variable {w w' : World} {base : Nat} {v : Value} {l : List Cp.Pb}
theorem HasP.form (h : HasP w base v l) : ∃ a n c, v = .slice a n c ∧ Hid (n = l.length) := by
  rcases h with ⟨h1, h2⟩ | ⟨g, cap, c, h1, _⟩
  · exact ⟨none, 0, 0, h1, Lib.hid (by rw [h2]; rfl)⟩
  · exact ⟨_, _, _, h1, Lib.hid rfl⟩
theorem reads_row {P : Nat → Prop} {g : Nat} (hP : P g) (hg : g < w.heap.size) : ∀ (l : List Cp.Pb) (i : Nat), (∀ (j : Nat) p, l[j]? = some p → w.cell? ⟨g, (i + j) * 2, none⟩ = some (.int .i64 p.1) ∧ w.cell? ⟨g, (i + j) * 2 + 1, none⟩ = some (.int .i64 p.2)) →
    ReadsS w P 2 (some ⟨g, 0, none⟩) i (l.map Cp.d)
  | [], _, _ => .nil
  | p :: r, i, h => by
    have h0 := h 0 p rfl
    rw [Nat.add_zero] at h0
    have hd : Reads w P (Cp.d p) [.int .i64 p.1, .int .i64 p.2] := .obj (.cons (.int _) (.cons (.int _) .nil))
    refine .cons rfl hP hg rfl (fun j v hv => ?_) hd (reads_row hP hg r (i + 1) fun j q hq => ?_)
    · rw [Nat.zero_add]
      match j, hv with
      | 0, hv => simp at hv; subst hv; exact h0.1
      | 1, hv => simp at hv; subst hv; exact h0.2
      | j + 2, hv => simp at hv
    · have := h (j + 1) q hq
      rw [show i + 1 + j = i + (j + 1) by omega]
      exact this
theorem HasP.pbs (h : HasP w base v l) : Pbs w (fun g => v.ownBlock = some g) v l := by
  rcases h with ⟨h1, h2⟩ | ⟨g, cap, c, h1, hg, hgs, hr⟩
  · subst h1 h2
    exact .seq .nil
  · subst h1
    unfold Pbs
    have h9 : ReadsS w (fun x => (Value.slice (some ⟨g, 0, none⟩) l.length c).ownBlock = some x) 2 (some ⟨g, 0, none⟩) 0 (l.map Cp.d) :=
      reads_row (P := fun x => (Value.slice (some ⟨g, 0, none⟩) l.length c).ownBlock = some x) rfl hgs l 0 (fun j p hp => by rw [Nat.zero_add]; exact hr.at hp)
    have h10 : Reads w (fun x => (Value.slice (some ⟨g, 0, none⟩) l.length c).ownBlock = some x) (.seq 2 (l.map Cp.d)) [.slice (some ⟨g, 0, none⟩) (l.map Cp.d).length c] := .seq h9
    rwa [List.length_map] at h10
theorem HasP.heap (h : HasP w base v l) (hs : w.heap.size ≤ w'.heap.size) (he : ∀ g, v.ownBlock = some g → w'.heap[g]? = w.heap[g]?) : HasP w' base v l := by
  rcases h with h1 | ⟨g, cap, c, h1, hg, hgs, hr⟩
  · exact .inl h1
  · exact .inr ⟨g, cap, c, h1, hg, by omega, hr.heap (he g (by rw [h1]; rfl))⟩
theorem HasP.lt (h : HasP w base v l) : ∀ g, v.ownBlock = some g → base ≤ g ∧ g < w.heap.size := by
  intro g hg
  rcases h with ⟨h1, h2⟩ | ⟨g', cap, c, h1, hg', hgs, hr⟩
  · rw [h1] at hg; cases hg
  · rw [h1] at hg; cases hg; exact ⟨hg', hgs⟩
theorem HasP.keep (h : HasP w base v l) (hb : Below w.heap.size w w') : HasP w' base v l := h.heap hb.size (fun g hg => hb.block g (h.lt g hg).2)
theorem HasP.mono (h : HasP w base v l) {b : Nat} (hb : b ≤ base) : HasP w b v l := by
  rcases h with h1 | ⟨g, cap, c, h1, hg, r⟩
  · exact .inl h1
  · exact .inr ⟨g, cap, c, h1, Nat.le_trans hb hg, r⟩
end
set_option maxRecDepth 100000 in
theorem clipP_any (v : Value) (l : List Cp.Pb) (w : World) (base : Nat) (ho : OwnP w base v l) :
    Calls Tryz.prog 54 #[v] w fun e w' => ∃ v', e = .returned v' ∧ HasP w base v' l ∧ w' = w := by
  rcases ho.2 with ⟨h4, h5⟩ | ⟨g, cap, cur, hv, hg, hb, hc, hm, hs, ht⟩
  · have hl : l = [] := List.eq_nil_of_length_eq_zero h5
    subst h4
    clear ho h5
    go_enter Tryz.func54, Tryz.ntmps54
    go_wp2_with fail
    go_ret
    exact ⟨_, rfl, .inl ⟨rfl, hl⟩, rfl⟩
  · subst hv
    have HR := Lib.hid ho.row
    have HGS := Lib.hid (block_lt hb)
    have HG := Lib.hid hg
    clear ho hb hs ht cur hg hm
    have hcap : (l.length : Int) ≤ (cap : Int) := by omega
    go_enter Tryz.func54, Tryz.ntmps54
    go_wp2_with fail
    go_ret
    exact ⟨_, rfl, .inr ⟨g, cap, l.length, rfl, HG.out, HGS.out, HR.out⟩, rfl⟩

set_option maxHeartbeats 1000000 in
set_option maxRecDepth 100000 in
theorem sortedP_any (v : Value) (ls : List (List Cp.Pb)) (w : World) (hV : Prp w v ls) (hl : ls.length ≤ 1000000000) (hs : ls.flatten.length ≤ 1000000) :
    Calls Tryz.prog 17 #[v] w fun e w' => ∃ v', e = .returned v' ∧ HasP w' w.heap.size v' (Cp.sorted ls.flatten) ∧ Below w.heap.size w w' := by
  have HC := Lib.hid (concatP_any v ls w hV hl hs)
  clear hV
  go_enter Tryz.func17, Tryz.ntmps17
  go_wp2_with fail
  refine HC.out.mono ?_
  rintro e w1 ⟨v1, rfl, ho1, hb1⟩
  have HS := Lib.hid (sortP_any v1 ls.flatten w1 w.heap.size ho1 hb1.size (by omega))
  obtain ⟨a1, n1, c1, hv1, HN1⟩ := OwnP.form ho1
  subst hv1
  clear HC ho1
  go_wp2_with fail
  refine HS.out.mono ?_
  rintro e w2 ⟨rfl, d, hdl, hdm, hds, ho2, hb2⟩
  have HB2 := Lib.hid (hb1.trans hb2)
  have HD : Hid (Cp.comp d = Cp.sorted ls.flatten) := Lib.hid (Cp.comp_sorted _ d hdm hds)
  have HCP := Lib.hid (compactP_any _ d w2 w.heap.size ho2 HB2.out.size (by omega))
  clear HS hb1 hb2 hdl hdm hds ho2
  go_wp2_with fail
  refine HCP.out.mono ?_
  rintro e w3 ⟨v3, rfl, ho3, hb3⟩
  have HB3 := Lib.hid (HB2.out.trans hb3)
  have HCL := Lib.hid (clipP_any _ _ w3 w.heap.size ho3)
  obtain ⟨a3, n3, c3, hv3, HN3⟩ := OwnP.form ho3
  subst hv3
  clear HCP ho3 hb3
  go_wp2_with fail
  refine HCL.out.mono ?_
  rintro e w4 ⟨v4, rfl, hh, rfl⟩
  have HH := Lib.hid hh
  obtain ⟨a4, n4, c4, hv4, HN4⟩ := HasP.form hh
  subst hv4
  clear hh HCL
  go_wp2_with fail
  go_ret
  refine ⟨_, rfl, ?_, HB3.out⟩
  rw [← HD.out]
  exact HH.out
end Go.Proofs.YtmgoebfcfgilfaaGreatDoor
namespace Go.Proofs
open Go.Shelf
def Tryz.lays169_ren : Go.Shelf.Ren := ⟨fun | 169 => 77 | n => n, fun | 70 => 67 | 9 => 9 | 0 => 0 | 72 => 69 | 37 => 45 | 127 => 199 | 3 => 3 | 5 => 5 | n => n, fun | n => n⟩
theorem Tryz.lays169 : Go.Proofs.Lays.n169 Tryz.prog Tryz.lays169_ren := {
  mixed := by kernel_rfl
  f169 := Tryz.func77.trans (congrArg some (by kernel_rfl))
  t0 := Tryz.underlying0
  a0 := Tryz.isAgg0
  z0 := Tryz.sizeOf0
  v0 := Tryz.zeroValue0
  t3 := Tryz.underlying3
  a3 := Tryz.isAgg3
  z3 := Tryz.sizeOf3
  v3 := Tryz.zeroValue3
  t9 := Tryz.underlying9
  a9 := Tryz.isAgg9
  z9 := Tryz.sizeOf9
  v9 := Tryz.zeroValue9
  t37 := Tryz.underlying45
  a37 := Tryz.isAgg45
  z37 := Tryz.sizeOf45
  v37 := Tryz.zeroValue45
  t70 := Tryz.underlying67
  a70 := Tryz.isAgg67
  z70 := Tryz.sizeOf67
  v70 := Tryz.zeroValue67
  t72 := Tryz.underlying69
  a72 := Tryz.isAgg69
  z72 := Tryz.sizeOf69
  v72 := Tryz.zeroValue69
  t127 := Tryz.underlying199
  a127 := Tryz.isAgg199
  z127 := Tryz.sizeOf199
  v127 := Tryz.zeroValue199 }
theorem Tryz.Builder_Extra_169 : Builder.Extra Tryz.prog Tryz.lays169_ren := {
  sizeBuilder := by kernel_rfl
  liesBuilder := by kernel_rfl
  t5 := Tryz.underlying5
  a5 := Tryz.isAgg5
  z5 := Tryz.sizeOf5
  v5 := Tryz.zeroValue5
  infoByte := by kernel_rfl
  cellsByte := by kernel_rfl
  sizeByte := by kernel_rfl
  neB5 := by decide }
def Tryz.lays156_ren : Go.Shelf.Ren := ⟨fun | 156 => 257 | 165 => 272 | 166 => 129 | 169 => 77 | 240 => 188 | 241 => 287 | 276 => 235 | 277 => 295 | n => n, fun | 31 => 59 | 9 => 9 | 3 => 3 | 4 => 4 | 0 => 0 | 20 => 20 | 72 => 69 | 76 => 189 | 70 => 67 | 37 => 45 | 75 => 188 | 127 => 199 | 164 => 281 | 5 => 5 | 80 => 143 | n => n, fun | n => n⟩
theorem Tryz.lays156 : Go.Proofs.Lays.n156 Tryz.prog Tryz.lays156_ren := {
  mixed := by kernel_rfl
  f156 := Tryz.func257.trans (congrArg some (by kernel_rfl))
  f165 := Tryz.func272.trans (congrArg some (by kernel_rfl))
  f166 := Tryz.func129.trans (congrArg some (by kernel_rfl))
  f169 := Tryz.func77.trans (congrArg some (by kernel_rfl))
  f240 := Tryz.func188.trans (congrArg some (by kernel_rfl))
  f241 := Tryz.func287.trans (congrArg some (by kernel_rfl))
  f276 := Tryz.func235.trans (congrArg some (by kernel_rfl))
  f277 := Tryz.func295.trans (congrArg some (by kernel_rfl))
  t0 := Tryz.underlying0
  a0 := Tryz.isAgg0
  z0 := Tryz.sizeOf0
  v0 := Tryz.zeroValue0
  t3 := Tryz.underlying3
  a3 := Tryz.isAgg3
  z3 := Tryz.sizeOf3
  v3 := Tryz.zeroValue3
  t4 := Tryz.underlying4
  a4 := Tryz.isAgg4
  z4 := Tryz.sizeOf4
  v4 := Tryz.zeroValue4
  t9 := Tryz.underlying9
  a9 := Tryz.isAgg9
  z9 := Tryz.sizeOf9
  v9 := Tryz.zeroValue9
  t20 := Tryz.underlying20
  a20 := Tryz.isAgg20
  z20 := Tryz.sizeOf20
  v20 := Tryz.zeroValue20
  t31 := Tryz.underlying59
  a31 := Tryz.isAgg59
  z31 := Tryz.sizeOf59
  v31 := Tryz.zeroValue59
  t37 := Tryz.underlying45
  a37 := Tryz.isAgg45
  z37 := Tryz.sizeOf45
  v37 := Tryz.zeroValue45
  t70 := Tryz.underlying67
  a70 := Tryz.isAgg67
  z70 := Tryz.sizeOf67
  v70 := Tryz.zeroValue67
  t72 := Tryz.underlying69
  a72 := Tryz.isAgg69
  z72 := Tryz.sizeOf69
  v72 := Tryz.zeroValue69
  t75 := Tryz.underlying188
  a75 := Tryz.isAgg188
  z75 := Tryz.sizeOf188
  v75 := Tryz.zeroValue188
  t76 := Tryz.underlying189
  a76 := Tryz.isAgg189
  z76 := Tryz.sizeOf189
  v76 := Tryz.zeroValue189
  t127 := Tryz.underlying199
  a127 := Tryz.isAgg199
  z127 := Tryz.sizeOf199
  v127 := Tryz.zeroValue199
  t164 := Tryz.underlying281
  a164 := Tryz.isAgg281
  z164 := Tryz.sizeOf281
  v164 := Tryz.zeroValue281 }
theorem Tryz.Builder_Extra_156 : Builder.Extra Tryz.prog Tryz.lays156_ren := {
  sizeBuilder := by kernel_rfl
  liesBuilder := by kernel_rfl
  t5 := Tryz.underlying5
  a5 := Tryz.isAgg5
  z5 := Tryz.sizeOf5
  v5 := Tryz.zeroValue5
  infoByte := by kernel_rfl
  cellsByte := by kernel_rfl
  sizeByte := by kernel_rfl
  neB5 := by decide }
open Go.RowKit in
/-- strings.Join: "Join concatenates the elements of its first argument to create a single string. The separator string sep is placed between elements in the resulting string.": HOWEVER MANY ELEMENTS. Below the heap's end the world is as it was. (LAID: no walk: one application.) -/
theorem Tryz.strings_Join (bk o c : Nat) (xs : List ByteArray) (sep : ByteArray) (w : World) (hcells : ∀ (j : Nat) x, xs[j]? = some x → w.cell? ⟨bk, o + j, none⟩ = some (.string x)) (hbk : bk < w.heap.size) (hN : xs.length ≤ 140737488355328) (hcap : xs.length ≤ c) (hlen : (Lib.join (xs.map (·.data.toList)) sep.data.toList).length ≤ 140737488355328) :
    Calls Tryz.prog 257 #[.slice (some ⟨bk, o, none⟩) xs.length c, .string sep] w fun e w' => e = .returned (.string ⟨(Lib.join (xs.map (·.data.toList)) sep.data.toList).toArray⟩) ∧ Below w.heap.size w w' := Any.strings_Join Tryz.lays156 Tryz.Builder_Extra_156 bk o c xs sep w hcells hbk hN hcap hlen
def Tryz.lays161_ren : Go.Shelf.Ren := ⟨fun | 161 => 271 | 231 => 283 | 227 => 284 | 233 => 285 | 235 => 286 | 228 => 293 | 197 => 239 | 151 => 294 | 260 => 253 | 152 => 300 | 137 => 211 | 119 => 306 | 224 => 298 | 225 => 297 | 217 => 244 | 266 => 259 | n => n, fun | 9 => 9 | 4 => 4 | 3 => 3 | 5 => 5 | 117 => 320 | 116 => 319 | 0 => 0 | 124 => 323 | 105 => 254 | 21 => 21 | 119 => 305 | 46 => 175 | 139 => 308 | 138 => 307 | n => n, fun | 3 => 0 | 4 => 1 | n => n⟩
theorem Tryz.lays161 : Go.Proofs.Lays.n161 Tryz.prog Tryz.lays161_ren := {
  mixed := by kernel_rfl
  f119 := Tryz.func306.trans (congrArg some (by kernel_rfl))
  f137 := Tryz.func211.trans (congrArg some (by kernel_rfl))
  f151 := Tryz.func294.trans (congrArg some (by kernel_rfl))
  f152 := Tryz.func300.trans (congrArg some (by kernel_rfl))
  f161 := Tryz.func271.trans (congrArg some (by kernel_rfl))
  f197 := Tryz.func239.trans (congrArg some (by kernel_rfl))
  f217 := Tryz.func244.trans (congrArg some (by kernel_rfl))
  f224 := Tryz.func298.trans (congrArg some (by kernel_rfl))
  f225 := Tryz.func297.trans (congrArg some (by kernel_rfl))
  f227 := Tryz.func284.trans (congrArg some (by kernel_rfl))
  f228 := Tryz.func293.trans (congrArg some (by kernel_rfl))
  f231 := Tryz.func283.trans (congrArg some (by kernel_rfl))
  f233 := Tryz.func285.trans (congrArg some (by kernel_rfl))
  f235 := Tryz.func286.trans (congrArg some (by kernel_rfl))
  f260 := Tryz.func253.trans (congrArg some (by kernel_rfl))
  f266 := Tryz.func259.trans (congrArg some (by kernel_rfl))
  t0 := Tryz.underlying0
  a0 := Tryz.isAgg0
  z0 := Tryz.sizeOf0
  v0 := Tryz.zeroValue0
  t3 := Tryz.underlying3
  a3 := Tryz.isAgg3
  z3 := Tryz.sizeOf3
  v3 := Tryz.zeroValue3
  t4 := Tryz.underlying4
  a4 := Tryz.isAgg4
  z4 := Tryz.sizeOf4
  v4 := Tryz.zeroValue4
  t5 := Tryz.underlying5
  a5 := Tryz.isAgg5
  z5 := Tryz.sizeOf5
  v5 := Tryz.zeroValue5
  t9 := Tryz.underlying9
  a9 := Tryz.isAgg9
  z9 := Tryz.sizeOf9
  v9 := Tryz.zeroValue9
  t21 := Tryz.underlying21
  a21 := Tryz.isAgg21
  z21 := Tryz.sizeOf21
  v21 := Tryz.zeroValue21
  t46 := Tryz.underlying175
  a46 := Tryz.isAgg175
  z46 := Tryz.sizeOf175
  v46 := Tryz.zeroValue175
  t105 := Tryz.underlying254
  a105 := Tryz.isAgg254
  z105 := Tryz.sizeOf254
  v105 := Tryz.zeroValue254
  t116 := Tryz.underlying319
  a116 := Tryz.isAgg319
  z116 := Tryz.sizeOf319
  t117 := Tryz.underlying320
  a117 := Tryz.isAgg320
  z117 := Tryz.sizeOf320
  v117 := Tryz.zeroValue320
  t119 := Tryz.underlying305
  a119 := Tryz.isAgg305
  z119 := Tryz.sizeOf305
  t124 := Tryz.underlying323
  a124 := Tryz.isAgg323
  z124 := Tryz.sizeOf323
  v124 := Tryz.zeroValue323
  t138 := Tryz.underlying307
  a138 := Tryz.isAgg307
  z138 := Tryz.sizeOf307
  v138 := Tryz.zeroValue307
  t139 := Tryz.underlying308
  a139 := Tryz.isAgg308
  z139 := Tryz.sizeOf308
  v139 := Tryz.zeroValue308
  g3 := by kernel_rfl
  g4 := by kernel_rfl }
def Tryz.lays137_ren : Go.Shelf.Ren := ⟨fun | 137 => 211 | 217 => 244 | 266 => 259 | n => n, fun | 9 => 9 | 5 => 5 | 3 => 3 | n => n, fun | n => n⟩
theorem Tryz.lays137 : Go.Proofs.Lays.n137 Tryz.prog Tryz.lays137_ren := {
  mixed := by kernel_rfl
  f137 := Tryz.func211.trans (congrArg some (by kernel_rfl))
  f217 := Tryz.func244.trans (congrArg some (by kernel_rfl))
  f266 := Tryz.func259.trans (congrArg some (by kernel_rfl))
  t3 := Tryz.underlying3
  a3 := Tryz.isAgg3
  z3 := Tryz.sizeOf3
  v3 := Tryz.zeroValue3
  t5 := Tryz.underlying5
  a5 := Tryz.isAgg5
  z5 := Tryz.sizeOf5
  v5 := Tryz.zeroValue5
  t9 := Tryz.underlying9
  a9 := Tryz.isAgg9
  z9 := Tryz.sizeOf9
  v9 := Tryz.zeroValue9 }
open Go.RowKit in
/-- strings.IndexByte: "IndexByte returns the index of the first instance of c in s, or -1 if c is not present in s.": IT RETURNS 'Lib.indexByte s c'; the world is as it was. (LAID: no walk: one application.) -/
theorem Tryz.strings_IndexByte (s : ByteArray) (c : Int) (w : World) :
    Calls Tryz.prog 211 #[.string s, .int .u8 c] w fun e w' => e = .returned (.int .i64 (Lib.indexByte s.data.toList c.toNat.toUInt8)) ∧ w' = w := Any.strings_IndexByte Tryz.lays137 s c w
def Tryz.lays103_ren : Go.Shelf.Ren := ⟨fun | 103 => 217 | 210 => 247 | 206 => 238 | n => n, fun | 9 => 9 | 4 => 4 | 24 => 224 | 3 => 3 | n => n, fun | n => n⟩
theorem Tryz.lays103 : Go.Proofs.Lays.n103 Tryz.prog Tryz.lays103_ren := {
  mixed := by kernel_rfl
  f103 := Tryz.func217.trans (congrArg some (by kernel_rfl))
  f206 := Tryz.func238.trans (congrArg some (by kernel_rfl))
  f210 := Tryz.func247.trans (congrArg some (by kernel_rfl))
  t3 := Tryz.underlying3
  a3 := Tryz.isAgg3
  z3 := Tryz.sizeOf3
  v3 := Tryz.zeroValue3
  t4 := Tryz.underlying4
  a4 := Tryz.isAgg4
  z4 := Tryz.sizeOf4
  v4 := Tryz.zeroValue4
  t9 := Tryz.underlying9
  a9 := Tryz.isAgg9
  z9 := Tryz.sizeOf9
  v9 := Tryz.zeroValue9
  t24 := Tryz.underlying224
  a24 := Tryz.isAgg224
  z24 := Tryz.sizeOf224
  v24 := Tryz.zeroValue224 }
open Go.RowKit in
/-- strings.CutPrefix: "CutPrefix returns s without the provided leading prefix string and reports whether it found the prefix. If s doesn't start with prefix, CutPrefix returns s, false. If prefix is the empty string, CutPrefix returns s, true.": IT RETURNS '(Lib.trimPrefix s p, Lib.hasPrefix s p)'; the world is as it was. (LAID: no walk: one application.) -/
theorem Tryz.strings_CutPrefix (s p : ByteArray) (w : World) :
    Calls Tryz.prog 217 #[.string s, .string p] w fun e w' => e = .returned (.tuple #[.string ⟨(Lib.trimPrefix s.data.toList p.data.toList).toArray⟩, .bool (Lib.hasPrefix s.data.toList p.data.toList)]) ∧ w' = w := Any.strings_CutPrefix Tryz.lays103 s p w
open Go.RowKit in
/-- (*strings.Builder).String: "String returns the accumulated string.": WHATEVER THE BUILDER HOLDS; THE FORM '_k': OVER 'Lib.IsBuilderF' (a builder that 'String()' may have read), AND WITH THE FRAME THAT REACHES ABOVE THE BUILDER: 'Lib.OthersKept': every block that is not b and is no row of uint8's stands as it stood: the iterator of a range among them. (LAID: no walk: one application.) -/
theorem Tryz.Builder_String_any_k (B b : Nat) (l : List UInt8) (w : World) (h : Lib.IsBuilderF 69 5 B b (Lib.byteCells l) w) (hBw : B ≤ w.heap.size) :
    Calls Tryz.prog 77 #[.pointer (some ⟨b, 0, none⟩)] w fun e w' => e = .returned (.string ⟨l.toArray⟩) ∧ (Lib.IsBuilderF 69 5 B b (Lib.byteCells l) w' ∧ Below B w w' ∧ Lib.OthersKept 5 (some b) w w') := Any.Builder_String_any_k Tryz.lays169 Tryz.Builder_Extra_169 B b l w h hBw
def Tryz.lays242_ren : Go.Shelf.Ren := ⟨fun | 242 => 258 | 278 => 273 | n => n, fun | 37 => 45 | 21 => 21 | 51 => 239 | 4 => 4 | 5 => 5 | 46 => 175 | n => n, fun | n => n⟩
theorem Tryz.lays242 : Go.Proofs.Lays.n242 Tryz.prog Tryz.lays242_ren := {
  mixed := by kernel_rfl
  f242 := Tryz.func258.trans (congrArg some (by kernel_rfl))
  f278 := Tryz.func273.trans (congrArg some (by kernel_rfl))
  t4 := Tryz.underlying4
  a4 := Tryz.isAgg4
  z4 := Tryz.sizeOf4
  v4 := Tryz.zeroValue4
  t5 := Tryz.underlying5
  a5 := Tryz.isAgg5
  z5 := Tryz.sizeOf5
  v5 := Tryz.zeroValue5
  t21 := Tryz.underlying21
  a21 := Tryz.isAgg21
  z21 := Tryz.sizeOf21
  v21 := Tryz.zeroValue21
  t37 := Tryz.underlying45
  a37 := Tryz.isAgg45
  z37 := Tryz.sizeOf45
  v37 := Tryz.zeroValue45
  t46 := Tryz.underlying175
  a46 := Tryz.isAgg175
  z46 := Tryz.sizeOf175
  v46 := Tryz.zeroValue175
  t51 := Tryz.underlying239
  a51 := Tryz.isAgg239
  z51 := Tryz.sizeOf239
  v51 := Tryz.zeroValue239 }
open Go.RowKit in
/-- unicode/utf8.AppendRune: "AppendRune appends the UTF-8 encoding of r to the end of p and returns the extended buffer. If the rune is out of range, it appends the encoding of RuneError.": ONTO A ROW OF BYTES THAT THE CALL OWNS (its head frozen or not): EVERY int32: 'Lib.runeCells r' goes in behind what the row holds; the world: one new block (the bytes as the call's variadic argument), then what 'append' does to the row. (LAID: no walk: one application.) -/
theorem Tryz.utf8_AppendRune_row (B : Nat) (v : Value) (n : Nat) (xs : List Value) (r : Int) (hr0 : -2147483648 ≤ r) (hr1 : r ≤ 2147483647) (w : World) (hown : w.ownsRowF B 5 1 v n xs) (hlen : n + 4 ≤ 140737488355328) (hBw : B ≤ w.heap.size) :
    Calls Tryz.prog 258 #[v, .int .i32 r] w fun e w' => ∃ v', e = .returned v' ∧ w'.ownsRowF B 5 1 v' (n + (Lib.runeCells r).length) (xs ++ Lib.runeCells r) ∧ ∃ o, (w.alloc o).grownBy w' v.ownBlock := Any.utf8_AppendRune_row Tryz.lays242 (by kernel_rfl) B v n xs r hr0 hr1 w hown hlen hBw
def Tryz.laysC174_ren : Go.Shelf.Ren := ⟨fun | 174 => 218 | 247 => 248 | 245 => 249 | 287 => 260 | 279 => 261 | 280 => 262 | 281 => 263 | 282 => 264 | 321 => 274 | 322 => 275 | 316 => 276 | 171 => 278 | 205 => 277 | 243 => 288 | 246 => 296 | 283 => 301 | 284 => 302 | 285 => 303 | 286 => 304 | 129 => 179 | 317 => 307 | 318 => 308 | 319 => 309 | 320 => 310 | 337 => 311 | 338 => 312 | n => n, fun | 9 => 9 | 3 => 3 | 2 => 2 | 75 => 188 | 85 => 265 | 4 => 4 | 167 => 297 | 5 => 5 | 53 => 241 | 175 => 298 | 46 => 175 | 168 => 300 | 37 => 45 | 0 => 0 | 210 => 313 | 21 => 21 | 127 => 199 | 145 => 326 | 143 => 324 | 171 => 332 | 173 => 334 | 212 => 340 | 51 => 239 | 20 => 20 | 213 => 341 | 232 => 342 | 233 => 343 | 80 => 143 | n => n, fun | 15 => 3 | 16 => 4 | 17 => 5 | 18 => 6 | 19 => 7 | n => n⟩
theorem Tryz.laysC174 : Go.Proofs.LaysC.n174 Tryz.prog Tryz.laysC174_ren := {
  mixed := by kernel_rfl
  f129 := Tryz.func179.trans (congrArg some (by kernel_rfl))
  f171 := Tryz.func278.trans (congrArg some (by kernel_rfl))
  f174 := Tryz.func218.trans (congrArg some (by kernel_rfl))
  f205 := Tryz.func277.trans (congrArg some (by kernel_rfl))
  f243 := Tryz.func288.trans (congrArg some (by kernel_rfl))
  f245 := Tryz.func249.trans (congrArg some (by kernel_rfl))
  f246 := Tryz.func296.trans (congrArg some (by kernel_rfl))
  f247 := Tryz.func248.trans (congrArg some (by kernel_rfl))
  f279 := Tryz.func261.trans (congrArg some (by kernel_rfl))
  f280 := Tryz.func262.trans (congrArg some (by kernel_rfl))
  f281 := Tryz.func263.trans (congrArg some (by kernel_rfl))
  f282 := Tryz.func264.trans (congrArg some (by kernel_rfl))
  f283 := Tryz.func301.trans (congrArg some (by kernel_rfl))
  f284 := Tryz.func302.trans (congrArg some (by kernel_rfl))
  f285 := Tryz.func303.trans (congrArg some (by kernel_rfl))
  f286 := Tryz.func304.trans (congrArg some (by kernel_rfl))
  f287 := Tryz.func260.trans (congrArg some (by kernel_rfl))
  f316 := Tryz.func276.trans (congrArg some (by kernel_rfl))
  f317 := Tryz.func307.trans (congrArg some (by kernel_rfl))
  f318 := Tryz.func308.trans (congrArg some (by kernel_rfl))
  f319 := Tryz.func309.trans (congrArg some (by kernel_rfl))
  f320 := Tryz.func310.trans (congrArg some (by kernel_rfl))
  f321 := Tryz.func274.trans (congrArg some (by kernel_rfl))
  f322 := Tryz.func275.trans (congrArg some (by kernel_rfl))
  f337 := Tryz.func311.trans (congrArg some (by kernel_rfl))
  f338 := Tryz.func312.trans (congrArg some (by kernel_rfl))
  t0 := Tryz.underlying0
  a0 := Tryz.isAgg0
  z0 := Tryz.sizeOf0
  v0 := Tryz.zeroValue0
  t2 := Tryz.underlying2
  a2 := Tryz.isAgg2
  z2 := Tryz.sizeOf2
  v2 := Tryz.zeroValue2
  t3 := Tryz.underlying3
  a3 := Tryz.isAgg3
  z3 := Tryz.sizeOf3
  v3 := Tryz.zeroValue3
  t4 := Tryz.underlying4
  a4 := Tryz.isAgg4
  z4 := Tryz.sizeOf4
  v4 := Tryz.zeroValue4
  t5 := Tryz.underlying5
  a5 := Tryz.isAgg5
  z5 := Tryz.sizeOf5
  v5 := Tryz.zeroValue5
  t9 := Tryz.underlying9
  a9 := Tryz.isAgg9
  z9 := Tryz.sizeOf9
  v9 := Tryz.zeroValue9
  t20 := Tryz.underlying20
  a20 := Tryz.isAgg20
  z20 := Tryz.sizeOf20
  v20 := Tryz.zeroValue20
  t21 := Tryz.underlying21
  a21 := Tryz.isAgg21
  z21 := Tryz.sizeOf21
  v21 := Tryz.zeroValue21
  t37 := Tryz.underlying45
  a37 := Tryz.isAgg45
  z37 := Tryz.sizeOf45
  v37 := Tryz.zeroValue45
  t46 := Tryz.underlying175
  a46 := Tryz.isAgg175
  z46 := Tryz.sizeOf175
  v46 := Tryz.zeroValue175
  t51 := Tryz.underlying239
  a51 := Tryz.isAgg239
  z51 := Tryz.sizeOf239
  v51 := Tryz.zeroValue239
  t53 := Tryz.underlying241
  a53 := Tryz.isAgg241
  z53 := Tryz.sizeOf241
  v53 := Tryz.zeroValue241
  t75 := Tryz.underlying188
  a75 := Tryz.isAgg188
  z75 := Tryz.sizeOf188
  v75 := Tryz.zeroValue188
  t85 := Tryz.underlying265
  a85 := Tryz.isAgg265
  z85 := Tryz.sizeOf265
  v85 := Tryz.zeroValue265
  t127 := Tryz.underlying199
  a127 := Tryz.isAgg199
  z127 := Tryz.sizeOf199
  v127 := Tryz.zeroValue199
  t143 := Tryz.underlying324
  a143 := Tryz.isAgg324
  z143 := Tryz.sizeOf324
  v143 := Tryz.zeroValue324
  t145 := Tryz.underlying326
  a145 := Tryz.isAgg326
  z145 := Tryz.sizeOf326
  v145 := Tryz.zeroValue326
  t167 := Tryz.underlying297
  a167 := Tryz.isAgg297
  z167 := Tryz.sizeOf297
  v167 := Tryz.zeroValue297
  t168 := Tryz.underlying300
  a168 := Tryz.isAgg300
  z168 := Tryz.sizeOf300
  v168 := Tryz.zeroValue300
  t171 := Tryz.underlying332
  a171 := Tryz.isAgg332
  z171 := Tryz.sizeOf332
  v171 := Tryz.zeroValue332
  t173 := Tryz.underlying334
  a173 := Tryz.isAgg334
  z173 := Tryz.sizeOf334
  v173 := Tryz.zeroValue334
  t175 := Tryz.underlying298
  a175 := Tryz.isAgg298
  z175 := Tryz.sizeOf298
  v175 := Tryz.zeroValue298
  t210 := Tryz.underlying313
  a210 := Tryz.isAgg313
  z210 := Tryz.sizeOf313
  v210 := Tryz.zeroValue313
  t212 := Tryz.underlying340
  a212 := Tryz.isAgg340
  z212 := Tryz.sizeOf340
  v212 := Tryz.zeroValue340
  t213 := Tryz.underlying341
  a213 := Tryz.isAgg341
  z213 := Tryz.sizeOf341
  t232 := Tryz.underlying342
  a232 := Tryz.isAgg342
  z232 := Tryz.sizeOf342
  v232 := Tryz.zeroValue342
  t233 := Tryz.underlying343
  a233 := Tryz.isAgg343
  z233 := Tryz.sizeOf343
  v233 := Tryz.zeroValue343
  g15 := by kernel_rfl
  g16 := by kernel_rfl
  g17 := by kernel_rfl
  g18 := by kernel_rfl
  g19 := by kernel_rfl
  t80 := Tryz.underlying143
  a80 := Tryz.isAgg143
  z80 := Tryz.sizeOf143
  v80 := Tryz.zeroValue143
  i0 := by kernel_rfl
  i2 := by kernel_rfl
  i3 := by kernel_rfl
  i4 := by kernel_rfl
  i5 := by kernel_rfl
  i9 := by kernel_rfl
  i20 := by kernel_rfl
  i21 := by kernel_rfl
  i37 := by kernel_rfl
  i46 := by kernel_rfl
  i51 := by kernel_rfl
  i53 := by kernel_rfl
  i75 := by kernel_rfl
  i80 := by kernel_rfl
  i85 := by kernel_rfl
  i127 := by kernel_rfl
  i143 := by kernel_rfl
  i145 := by kernel_rfl
  i167 := by kernel_rfl
  i168 := by kernel_rfl
  i171 := by kernel_rfl
  i173 := by kernel_rfl
  i175 := by kernel_rfl
  i210 := by kernel_rfl
  i212 := by kernel_rfl
  i232 := by kernel_rfl
  i233 := by kernel_rfl
  m15 := by kernel_rfl
  m16 := by kernel_rfl
  m17 := by kernel_rfl
  m18 := by kernel_rfl
  m19 := by kernel_rfl
  c0 := by kernel_rfl
  c2 := by kernel_rfl
  c3 := by kernel_rfl
  c4 := by kernel_rfl
  c5 := by kernel_rfl
  c9 := by kernel_rfl
  c20 := by kernel_rfl
  c21 := by kernel_rfl
  c37 := by kernel_rfl
  c46 := by kernel_rfl
  c51 := by kernel_rfl
  c53 := by kernel_rfl
  c75 := by kernel_rfl
  c80 := by kernel_rfl
  c85 := by kernel_rfl
  c127 := by kernel_rfl
  c143 := by kernel_rfl
  c145 := by kernel_rfl
  c167 := by kernel_rfl
  c168 := by kernel_rfl
  c171 := by kernel_rfl
  c173 := by kernel_rfl
  c175 := by kernel_rfl
  c210 := by kernel_rfl
  c212 := by kernel_rfl
  c213 := by kernel_rfl
  c232 := by kernel_rfl
  c233 := by kernel_rfl }
open Go.RowKit in
/-- strconv.ParseInt(s, 10, 32), AT EVERY STRING THAT SPELLS AN int32 ('Lib.parseIntB 32 s.data.toList = .ok v'): v, AND NO ERROR. (LAID: no walk: one application.) -/
theorem Tryz.strconv_ParseInt_10_at32_ok (s : ByteArray) (hmax : s.size ≤ 9223372036854775806) (v : Int) (h : Lib.parseIntB 32 s.data.toList = .ok v) (w : World) :
    Calls Tryz.prog 218 #[.string s, .int .i64 10, .int .i64 32] w fun e w' => e = .returned (.tuple #[.int .i64 v, .nilIface]) ∧ (w' = w ∨ ∃ t, w' = Lib.bytesWorld w 5 t) := Any.strconv_ParseInt_10_at32_ok Tryz.laysC174 s hmax v h w
open Go.RowKit in
/-- strconv.ParseInt(s, 10, 32), AT EVERY NUMERAL THAT NO int32 HOLDS: THE GREATEST OR THE LEAST int32, BY THE SIGN ('Lib.intSat 32'), AND AN ERROR THAT IS NOT nil: a *NumError in a new block N: {Func: "ParseInt", Num: s's bytes, Err: what the variable ErrRange holds}. Of what was there nothing has turned. (LAID: no walk: one application.) -/
theorem Tryz.strconv_ParseInt_10_at32_range (s : ByteArray) (hlim : s.size ≤ 281474976710656) (h : Lib.parseIntB 32 s.data.toList = .range) (ev : Value) (w : World) (hv : w.cell? ⟨4, 0, none⟩ = some ev) (hev : ev = .nilIface ∨ ∃ te pe, ev = .iface te pe) :
    Calls Tryz.prog 218 #[.string s, .int .i64 10, .int .i64 32] w fun e w' => ∃ N, e = .returned (.tuple #[.int .i64 (Lib.intSat 32 s.data.toList), .iface 300 (.pointer (some ⟨N, 0, none⟩))]) ∧ w.heap.size ≤ N ∧ w'.heap[N]? = some (.cells #[.string ⟨#[80, 97, 114, 115, 101, 73, 110, 116]⟩, .string s, ev] 313 (0, 0)) ∧ Below w.heap.size w w' := Any.strconv_ParseInt_10_at32_range Tryz.laysC174 s hlim h ev w hv hev
def Tryz.lays99_ren : Go.Shelf.Ren := ⟨fun | 99 => 203 | 206 => 238 | n => n, fun | 9 => 9 | 4 => 4 | 3 => 3 | n => n, fun | n => n⟩
theorem Tryz.lays99 : Go.Proofs.Lays.n99 Tryz.prog Tryz.lays99_ren := {
  mixed := by kernel_rfl
  f99 := Tryz.func203.trans (congrArg some (by kernel_rfl))
  f206 := Tryz.func238.trans (congrArg some (by kernel_rfl))
  t3 := Tryz.underlying3
  a3 := Tryz.isAgg3
  z3 := Tryz.sizeOf3
  v3 := Tryz.zeroValue3
  t4 := Tryz.underlying4
  a4 := Tryz.isAgg4
  z4 := Tryz.sizeOf4
  v4 := Tryz.zeroValue4
  t9 := Tryz.underlying9
  a9 := Tryz.isAgg9
  z9 := Tryz.sizeOf9
  v9 := Tryz.zeroValue9 }
open Go.RowKit Go.Lib in
/-- strings.HasPrefix: "HasPrefix reports whether the string s begins with prefix.": IT RETURNS 'Lib.hasPrefix s prefix'; the world is as it was. (LAID: no walk: one application.) -/
theorem Tryz.strings_HasPrefix (s p : ByteArray) (w : World) :
    Calls Tryz.prog 203 #[.string s, .string p] w fun e w' => e = .returned (.bool (Lib.hasPrefix s.data.toList p.data.toList)) ∧ w' = w := Any.strings_HasPrefix Tryz.lays99 s p w
def Tryz.lays100_ren : Go.Shelf.Ren := ⟨fun | 100 => 215 | 207 => 245 | n => n, fun | 9 => 9 | 4 => 4 | 3 => 3 | n => n, fun | n => n⟩
theorem Tryz.lays100 : Go.Proofs.Lays.n100 Tryz.prog Tryz.lays100_ren := {
  mixed := by kernel_rfl
  f100 := Tryz.func215.trans (congrArg some (by kernel_rfl))
  f207 := Tryz.func245.trans (congrArg some (by kernel_rfl))
  t3 := Tryz.underlying3
  a3 := Tryz.isAgg3
  z3 := Tryz.sizeOf3
  v3 := Tryz.zeroValue3
  t4 := Tryz.underlying4
  a4 := Tryz.isAgg4
  z4 := Tryz.sizeOf4
  v4 := Tryz.zeroValue4
  t9 := Tryz.underlying9
  a9 := Tryz.isAgg9
  z9 := Tryz.sizeOf9
  v9 := Tryz.zeroValue9 }
open Go.RowKit Go.Lib in
/-- strings.HasSuffix: "HasSuffix reports whether the string s ends with suffix.": IT RETURNS 'Lib.hasSuffix s suffix'; the world is as it was. ('hs': no Go string is longer: a caller has it of every string that it was handed.) (LAID: no walk: one application.) -/
theorem Tryz.strings_HasSuffix (s p : ByteArray) (w : World) (hs : s.size ≤ 9223372036854775807) :
    Calls Tryz.prog 215 #[.string s, .string p] w fun e w' => e = .returned (.bool (Lib.hasSuffix s.data.toList p.data.toList)) ∧ w' = w := Any.strings_HasSuffix Tryz.lays100 s p w hs
def Tryz.lays102_ren : Go.Shelf.Ren := ⟨fun | 102 => 216 | 209 => 246 | 207 => 245 | n => n, fun | 9 => 9 | 4 => 4 | 3 => 3 | n => n, fun | n => n⟩
theorem Tryz.lays102 : Go.Proofs.Lays.n102 Tryz.prog Tryz.lays102_ren := {
  mixed := by kernel_rfl
  f102 := Tryz.func216.trans (congrArg some (by kernel_rfl))
  f207 := Tryz.func245.trans (congrArg some (by kernel_rfl))
  f209 := Tryz.func246.trans (congrArg some (by kernel_rfl))
  t3 := Tryz.underlying3
  a3 := Tryz.isAgg3
  z3 := Tryz.sizeOf3
  v3 := Tryz.zeroValue3
  t4 := Tryz.underlying4
  a4 := Tryz.isAgg4
  z4 := Tryz.sizeOf4
  v4 := Tryz.zeroValue4
  t9 := Tryz.underlying9
  a9 := Tryz.isAgg9
  z9 := Tryz.sizeOf9
  v9 := Tryz.zeroValue9 }
open Go.RowKit Go.Lib in
/-- strings.TrimSuffix: "TrimSuffix returns s without the provided trailing suffix string. If s doesn't end with suffix, s is returned unchanged.": IT RETURNS 'Lib.trimSuffix s suffix'; the world is as it was. (LAID: no walk: one application.) -/
theorem Tryz.strings_TrimSuffix (s p : ByteArray) (w : World) (hs : s.size ≤ 9223372036854775807) :
    Calls Tryz.prog 216 #[.string s, .string p] w fun e w' => e = .returned (.string ⟨(Lib.trimSuffix s.data.toList p.data.toList).toArray⟩) ∧ w' = w := Any.strings_TrimSuffix Tryz.lays102 s p w hs
def Tryz.lays146_ren : Go.Shelf.Ren := ⟨fun | 146 => 254 | 221 => 269 | 268 => 280 | 138 => 281 | 143 => 282 | 195 => 290 | 197 => 239 | 218 => 291 | 219 => 292 | 260 => 253 | 217 => 244 | 225 => 297 | 224 => 298 | 267 => 299 | 266 => 259 | 314 => 305 | n => n, fun | 9 => 9 | 31 => 59 | 3 => 3 | 4 => 4 | 0 => 0 | 105 => 254 | 21 => 21 | 5 => 5 | 46 => 175 | 119 => 305 | 139 => 308 | 138 => 307 | 146 => 336 | 51 => 239 | n => n, fun | 1 => 2 | 3 => 0 | 4 => 1 | n => n⟩
theorem Tryz.lays146 : Go.Proofs.Lays.n146 Tryz.prog Tryz.lays146_ren := {
  mixed := by kernel_rfl
  f138 := Tryz.func281.trans (congrArg some (by kernel_rfl))
  f143 := Tryz.func282.trans (congrArg some (by kernel_rfl))
  f146 := Tryz.func254.trans (congrArg some (by kernel_rfl))
  f195 := Tryz.func290.trans (congrArg some (by kernel_rfl))
  f197 := Tryz.func239.trans (congrArg some (by kernel_rfl))
  f217 := Tryz.func244.trans (congrArg some (by kernel_rfl))
  f218 := Tryz.func291.trans (congrArg some (by kernel_rfl))
  f219 := Tryz.func292.trans (congrArg some (by kernel_rfl))
  f221 := Tryz.func269.trans (congrArg some (by kernel_rfl))
  f224 := Tryz.func298.trans (congrArg some (by kernel_rfl))
  f225 := Tryz.func297.trans (congrArg some (by kernel_rfl))
  f260 := Tryz.func253.trans (congrArg some (by kernel_rfl))
  f266 := Tryz.func259.trans (congrArg some (by kernel_rfl))
  f267 := Tryz.func299.trans (congrArg some (by kernel_rfl))
  f268 := Tryz.func280.trans (congrArg some (by kernel_rfl))
  f314 := Tryz.func305.trans (congrArg some (by kernel_rfl))
  t0 := Tryz.underlying0
  a0 := Tryz.isAgg0
  z0 := Tryz.sizeOf0
  v0 := Tryz.zeroValue0
  t3 := Tryz.underlying3
  a3 := Tryz.isAgg3
  z3 := Tryz.sizeOf3
  v3 := Tryz.zeroValue3
  t4 := Tryz.underlying4
  a4 := Tryz.isAgg4
  z4 := Tryz.sizeOf4
  v4 := Tryz.zeroValue4
  t5 := Tryz.underlying5
  a5 := Tryz.isAgg5
  z5 := Tryz.sizeOf5
  v5 := Tryz.zeroValue5
  t9 := Tryz.underlying9
  a9 := Tryz.isAgg9
  z9 := Tryz.sizeOf9
  v9 := Tryz.zeroValue9
  t21 := Tryz.underlying21
  a21 := Tryz.isAgg21
  z21 := Tryz.sizeOf21
  v21 := Tryz.zeroValue21
  t31 := Tryz.underlying59
  a31 := Tryz.isAgg59
  z31 := Tryz.sizeOf59
  v31 := Tryz.zeroValue59
  t46 := Tryz.underlying175
  a46 := Tryz.isAgg175
  z46 := Tryz.sizeOf175
  v46 := Tryz.zeroValue175
  t51 := Tryz.underlying239
  a51 := Tryz.isAgg239
  z51 := Tryz.sizeOf239
  v51 := Tryz.zeroValue239
  t105 := Tryz.underlying254
  a105 := Tryz.isAgg254
  z105 := Tryz.sizeOf254
  v105 := Tryz.zeroValue254
  t119 := Tryz.underlying305
  a119 := Tryz.isAgg305
  z119 := Tryz.sizeOf305
  t138 := Tryz.underlying307
  a138 := Tryz.isAgg307
  z138 := Tryz.sizeOf307
  v138 := Tryz.zeroValue307
  t139 := Tryz.underlying308
  a139 := Tryz.isAgg308
  z139 := Tryz.sizeOf308
  v139 := Tryz.zeroValue308
  t146 := Tryz.underlying336
  a146 := Tryz.isAgg336
  z146 := Tryz.sizeOf336
  v146 := Tryz.zeroValue336
  g1 := by kernel_rfl
  g3 := by kernel_rfl
  g4 := by kernel_rfl }
open Go.RowKit Go.Lib in
/-- strings.Split. (LAID: no walk: one application.) -/
theorem Tryz.strings_Split (s sep : ByteArray) (m : Int) (w : World) (hs : s.size < 4294967281) (hm : w.cell? ⟨2, 0, none⟩ = some (.int .i64 m)) (h1 : 1 ≤ sep.size) :
    Calls Tryz.prog 254 #[.string s, .string sep] w fun e w' =>
      e = .returned (.slice (some ⟨w.heap.size, 0, none⟩) (Lib.countB s sep + 1) (Lib.countB s sep + 1)) ∧ w' = w.alloc (.cells ((Lib.splitB sep 0 (Lib.countB s sep) s).map Value.string).toArray 9) := Any.strings_Split Tryz.lays146 (by kernel_rfl) s sep m w hs hm h1
def Tryz.lays155_ren : Go.Shelf.Ren := ⟨fun | 155 => 255 | 154 => 270 | 138 => 281 | 165 => 272 | 143 => 282 | 166 => 129 | 197 => 239 | 169 => 77 | 195 => 290 | 218 => 291 | 240 => 188 | 241 => 287 | 219 => 292 | 260 => 253 | 276 => 235 | 277 => 295 | 217 => 244 | 225 => 297 | 224 => 298 | 267 => 299 | 266 => 259 | 314 => 305 | n => n, fun | 9 => 9 | 3 => 3 | 4 => 4 | 72 => 69 | 0 => 0 | 76 => 189 | 105 => 254 | 21 => 21 | 5 => 5 | 70 => 67 | 20 => 20 | 37 => 45 | 75 => 188 | 127 => 199 | 164 => 281 | 46 => 175 | 119 => 305 | 139 => 308 | 138 => 307 | 146 => 336 | 51 => 239 | 80 => 143 | n => n, fun | 1 => 2 | 3 => 0 | 4 => 1 | n => n⟩
theorem Tryz.lays155 : Go.Proofs.Lays.n155 Tryz.prog Tryz.lays155_ren := {
  mixed := by kernel_rfl
  f138 := Tryz.func281.trans (congrArg some (by kernel_rfl))
  f143 := Tryz.func282.trans (congrArg some (by kernel_rfl))
  f154 := Tryz.func270.trans (congrArg some (by kernel_rfl))
  f155 := Tryz.func255.trans (congrArg some (by kernel_rfl))
  f165 := Tryz.func272.trans (congrArg some (by kernel_rfl))
  f166 := Tryz.func129.trans (congrArg some (by kernel_rfl))
  f169 := Tryz.func77.trans (congrArg some (by kernel_rfl))
  f195 := Tryz.func290.trans (congrArg some (by kernel_rfl))
  f197 := Tryz.func239.trans (congrArg some (by kernel_rfl))
  f217 := Tryz.func244.trans (congrArg some (by kernel_rfl))
  f218 := Tryz.func291.trans (congrArg some (by kernel_rfl))
  f219 := Tryz.func292.trans (congrArg some (by kernel_rfl))
  f224 := Tryz.func298.trans (congrArg some (by kernel_rfl))
  f225 := Tryz.func297.trans (congrArg some (by kernel_rfl))
  f240 := Tryz.func188.trans (congrArg some (by kernel_rfl))
  f241 := Tryz.func287.trans (congrArg some (by kernel_rfl))
  f260 := Tryz.func253.trans (congrArg some (by kernel_rfl))
  f266 := Tryz.func259.trans (congrArg some (by kernel_rfl))
  f267 := Tryz.func299.trans (congrArg some (by kernel_rfl))
  f276 := Tryz.func235.trans (congrArg some (by kernel_rfl))
  f277 := Tryz.func295.trans (congrArg some (by kernel_rfl))
  f314 := Tryz.func305.trans (congrArg some (by kernel_rfl))
  t0 := Tryz.underlying0
  a0 := Tryz.isAgg0
  z0 := Tryz.sizeOf0
  v0 := Tryz.zeroValue0
  t3 := Tryz.underlying3
  a3 := Tryz.isAgg3
  z3 := Tryz.sizeOf3
  v3 := Tryz.zeroValue3
  t4 := Tryz.underlying4
  a4 := Tryz.isAgg4
  z4 := Tryz.sizeOf4
  v4 := Tryz.zeroValue4
  t5 := Tryz.underlying5
  a5 := Tryz.isAgg5
  z5 := Tryz.sizeOf5
  v5 := Tryz.zeroValue5
  t9 := Tryz.underlying9
  a9 := Tryz.isAgg9
  z9 := Tryz.sizeOf9
  v9 := Tryz.zeroValue9
  t20 := Tryz.underlying20
  a20 := Tryz.isAgg20
  z20 := Tryz.sizeOf20
  v20 := Tryz.zeroValue20
  t21 := Tryz.underlying21
  a21 := Tryz.isAgg21
  z21 := Tryz.sizeOf21
  v21 := Tryz.zeroValue21
  t37 := Tryz.underlying45
  a37 := Tryz.isAgg45
  z37 := Tryz.sizeOf45
  v37 := Tryz.zeroValue45
  t46 := Tryz.underlying175
  a46 := Tryz.isAgg175
  z46 := Tryz.sizeOf175
  v46 := Tryz.zeroValue175
  t51 := Tryz.underlying239
  a51 := Tryz.isAgg239
  z51 := Tryz.sizeOf239
  v51 := Tryz.zeroValue239
  t70 := Tryz.underlying67
  a70 := Tryz.isAgg67
  z70 := Tryz.sizeOf67
  v70 := Tryz.zeroValue67
  t72 := Tryz.underlying69
  a72 := Tryz.isAgg69
  z72 := Tryz.sizeOf69
  v72 := Tryz.zeroValue69
  t75 := Tryz.underlying188
  a75 := Tryz.isAgg188
  z75 := Tryz.sizeOf188
  v75 := Tryz.zeroValue188
  t76 := Tryz.underlying189
  a76 := Tryz.isAgg189
  z76 := Tryz.sizeOf189
  v76 := Tryz.zeroValue189
  t105 := Tryz.underlying254
  a105 := Tryz.isAgg254
  z105 := Tryz.sizeOf254
  v105 := Tryz.zeroValue254
  t119 := Tryz.underlying305
  a119 := Tryz.isAgg305
  z119 := Tryz.sizeOf305
  t127 := Tryz.underlying199
  a127 := Tryz.isAgg199
  z127 := Tryz.sizeOf199
  v127 := Tryz.zeroValue199
  t138 := Tryz.underlying307
  a138 := Tryz.isAgg307
  z138 := Tryz.sizeOf307
  v138 := Tryz.zeroValue307
  t139 := Tryz.underlying308
  a139 := Tryz.isAgg308
  z139 := Tryz.sizeOf308
  v139 := Tryz.zeroValue308
  t146 := Tryz.underlying336
  a146 := Tryz.isAgg336
  z146 := Tryz.sizeOf336
  v146 := Tryz.zeroValue336
  t164 := Tryz.underlying281
  a164 := Tryz.isAgg281
  z164 := Tryz.sizeOf281
  v164 := Tryz.zeroValue281
  g1 := by kernel_rfl
  g3 := by kernel_rfl
  g4 := by kernel_rfl }
theorem Tryz.Builder_Extra_155 : Builder.Extra Tryz.prog Tryz.lays155_ren := {
  sizeBuilder := by kernel_rfl
  liesBuilder := by kernel_rfl
  t5 := Tryz.underlying5
  a5 := Tryz.isAgg5
  z5 := Tryz.sizeOf5
  v5 := Tryz.zeroValue5
  infoByte := by kernel_rfl
  cellsByte := by kernel_rfl
  sizeByte := by kernel_rfl
  neB5 := by decide }
open Go.RowKit Go.Lib in
/-- strings.ReplaceAll: "ReplaceAll returns a copy of the string s with all non-overlapping instances of old replaced by new.": AT AN old THAT IS NOT EMPTY: 'Lib.replaceAll s old new'. (LAID: no walk: one application.) -/
theorem Tryz.strings_ReplaceAll (s old new : ByteArray) (m : Int) (w : World) (hs : s.size < 4294967281) (hm : w.cell? ⟨2, 0, none⟩ = some (.int .i64 m)) (h1 : 1 ≤ old.size) (hlen : s.size + Lib.countB s old * new.size ≤ 140737488355328) :
    Calls Tryz.prog 255 #[.string s, .string old, .string new] w fun e w' =>
      e = .returned (.string ⟨(Lib.replaceAll s.data.toList old.data.toList new.data.toList).toArray⟩) ∧ Below w.heap.size w w' := Any.strings_ReplaceAll Tryz.lays155 Tryz.Builder_Extra_155 s old new m w hs hm h1 hlen
def Tryz.lays197_ren : Go.Shelf.Ren := ⟨fun | 197 => 239 | 260 => 253 | n => n, fun | 9 => 9 | 21 => 21 | 3 => 3 | 4 => 4 | 5 => 5 | 105 => 254 | 119 => 305 | 0 => 0 | 46 => 175 | 139 => 308 | 138 => 307 | n => n, fun | 3 => 0 | 4 => 1 | n => n⟩
theorem Tryz.lays197 : Go.Proofs.Lays.n197 Tryz.prog Tryz.lays197_ren := {
  mixed := by kernel_rfl
  f197 := Tryz.func239.trans (congrArg some (by kernel_rfl))
  f260 := Tryz.func253.trans (congrArg some (by kernel_rfl))
  t0 := Tryz.underlying0
  a0 := Tryz.isAgg0
  z0 := Tryz.sizeOf0
  v0 := Tryz.zeroValue0
  t3 := Tryz.underlying3
  a3 := Tryz.isAgg3
  z3 := Tryz.sizeOf3
  v3 := Tryz.zeroValue3
  t4 := Tryz.underlying4
  a4 := Tryz.isAgg4
  z4 := Tryz.sizeOf4
  v4 := Tryz.zeroValue4
  t5 := Tryz.underlying5
  a5 := Tryz.isAgg5
  z5 := Tryz.sizeOf5
  v5 := Tryz.zeroValue5
  t9 := Tryz.underlying9
  a9 := Tryz.isAgg9
  z9 := Tryz.sizeOf9
  v9 := Tryz.zeroValue9
  t21 := Tryz.underlying21
  a21 := Tryz.isAgg21
  z21 := Tryz.sizeOf21
  v21 := Tryz.zeroValue21
  t46 := Tryz.underlying175
  a46 := Tryz.isAgg175
  z46 := Tryz.sizeOf175
  v46 := Tryz.zeroValue175
  t105 := Tryz.underlying254
  a105 := Tryz.isAgg254
  z105 := Tryz.sizeOf254
  v105 := Tryz.zeroValue254
  t119 := Tryz.underlying305
  a119 := Tryz.isAgg305
  z119 := Tryz.sizeOf305
  t138 := Tryz.underlying307
  a138 := Tryz.isAgg307
  z138 := Tryz.sizeOf307
  v138 := Tryz.zeroValue307
  t139 := Tryz.underlying308
  a139 := Tryz.isAgg308
  z139 := Tryz.sizeOf308
  v139 := Tryz.zeroValue308
  g3 := by kernel_rfl
  g4 := by kernel_rfl }
def Tryz.lays260_ren : Go.Shelf.Ren := ⟨fun | 260 => 253 | n => n, fun | 9 => 9 | 21 => 21 | 3 => 3 | 4 => 4 | 5 => 5 | 119 => 305 | 0 => 0 | 46 => 175 | 139 => 308 | 138 => 307 | n => n, fun | 3 => 0 | 4 => 1 | n => n⟩
theorem Tryz.lays260 : Go.Proofs.Lays.n260 Tryz.prog Tryz.lays260_ren := {
  mixed := by kernel_rfl
  f260 := Tryz.func253.trans (congrArg some (by kernel_rfl))
  t0 := Tryz.underlying0
  a0 := Tryz.isAgg0
  z0 := Tryz.sizeOf0
  v0 := Tryz.zeroValue0
  t3 := Tryz.underlying3
  a3 := Tryz.isAgg3
  z3 := Tryz.sizeOf3
  v3 := Tryz.zeroValue3
  t4 := Tryz.underlying4
  a4 := Tryz.isAgg4
  z4 := Tryz.sizeOf4
  v4 := Tryz.zeroValue4
  t5 := Tryz.underlying5
  a5 := Tryz.isAgg5
  z5 := Tryz.sizeOf5
  v5 := Tryz.zeroValue5
  t9 := Tryz.underlying9
  a9 := Tryz.isAgg9
  z9 := Tryz.sizeOf9
  v9 := Tryz.zeroValue9
  t21 := Tryz.underlying21
  a21 := Tryz.isAgg21
  z21 := Tryz.sizeOf21
  v21 := Tryz.zeroValue21
  t46 := Tryz.underlying175
  a46 := Tryz.isAgg175
  z46 := Tryz.sizeOf175
  v46 := Tryz.zeroValue175
  t119 := Tryz.underlying305
  a119 := Tryz.isAgg305
  z119 := Tryz.sizeOf305
  t138 := Tryz.underlying307
  a138 := Tryz.isAgg307
  z138 := Tryz.sizeOf307
  v138 := Tryz.zeroValue307
  t139 := Tryz.underlying308
  a139 := Tryz.isAgg308
  z139 := Tryz.sizeOf308
  v139 := Tryz.zeroValue308
  g3 := by kernel_rfl
  g4 := by kernel_rfl }
open Go.RowKit Go.Lib in
/-- **unicode/utf8.DecodeRuneInString AT EVERY STRING.** (LAID: no walk: one application.) -/
theorem Tryz.utf8_DecodeRuneInString (s : ByteArray) (w : World) (hT : Lib.Utf8Tabs 0 1 w) :
    Calls Tryz.prog 239 #[.string s] w fun e w' => e = .returned (.tuple #[.int .i32 (Lib.decodeGo s).1, .int .i64 (Lib.decodeGo s).2]) ∧ Below w.heap.size w w' := Any.utf8_DecodeRuneInString Tryz.lays197 s w hT
end Go.Proofs
