/-
  CoerceInts, walked. What the listed variables give; a world for the witnesses (the coercers' laws).
-/
import Derived.Test.YtmgoebfcfgilfaaGreatDoorZi18
import Derived.Test.YtmgoebfcfgilfaaGreatDoorZi2
import Derived.Laws.IdiomStrings
import Derived.Laws.BytesArg
import Derived.Test.YtmgoebfcfgilfaaGreatDoorCards
import Derived.Test.YtmgoebfcfgilfaaGreatDoorTie
import Derived.Test.YtmgoebfcfgilfaaGreatDoorZi17
import Derived.Test.YtmgoebfcfgilfaaGreatDoorZi7
import Derived.Test.YtmgoebfcfgilfaaGreatDoorZi10
import Derived.WalkKit
import Derived.ProofKit
import Derived.OpenShut
import Derived.Deep.DeepHandedRow
import Derived.Lib.LaidTab
import Derived.Lib.LaidIn
import Derived.Lib.LaidU8
import Derived.Lib.LaidU8T
import Derived.Stop.LaidErr
import Derived.LaidLaws
import Derived.Carry
namespace Go.Proofs.YtmgoebfcfgilfaaGreatDoor
set_option linter.unusedSimpArgs false
set_option linter.unusedVariables false
open Go Go.RowKit
open Go.Maps Go.WideMaps

theorem conv_one (w : World) (n : Nat) (hn : n < 10) : (convert 45 9 (.slice (some ⟨w.heap.size, 0, none⟩) 1 1)).run Tryz.prog (w.alloc (.cells #[.int .u8 (48 + (n : Int))] 5)) = .ok (.string ⟨[UInt8.ofNat (48 + n)].toArray⟩) (w.alloc (.cells #[.int .u8 (48 + (n : Int))] 5)) := by
  refine run_convert_bytes_back (w.alloc (.cells #[.int .u8 (48 + (n : Int))] 5)) 45 9 5 ⟨w.heap.size, 0, none⟩ 1 [UInt8.ofNat (48 + n)] Tryz.underlying45 Tryz.underlying5 Tryz.underlying9 (fun j hj => ?_)
  have h0 : j = 0 := by simpa using hj
  subst h0
  rw [addrAddP]
  have := Ci.ofNat_val n hn
  refine (cell_at_new w _ _ (0, 0) 0 _ ?_)
  show (some (Value.int .u8 (48 + (n : Int)))) = some (.int .u8 (((UInt8.ofNat (48 + n)).toNat : Nat) : Int))
  rw [this]
  rfl
/-- What a number's text is at a scalar type. -/
theorem tellc_scalar {w : World} {tb : Nat} {s t T : ByteArray} {ok : Bool} (hT : TypesAt w tb) (hR : RangeVar w) (hts : t.size ≤ 1000) (hTs : T.size ≤ 1000) (htT : (⟨(Lib.trimSuffix t.data.toList [33]).toArray⟩ : ByteArray) = T) (hTT : (⟨(Lib.trimSuffix T.data.toList [33]).toArray⟩ : ByteArray) = T) (hp : Lib.hasPrefix T.data.toList [91] = false) (hm : T.data.toList ∈ Tp.names)
    (hsc : ∀ w, RangeVar w → Calls Tryz.prog 166 #[.string T, .agg #[.int .i64 2, .string s, .slice none 0 0, .slice none 0 0, .int .i64 0]] w fun e w' => e = .returned (.bool ok) ∧ Below w.heap.size w w') :
    TellC w tb t (.agg #[.int .i64 2, .string s, .slice none 0 0, .slice none 0 0, .int .i64 0]) (if ok then [] else [(130, 0)]) := by
  intro w1 hb1
  have hT1 := hT.keep hb1
  have hR1 := hR.below hb1
  refine ⟨fun W xb hb hk => ?_, fun W xb hb => doubles_leaf xb _ _ none none 0 0 0 W⟩
  refine (value_num w1.heap.size xb tb (.slice none 0 0) [] t T s ok none none 0 0 0 0 0 W hk (by simp) (hT1.keep hb) hts hTs htT hTT hp hm (fun w' hb' => hsc w' ((hR1.below hb).below hb'))).mono ?_
  rintro e w' ⟨rfl, fv', h1, h2⟩
  refine ⟨rfl, fv', ?_, h2⟩
  cases ok
  · exact h1
  · exact h1
/-- k, by its sign. -/
def Ci.sg (neg : Bool) (K : Nat) : Int := if neg then -(K : Int) else (K : Int)
theorem Ci.sg_tmod (neg : Bool) (K : Nat) : (Ci.sg neg K).tmod 10 = Ci.sg neg (K % 10) := by
  cases neg
  · rfl
  · show (-(K : Int)).tmod 10 = -((K % 10 : Nat) : Int)
    rw [Int.neg_tmod]
    rfl
theorem Ci.sg_tdiv (neg : Bool) (K : Nat) : (Ci.sg neg K).tdiv 10 = Ci.sg neg (K / 10) := by
  cases neg
  · rfl
  · show (-(K : Int)).tdiv 10 = -((K / 10 : Nat) : Int)
    rw [Int.neg_tdiv]
    rfl
theorem Ci.len {M K : Nat} {s : List UInt8} (h : Ci.CIt M K s) (hM : M ≤ 9223372036854775808) : s.length ≤ 21 := by
  have hl : (Lib.decDigits M).length ≤ 21 := by
    rcases Nat.lt_or_ge M 9223372036854775808 with h1 | h1
    · have := Lib.itoa_length_le (M : Int) (by omega) (by omega)
      rwa [Lib.itoa_nonneg] at this
    · obtain rfl : M = 9223372036854775808 := by omega
      have := Lib.itoa_length_le (-9223372036854775808) (by omega) (by omega)
      unfold Lib.itoa at this
      rw [if_pos (by omega)] at this
      simp only [List.length_cons] at this
      have e : (-9223372036854775808 : Int).natAbs = 9223372036854775808 := rfl
      rw [e] at this
      omega
  rcases h with ⟨rfl, _⟩ | ⟨_, h⟩
  · simp
  · split at h
    · rw [h]; exact hl
    · rw [← h, List.length_append] at hl; omega
set_option maxHeartbeats 4000000 in
set_option maxRecDepth 100000 in
theorem coerceInts_any (n : Int) (w : World) (hn : -9223372036854775808 ≤ n ∧ n ≤ 9223372036854775807) (hE : Env w) (h3 : 3 ≤ w.heap.size) (hR : RangeVar w) :
    Calls Tryz.prog 6 #[.int .i64 n] w fun e w' => e = .returned (.bool true) ∧ Below w.heap.size w w' := by
  have HE := Lib.hid hE
  have HR := Lib.hid hR
  have HN := Lib.hid hn
  obtain ⟨neg, hneg⟩ : ∃ neg, neg = decide (n < 0) := ⟨_, rfl⟩
  have hneg2 : decide (n < 0) = neg := hneg.symm
  have HNG := Lib.hid hneg
  clear hE hR hn hneg
  go_enter Tryz.func6, Tryz.ntmps6
  go_wp2_with fail
  refine (tnew_any w).mono ?_
  rintro e w1 ⟨tb, rfl, htb, hT, hb1⟩
  have HAW := Lib.hid (cawake_any w1 (HE.out.below hb1) (Nat.le_trans h3 hb1.size) (HR.out.below hb1))
  have HT := Lib.hid hT
  have HB1 := Lib.hid hb1
  clear hT hb1 htb
  go_wp2_with fail
  refine HAW.out.mono ?_
  rintro e w2 ⟨rfl, hb2, -, hR2⟩
  have HT2 := Lib.hid (HT.out.keep hb2)
  have HB2 := Lib.hid (HB1.out.trans (hb2.mono HB1.out.size))
  have HR2 := Lib.hid hR2
  clear hb2 hR2 HAW
  go_wp2_with fail
  go_loopg [4, 6, 7] (n.natAbs + 1) (fun m s4 s6 s7 wq => ∃ (K : Nat) (s : List UInt8) (S : ByteArray) (kk : Int), m = K + (cond s.isEmpty 1 0) ∧ s6 = .int .i64 kk ∧ kk = Ci.sg neg K ∧ s4 = .string S ∧ S = ⟨s.toArray⟩ ∧ Ci.CIt n.natAbs K s ∧ K ≤ n.natAbs ∧ Below w2.heap.size w2 wq)
  case atStart =>
    refine ⟨n.natAbs, [], _, n, rfl, rfl, ?_, rfl, rfl, Ci.CIt.start _, Nat.le_refl _, Below.refl _ _⟩
    rw [HNG.out]
    unfold Ci.sg
    by_cases h : n < 0
    · rw [decide_eq_true h]; show n = -(n.natAbs : Int); omega
    · rw [decide_eq_false h]; show n = (n.natAbs : Int); omega
  case round =>
    obtain ⟨K, s, S, kk, hm, rfl, hkk, rfl, hS0, hci, hK, hbw⟩ := hrel
    have HM := Lib.hid hm
    have HKK := Lib.hid hkk
    have HSS := Lib.hid hS0
    have HCI := Lib.hid hci
    have HBW := Lib.hid hbw
    have HKL := Lib.hid hK
    clear hm hkk hci hbw
    have hSl : S.toList = s := by rw [hS0, ByteArray.toList_eq]
    have hSz : S.size ≤ 21 := by rw [hS0]; show s.toArray.size ≤ 21; rw [List.size_toArray]; exact Ci.len HCI.out (by have := HN.out; omega)
    clear hS0
    obtain ⟨D, hDD⟩ : ∃ D, D = K % 10 := ⟨_, rfl⟩
    have hD : D < 10 := by omega
    have hD1 : (D : Int) < 10 := by omega
    have hD0 : (0 : Int) ≤ (D : Int) := Int.natCast_nonneg _
    obtain ⟨kk2, hk2⟩ : ∃ kk2, kk2 = Ci.sg neg (K / 10) := ⟨_, rfl⟩
    have hq : kk.tdiv 10 = kk2 := by rw [HKK.out, Ci.sg_tdiv, hk2]
    have hq1 : -9223372036854775808 ≤ kk2 ∧ kk2 ≤ 9223372036854775807 := by
      rw [hk2]
      unfold Ci.sg
      have h1 := HKL.out
      have h2 := HN.out
      cases neg <;> simp <;> omega
    have hq2 := hq1.1
    have hq3 := hq1.2
    have hr0 : kk.tmod 10 = Ci.sg neg D := by rw [HKK.out, Ci.sg_tmod, hDD]
    have HDD := Lib.hid hDD
    have HK2 := Lib.hid hk2
    clear hDD hk2 hq1
    by_cases hK0 : K = 0
    · have hkk0 : kk = 0 := by rw [HKK.out, hK0]; cases neg <;> rfl
      subst hkk0
      have HK0 := Lib.hid hK0
      cases s with
      | nil =>
        have e3 : S.toList = [] := hSl
        have hcv := conv_one wr 0 (by decide)
        have hcv2 : (convert 45 9 (.slice (some ⟨wr.heap.size, 0, none⟩) 1 1)).run Tryz.prog (wr.alloc (.cells #[.int .u8 48] 5)) = .ok (.string ⟨#[48]⟩) (wr.alloc (.cells #[.int .u8 48] 5)) := hcv
        clear hSl hr0 hK0 hq hq2 hq3 hD hD1 hD0 hcv
        go_wp2_with fail
        go_roundg 0
        case measure => rw [HM.out, HK0.out]; simp
        case rel =>
          refine ⟨0, [48], _, 0, rfl, rfl, by cases neg <;> rfl, rfl, ?_, ?_, Nat.zero_le _, HBW.out.alloc HBW.out.size _⟩
          · rw [HSS.out]
            apply ByteArray.ext
            simp
          · have h1 := HCI.out.step (.inr rfl)
            rw [HK0.out] at h1
            exact h1
      | cons c r =>
        have e3 : S.toList.isEmpty = false := by rw [hSl]; rfl
        have e4 : (S.toList == []) = false := by rw [hSl]; rfl
        have e5 : (S.toList = []) = False := by rw [hSl]; simp
        have HTX : Hid (c :: r = Lib.decDigits n.natAbs) := by
          have h1 := HCI.out
          rw [hK0] at h1
          exact Lib.hid (h1.done (by simp))
        clear hSl hr0 hK0 hq hq2 hq3 hD hD1 hD0
        cases neg
        · have hnn : ¬ n < 0 := of_decide_eq_false hneg2
          obtain ⟨SX, hSX⟩ : ∃ SX, SX = S := ⟨_, rfl⟩
          have HTXT : Hid (SX.data.toList = Ci.text n) := by
            rw [hSX, HSS.out]
            unfold Ci.text
            rw [if_neg hnn, ← HTX.out]
            exact Lib.hid rfl
          have hsx : SX.size ≤ 100000 := by rw [hSX]; omega
          subst hSX
          clear hnn
          obtain ⟨V, hV⟩ : ∃ V, V = wr.alloc (.cells #[.int .i64 2, .string SX, .slice none 0 0, .slice none 0 0, .int .i64 0] 49) := ⟨_, rfl⟩
          have hbV : Below wr.heap.size wr V := by rw [hV]; exact (Below.refl _ _).alloc (Nat.le_refl _) _
          have HLV : Hid (wr.heap.size < V.heap.size) := Lib.hid (by rw [hV]; simp)
          have HCV : Hid (∀ (W : World), Below V.heap.size V W → ∀ (i : Nat) v, (#[.int .i64 2, .string SX, .slice none 0 0, .slice none 0 0, .int .i64 0] : Array Value)[i]? = some v → W.cell? ⟨wr.heap.size, i, none⟩ = some v) := Lib.hid (fun W hb i v hi => by
            rw [hb.cell (p := ⟨wr.heap.size, i, none⟩) HLV.out, hV]; exact cell_at_new wr _ _ (0, 0) i v hi)
          have hb2V : Below w2.heap.size w2 V := HBW.out.trans (hbV.mono HBW.out.size)
          have HTV := Lib.hid (HT2.out.keep hb2V)
          have HRV := Lib.hid (HR2.out.below hb2V)
          have HBV := Lib.hid (HB2.out.trans (hb2V.mono HB2.out.size))
          have HV2 := Lib.hid hV.symm
          clear hV hbV hb2V HR2
          have hp := Ci.parse_text n
          rw [← HTXT.out] at hp
          by_cases hA : -2147483648 ≤ n
          · by_cases hB : n ≤ 2147483647
            · have t1 : decide (n ≥ -2147483648) = true := decide_eq_true hA
              have t2 : decide (-2147483648 ≤ n) = true := decide_eq_true hA
              have t3 : decide (n ≤ 2147483647) = true := decide_eq_true hB
              rw [decide_eq_true (show -2147483648 ≤ n ∧ n ≤ 2147483647 from ⟨hA, hB⟩)] at hp
              have hnum : Num32 SX true := hp
              clear hp hA hB
              have HRI := Lib.hid (right_any tb ⟨#[73, 110, 116]⟩ 2 SX none none 0 0 0 0 0 _ true V (by simp) (tellc_scalar (t := ⟨#[73, 110, 116]⟩) (T := ⟨#[73, 110, 116]⟩) (ok := true) HTV.out HRV.out (by decide) (by decide) (by kernel_rfl) (by kernel_rfl) (by kernel_rfl) (by simp [Tp.names]) (fun w hR => scalar_int SX true none none 0 0 0 0 0 w hnum hsx hR)) rfl)
              have HR2 := Lib.hid (fun (W : World) (hb : Below V.heap.size V W) => right_any tb ⟨#[70, 108, 111, 97, 116]⟩ 2 SX none none 0 0 0 0 0 _ true W (by simp) (tellc_scalar (t := ⟨#[70, 108, 111, 97, 116]⟩) (T := ⟨#[70, 108, 111, 97, 116]⟩) (ok := true) (HTV.out.keep hb) (HRV.out.below hb) (by decide) (by decide) (by kernel_rfl) (by kernel_rfl) (by kernel_rfl) (by simp [Tp.names]) (fun w hR => scalar_float SX none none 0 0 0 0 0 w)) rfl)
              have HR3 := Lib.hid (fun (W : World) (hb : Below V.heap.size V W) => right_any tb ⟨#[73, 68, 33]⟩ 2 SX none none 0 0 0 0 0 _ true W (by simp) (tellc_scalar (t := ⟨#[73, 68, 33]⟩) (T := ⟨#[73, 68]⟩) (ok := true) (HTV.out.keep hb) (HRV.out.below hb) (by decide) (by decide) (by kernel_rfl) (by kernel_rfl) (by kernel_rfl) (by simp [Tp.names]) (fun w hR => scalar_id SX none none 0 0 0 0 0 w)) rfl)
              have HR4 := Lib.hid (fun (W : World) (hb : Below V.heap.size V W) => right_any tb ⟨#[83, 116, 114, 105, 110, 103]⟩ 2 SX none none 0 0 0 0 0 _ false W (by simp) (tellc_scalar (t := ⟨#[83, 116, 114, 105, 110, 103]⟩) (T := ⟨#[83, 116, 114, 105, 110, 103]⟩) (ok := false) (HTV.out.keep hb) (HRV.out.below hb) (by decide) (by decide) (by kernel_rfl) (by kernel_rfl) (by kernel_rfl) (by simp [Tp.names]) (fun w hR => scalar_string SX none none 0 0 0 0 0 w)) rfl)
              have HR5 := Lib.hid (fun (W : World) (hb : Below V.heap.size V W) => right_any tb ⟨#[66, 111, 111, 108, 101, 97, 110]⟩ 2 SX none none 0 0 0 0 0 _ false W (by simp) (tellc_scalar (t := ⟨#[66, 111, 111, 108, 101, 97, 110]⟩) (T := ⟨#[66, 111, 111, 108, 101, 97, 110]⟩) (ok := false) (HTV.out.keep hb) (HRV.out.below hb) (by decide) (by decide) (by kernel_rfl) (by kernel_rfl) (by kernel_rfl) (by simp [Tp.names]) (fun w hR => scalar_bool SX none none 0 0 0 0 0 w)) rfl)
              clear hnum hsx
              go_wp2_with fail
              rw [HV2.out]
              refine HRI.out.mono ?_
              rintro e w3 ⟨rfl, hb3⟩
              have f0 := HCV.out w3 hb3 0 _ rfl
              have f1 := HCV.out w3 hb3 1 _ rfl
              have f2 := HCV.out w3 hb3 2 _ rfl
              have f3 := HCV.out w3 hb3 3 _ rfl
              have f4 := HCV.out w3 hb3 4 _ rfl
              have H3 := Lib.hid hb3
              clear hb3 HRI
              go_wp2_with fail
              refine (HR2.out w3 H3.out).mono ?_
              rintro e w4 ⟨rfl, hb4⟩
              have H4 := Lib.hid (H3.out.trans (hb4.mono H3.out.size))
              clear f0 f1 f2 f3 f4 hb4
              have f0 := HCV.out w4 H4.out 0 _ rfl
              have f1 := HCV.out w4 H4.out 1 _ rfl
              have f2 := HCV.out w4 H4.out 2 _ rfl
              have f3 := HCV.out w4 H4.out 3 _ rfl
              have f4 := HCV.out w4 H4.out 4 _ rfl
              go_wp2_with fail
              refine (HR3.out w4 H4.out).mono ?_
              rintro e w5 ⟨rfl, hb5⟩
              have H5 := Lib.hid (H4.out.trans (hb5.mono H4.out.size))
              clear f0 f1 f2 f3 f4 hb5
              have f0 := HCV.out w5 H5.out 0 _ rfl
              have f1 := HCV.out w5 H5.out 1 _ rfl
              have f2 := HCV.out w5 H5.out 2 _ rfl
              have f3 := HCV.out w5 H5.out 3 _ rfl
              have f4 := HCV.out w5 H5.out 4 _ rfl
              go_wp2_with fail
              refine (HR4.out w5 H5.out).mono ?_
              rintro e w6 ⟨rfl, hb6⟩
              have H6 := Lib.hid (H5.out.trans (hb6.mono H5.out.size))
              clear f0 f1 f2 f3 f4 hb6
              have f0 := HCV.out w6 H6.out 0 _ rfl
              have f1 := HCV.out w6 H6.out 1 _ rfl
              have f2 := HCV.out w6 H6.out 2 _ rfl
              have f3 := HCV.out w6 H6.out 3 _ rfl
              have f4 := HCV.out w6 H6.out 4 _ rfl
              go_wp2_with fail
              refine (HR5.out w6 H6.out).mono ?_
              rintro e w7 ⟨rfl, hb7⟩
              have H7 := Lib.hid (H6.out.trans (hb7.mono H6.out.size))
              clear f0 f1 f2 f3 f4 hb7
              go_wp2_with fail
              go_ret
              exact ⟨rfl, HBV.out.trans (H7.out.mono HBV.out.size)⟩
            · have t1 : decide (n ≥ -2147483648) = true := decide_eq_true hA
              have t2 : decide (-2147483648 ≤ n) = true := decide_eq_true hA
              have t3 : decide (n ≤ 2147483647) = false := decide_eq_false hB
              rw [decide_eq_false (show ¬ (-2147483648 ≤ n ∧ n ≤ 2147483647) from fun h => hB h.2)] at hp
              have hnum : Num32 SX false := hp
              clear hp hA hB
              have HRI := Lib.hid (right_any tb ⟨#[73, 110, 116]⟩ 2 SX none none 0 0 0 0 0 _ false V (by simp) (tellc_scalar (t := ⟨#[73, 110, 116]⟩) (T := ⟨#[73, 110, 116]⟩) (ok := false) HTV.out HRV.out (by decide) (by decide) (by kernel_rfl) (by kernel_rfl) (by kernel_rfl) (by simp [Tp.names]) (fun w hR => scalar_int SX false none none 0 0 0 0 0 w hnum hsx hR)) rfl)
              have HR2 := Lib.hid (fun (W : World) (hb : Below V.heap.size V W) => right_any tb ⟨#[70, 108, 111, 97, 116]⟩ 2 SX none none 0 0 0 0 0 _ true W (by simp) (tellc_scalar (t := ⟨#[70, 108, 111, 97, 116]⟩) (T := ⟨#[70, 108, 111, 97, 116]⟩) (ok := true) (HTV.out.keep hb) (HRV.out.below hb) (by decide) (by decide) (by kernel_rfl) (by kernel_rfl) (by kernel_rfl) (by simp [Tp.names]) (fun w hR => scalar_float SX none none 0 0 0 0 0 w)) rfl)
              have HR3 := Lib.hid (fun (W : World) (hb : Below V.heap.size V W) => right_any tb ⟨#[73, 68, 33]⟩ 2 SX none none 0 0 0 0 0 _ true W (by simp) (tellc_scalar (t := ⟨#[73, 68, 33]⟩) (T := ⟨#[73, 68]⟩) (ok := true) (HTV.out.keep hb) (HRV.out.below hb) (by decide) (by decide) (by kernel_rfl) (by kernel_rfl) (by kernel_rfl) (by simp [Tp.names]) (fun w hR => scalar_id SX none none 0 0 0 0 0 w)) rfl)
              have HR4 := Lib.hid (fun (W : World) (hb : Below V.heap.size V W) => right_any tb ⟨#[83, 116, 114, 105, 110, 103]⟩ 2 SX none none 0 0 0 0 0 _ false W (by simp) (tellc_scalar (t := ⟨#[83, 116, 114, 105, 110, 103]⟩) (T := ⟨#[83, 116, 114, 105, 110, 103]⟩) (ok := false) (HTV.out.keep hb) (HRV.out.below hb) (by decide) (by decide) (by kernel_rfl) (by kernel_rfl) (by kernel_rfl) (by simp [Tp.names]) (fun w hR => scalar_string SX none none 0 0 0 0 0 w)) rfl)
              have HR5 := Lib.hid (fun (W : World) (hb : Below V.heap.size V W) => right_any tb ⟨#[66, 111, 111, 108, 101, 97, 110]⟩ 2 SX none none 0 0 0 0 0 _ false W (by simp) (tellc_scalar (t := ⟨#[66, 111, 111, 108, 101, 97, 110]⟩) (T := ⟨#[66, 111, 111, 108, 101, 97, 110]⟩) (ok := false) (HTV.out.keep hb) (HRV.out.below hb) (by decide) (by decide) (by kernel_rfl) (by kernel_rfl) (by kernel_rfl) (by simp [Tp.names]) (fun w hR => scalar_bool SX none none 0 0 0 0 0 w)) rfl)
              clear hnum hsx
              go_wp2_with fail
              rw [HV2.out]
              refine HRI.out.mono ?_
              rintro e w3 ⟨rfl, hb3⟩
              have f0 := HCV.out w3 hb3 0 _ rfl
              have f1 := HCV.out w3 hb3 1 _ rfl
              have f2 := HCV.out w3 hb3 2 _ rfl
              have f3 := HCV.out w3 hb3 3 _ rfl
              have f4 := HCV.out w3 hb3 4 _ rfl
              have H3 := Lib.hid hb3
              clear hb3 HRI
              go_wp2_with fail
              refine (HR2.out w3 H3.out).mono ?_
              rintro e w4 ⟨rfl, hb4⟩
              have H4 := Lib.hid (H3.out.trans (hb4.mono H3.out.size))
              clear f0 f1 f2 f3 f4 hb4
              have f0 := HCV.out w4 H4.out 0 _ rfl
              have f1 := HCV.out w4 H4.out 1 _ rfl
              have f2 := HCV.out w4 H4.out 2 _ rfl
              have f3 := HCV.out w4 H4.out 3 _ rfl
              have f4 := HCV.out w4 H4.out 4 _ rfl
              go_wp2_with fail
              refine (HR3.out w4 H4.out).mono ?_
              rintro e w5 ⟨rfl, hb5⟩
              have H5 := Lib.hid (H4.out.trans (hb5.mono H4.out.size))
              clear f0 f1 f2 f3 f4 hb5
              have f0 := HCV.out w5 H5.out 0 _ rfl
              have f1 := HCV.out w5 H5.out 1 _ rfl
              have f2 := HCV.out w5 H5.out 2 _ rfl
              have f3 := HCV.out w5 H5.out 3 _ rfl
              have f4 := HCV.out w5 H5.out 4 _ rfl
              go_wp2_with fail
              refine (HR4.out w5 H5.out).mono ?_
              rintro e w6 ⟨rfl, hb6⟩
              have H6 := Lib.hid (H5.out.trans (hb6.mono H5.out.size))
              clear f0 f1 f2 f3 f4 hb6
              have f0 := HCV.out w6 H6.out 0 _ rfl
              have f1 := HCV.out w6 H6.out 1 _ rfl
              have f2 := HCV.out w6 H6.out 2 _ rfl
              have f3 := HCV.out w6 H6.out 3 _ rfl
              have f4 := HCV.out w6 H6.out 4 _ rfl
              go_wp2_with fail
              refine (HR5.out w6 H6.out).mono ?_
              rintro e w7 ⟨rfl, hb7⟩
              have H7 := Lib.hid (H6.out.trans (hb7.mono H6.out.size))
              clear f0 f1 f2 f3 f4 hb7
              go_wp2_with fail
              go_ret
              exact ⟨rfl, HBV.out.trans (H7.out.mono HBV.out.size)⟩
          · have t1 : decide (n ≥ -2147483648) = false := decide_eq_false hA
            have t2 : decide (-2147483648 ≤ n) = false := decide_eq_false hA
            rw [decide_eq_false (show ¬ (-2147483648 ≤ n ∧ n ≤ 2147483647) from fun h => hA h.1)] at hp
            have hnum : Num32 SX false := hp
            clear hp hA
            have HRI := Lib.hid (right_any tb ⟨#[73, 110, 116]⟩ 2 SX none none 0 0 0 0 0 _ false V (by simp) (tellc_scalar (t := ⟨#[73, 110, 116]⟩) (T := ⟨#[73, 110, 116]⟩) (ok := false) HTV.out HRV.out (by decide) (by decide) (by kernel_rfl) (by kernel_rfl) (by kernel_rfl) (by simp [Tp.names]) (fun w hR => scalar_int SX false none none 0 0 0 0 0 w hnum hsx hR)) rfl)
            have HR2 := Lib.hid (fun (W : World) (hb : Below V.heap.size V W) => right_any tb ⟨#[70, 108, 111, 97, 116]⟩ 2 SX none none 0 0 0 0 0 _ true W (by simp) (tellc_scalar (t := ⟨#[70, 108, 111, 97, 116]⟩) (T := ⟨#[70, 108, 111, 97, 116]⟩) (ok := true) (HTV.out.keep hb) (HRV.out.below hb) (by decide) (by decide) (by kernel_rfl) (by kernel_rfl) (by kernel_rfl) (by simp [Tp.names]) (fun w hR => scalar_float SX none none 0 0 0 0 0 w)) rfl)
            have HR3 := Lib.hid (fun (W : World) (hb : Below V.heap.size V W) => right_any tb ⟨#[73, 68, 33]⟩ 2 SX none none 0 0 0 0 0 _ true W (by simp) (tellc_scalar (t := ⟨#[73, 68, 33]⟩) (T := ⟨#[73, 68]⟩) (ok := true) (HTV.out.keep hb) (HRV.out.below hb) (by decide) (by decide) (by kernel_rfl) (by kernel_rfl) (by kernel_rfl) (by simp [Tp.names]) (fun w hR => scalar_id SX none none 0 0 0 0 0 w)) rfl)
            have HR4 := Lib.hid (fun (W : World) (hb : Below V.heap.size V W) => right_any tb ⟨#[83, 116, 114, 105, 110, 103]⟩ 2 SX none none 0 0 0 0 0 _ false W (by simp) (tellc_scalar (t := ⟨#[83, 116, 114, 105, 110, 103]⟩) (T := ⟨#[83, 116, 114, 105, 110, 103]⟩) (ok := false) (HTV.out.keep hb) (HRV.out.below hb) (by decide) (by decide) (by kernel_rfl) (by kernel_rfl) (by kernel_rfl) (by simp [Tp.names]) (fun w hR => scalar_string SX none none 0 0 0 0 0 w)) rfl)
            have HR5 := Lib.hid (fun (W : World) (hb : Below V.heap.size V W) => right_any tb ⟨#[66, 111, 111, 108, 101, 97, 110]⟩ 2 SX none none 0 0 0 0 0 _ false W (by simp) (tellc_scalar (t := ⟨#[66, 111, 111, 108, 101, 97, 110]⟩) (T := ⟨#[66, 111, 111, 108, 101, 97, 110]⟩) (ok := false) (HTV.out.keep hb) (HRV.out.below hb) (by decide) (by decide) (by kernel_rfl) (by kernel_rfl) (by kernel_rfl) (by simp [Tp.names]) (fun w hR => scalar_bool SX none none 0 0 0 0 0 w)) rfl)
            clear hnum hsx
            go_wp2_with fail
            rw [HV2.out]
            refine HRI.out.mono ?_
            rintro e w3 ⟨rfl, hb3⟩
            have f0 := HCV.out w3 hb3 0 _ rfl
            have f1 := HCV.out w3 hb3 1 _ rfl
            have f2 := HCV.out w3 hb3 2 _ rfl
            have f3 := HCV.out w3 hb3 3 _ rfl
            have f4 := HCV.out w3 hb3 4 _ rfl
            have H3 := Lib.hid hb3
            clear hb3 HRI
            go_wp2_with fail
            refine (HR2.out w3 H3.out).mono ?_
            rintro e w4 ⟨rfl, hb4⟩
            have H4 := Lib.hid (H3.out.trans (hb4.mono H3.out.size))
            clear f0 f1 f2 f3 f4 hb4
            have f0 := HCV.out w4 H4.out 0 _ rfl
            have f1 := HCV.out w4 H4.out 1 _ rfl
            have f2 := HCV.out w4 H4.out 2 _ rfl
            have f3 := HCV.out w4 H4.out 3 _ rfl
            have f4 := HCV.out w4 H4.out 4 _ rfl
            go_wp2_with fail
            refine (HR3.out w4 H4.out).mono ?_
            rintro e w5 ⟨rfl, hb5⟩
            have H5 := Lib.hid (H4.out.trans (hb5.mono H4.out.size))
            clear f0 f1 f2 f3 f4 hb5
            have f0 := HCV.out w5 H5.out 0 _ rfl
            have f1 := HCV.out w5 H5.out 1 _ rfl
            have f2 := HCV.out w5 H5.out 2 _ rfl
            have f3 := HCV.out w5 H5.out 3 _ rfl
            have f4 := HCV.out w5 H5.out 4 _ rfl
            go_wp2_with fail
            refine (HR4.out w5 H5.out).mono ?_
            rintro e w6 ⟨rfl, hb6⟩
            have H6 := Lib.hid (H5.out.trans (hb6.mono H5.out.size))
            clear f0 f1 f2 f3 f4 hb6
            have f0 := HCV.out w6 H6.out 0 _ rfl
            have f1 := HCV.out w6 H6.out 1 _ rfl
            have f2 := HCV.out w6 H6.out 2 _ rfl
            have f3 := HCV.out w6 H6.out 3 _ rfl
            have f4 := HCV.out w6 H6.out 4 _ rfl
            go_wp2_with fail
            refine (HR5.out w6 H6.out).mono ?_
            rintro e w7 ⟨rfl, hb7⟩
            have H7 := Lib.hid (H6.out.trans (hb7.mono H6.out.size))
            clear f0 f1 f2 f3 f4 hb7
            go_wp2_with fail
            go_ret
            exact ⟨rfl, HBV.out.trans (H7.out.mono HBV.out.size)⟩
        · have hnn : n < 0 := of_decide_eq_true hneg2
          obtain ⟨SX, hSX⟩ : ∃ SX, SX = (⟨#[45]⟩ : ByteArray) ++ S := ⟨_, rfl⟩
          have HTXT : Hid (SX.data.toList = Ci.text n) := by
            rw [hSX, HSS.out]
            unfold Ci.text
            rw [if_pos hnn, ← HTX.out]
            refine Lib.hid ?_
            simp
          have hsx : SX.size ≤ 100000 := by
            rw [hSX, ByteArray.size_append]
            show 1 + S.size ≤ _
            omega
          have hsx2 := hSX.symm
          clear hnn hSX
          obtain ⟨V, hV⟩ : ∃ V, V = wr.alloc (.cells #[.int .i64 2, .string SX, .slice none 0 0, .slice none 0 0, .int .i64 0] 49) := ⟨_, rfl⟩
          have hbV : Below wr.heap.size wr V := by rw [hV]; exact (Below.refl _ _).alloc (Nat.le_refl _) _
          have HLV : Hid (wr.heap.size < V.heap.size) := Lib.hid (by rw [hV]; simp)
          have HCV : Hid (∀ (W : World), Below V.heap.size V W → ∀ (i : Nat) v, (#[.int .i64 2, .string SX, .slice none 0 0, .slice none 0 0, .int .i64 0] : Array Value)[i]? = some v → W.cell? ⟨wr.heap.size, i, none⟩ = some v) := Lib.hid (fun W hb i v hi => by
            rw [hb.cell (p := ⟨wr.heap.size, i, none⟩) HLV.out, hV]; exact cell_at_new wr _ _ (0, 0) i v hi)
          have hb2V : Below w2.heap.size w2 V := HBW.out.trans (hbV.mono HBW.out.size)
          have HTV := Lib.hid (HT2.out.keep hb2V)
          have HRV := Lib.hid (HR2.out.below hb2V)
          have HBV := Lib.hid (HB2.out.trans (hb2V.mono HB2.out.size))
          have HV2 := Lib.hid hV.symm
          clear hV hbV hb2V HR2
          have hp := Ci.parse_text n
          rw [← HTXT.out] at hp
          by_cases hA : -2147483648 ≤ n
          · by_cases hB : n ≤ 2147483647
            · have t1 : decide (n ≥ -2147483648) = true := decide_eq_true hA
              have t2 : decide (-2147483648 ≤ n) = true := decide_eq_true hA
              have t3 : decide (n ≤ 2147483647) = true := decide_eq_true hB
              rw [decide_eq_true (show -2147483648 ≤ n ∧ n ≤ 2147483647 from ⟨hA, hB⟩)] at hp
              have hnum : Num32 SX true := hp
              clear hp hA hB
              have HRI := Lib.hid (right_any tb ⟨#[73, 110, 116]⟩ 2 SX none none 0 0 0 0 0 _ true V (by simp) (tellc_scalar (t := ⟨#[73, 110, 116]⟩) (T := ⟨#[73, 110, 116]⟩) (ok := true) HTV.out HRV.out (by decide) (by decide) (by kernel_rfl) (by kernel_rfl) (by kernel_rfl) (by simp [Tp.names]) (fun w hR => scalar_int SX true none none 0 0 0 0 0 w hnum hsx hR)) rfl)
              have HR2 := Lib.hid (fun (W : World) (hb : Below V.heap.size V W) => right_any tb ⟨#[70, 108, 111, 97, 116]⟩ 2 SX none none 0 0 0 0 0 _ true W (by simp) (tellc_scalar (t := ⟨#[70, 108, 111, 97, 116]⟩) (T := ⟨#[70, 108, 111, 97, 116]⟩) (ok := true) (HTV.out.keep hb) (HRV.out.below hb) (by decide) (by decide) (by kernel_rfl) (by kernel_rfl) (by kernel_rfl) (by simp [Tp.names]) (fun w hR => scalar_float SX none none 0 0 0 0 0 w)) rfl)
              have HR3 := Lib.hid (fun (W : World) (hb : Below V.heap.size V W) => right_any tb ⟨#[73, 68, 33]⟩ 2 SX none none 0 0 0 0 0 _ true W (by simp) (tellc_scalar (t := ⟨#[73, 68, 33]⟩) (T := ⟨#[73, 68]⟩) (ok := true) (HTV.out.keep hb) (HRV.out.below hb) (by decide) (by decide) (by kernel_rfl) (by kernel_rfl) (by kernel_rfl) (by simp [Tp.names]) (fun w hR => scalar_id SX none none 0 0 0 0 0 w)) rfl)
              have HR4 := Lib.hid (fun (W : World) (hb : Below V.heap.size V W) => right_any tb ⟨#[83, 116, 114, 105, 110, 103]⟩ 2 SX none none 0 0 0 0 0 _ false W (by simp) (tellc_scalar (t := ⟨#[83, 116, 114, 105, 110, 103]⟩) (T := ⟨#[83, 116, 114, 105, 110, 103]⟩) (ok := false) (HTV.out.keep hb) (HRV.out.below hb) (by decide) (by decide) (by kernel_rfl) (by kernel_rfl) (by kernel_rfl) (by simp [Tp.names]) (fun w hR => scalar_string SX none none 0 0 0 0 0 w)) rfl)
              have HR5 := Lib.hid (fun (W : World) (hb : Below V.heap.size V W) => right_any tb ⟨#[66, 111, 111, 108, 101, 97, 110]⟩ 2 SX none none 0 0 0 0 0 _ false W (by simp) (tellc_scalar (t := ⟨#[66, 111, 111, 108, 101, 97, 110]⟩) (T := ⟨#[66, 111, 111, 108, 101, 97, 110]⟩) (ok := false) (HTV.out.keep hb) (HRV.out.below hb) (by decide) (by decide) (by kernel_rfl) (by kernel_rfl) (by kernel_rfl) (by simp [Tp.names]) (fun w hR => scalar_bool SX none none 0 0 0 0 0 w)) rfl)
              clear hnum hsx
              go_wp2_with fail
              rw [HV2.out]
              refine HRI.out.mono ?_
              rintro e w3 ⟨rfl, hb3⟩
              have f0 := HCV.out w3 hb3 0 _ rfl
              have f1 := HCV.out w3 hb3 1 _ rfl
              have f2 := HCV.out w3 hb3 2 _ rfl
              have f3 := HCV.out w3 hb3 3 _ rfl
              have f4 := HCV.out w3 hb3 4 _ rfl
              have H3 := Lib.hid hb3
              clear hb3 HRI
              go_wp2_with fail
              refine (HR2.out w3 H3.out).mono ?_
              rintro e w4 ⟨rfl, hb4⟩
              have H4 := Lib.hid (H3.out.trans (hb4.mono H3.out.size))
              clear f0 f1 f2 f3 f4 hb4
              have f0 := HCV.out w4 H4.out 0 _ rfl
              have f1 := HCV.out w4 H4.out 1 _ rfl
              have f2 := HCV.out w4 H4.out 2 _ rfl
              have f3 := HCV.out w4 H4.out 3 _ rfl
              have f4 := HCV.out w4 H4.out 4 _ rfl
              go_wp2_with fail
              refine (HR3.out w4 H4.out).mono ?_
              rintro e w5 ⟨rfl, hb5⟩
              have H5 := Lib.hid (H4.out.trans (hb5.mono H4.out.size))
              clear f0 f1 f2 f3 f4 hb5
              have f0 := HCV.out w5 H5.out 0 _ rfl
              have f1 := HCV.out w5 H5.out 1 _ rfl
              have f2 := HCV.out w5 H5.out 2 _ rfl
              have f3 := HCV.out w5 H5.out 3 _ rfl
              have f4 := HCV.out w5 H5.out 4 _ rfl
              go_wp2_with fail
              refine (HR4.out w5 H5.out).mono ?_
              rintro e w6 ⟨rfl, hb6⟩
              have H6 := Lib.hid (H5.out.trans (hb6.mono H5.out.size))
              clear f0 f1 f2 f3 f4 hb6
              have f0 := HCV.out w6 H6.out 0 _ rfl
              have f1 := HCV.out w6 H6.out 1 _ rfl
              have f2 := HCV.out w6 H6.out 2 _ rfl
              have f3 := HCV.out w6 H6.out 3 _ rfl
              have f4 := HCV.out w6 H6.out 4 _ rfl
              go_wp2_with fail
              refine (HR5.out w6 H6.out).mono ?_
              rintro e w7 ⟨rfl, hb7⟩
              have H7 := Lib.hid (H6.out.trans (hb7.mono H6.out.size))
              clear f0 f1 f2 f3 f4 hb7
              go_wp2_with fail
              go_ret
              exact ⟨rfl, HBV.out.trans (H7.out.mono HBV.out.size)⟩
            · have t1 : decide (n ≥ -2147483648) = true := decide_eq_true hA
              have t2 : decide (-2147483648 ≤ n) = true := decide_eq_true hA
              have t3 : decide (n ≤ 2147483647) = false := decide_eq_false hB
              rw [decide_eq_false (show ¬ (-2147483648 ≤ n ∧ n ≤ 2147483647) from fun h => hB h.2)] at hp
              have hnum : Num32 SX false := hp
              clear hp hA hB
              have HRI := Lib.hid (right_any tb ⟨#[73, 110, 116]⟩ 2 SX none none 0 0 0 0 0 _ false V (by simp) (tellc_scalar (t := ⟨#[73, 110, 116]⟩) (T := ⟨#[73, 110, 116]⟩) (ok := false) HTV.out HRV.out (by decide) (by decide) (by kernel_rfl) (by kernel_rfl) (by kernel_rfl) (by simp [Tp.names]) (fun w hR => scalar_int SX false none none 0 0 0 0 0 w hnum hsx hR)) rfl)
              have HR2 := Lib.hid (fun (W : World) (hb : Below V.heap.size V W) => right_any tb ⟨#[70, 108, 111, 97, 116]⟩ 2 SX none none 0 0 0 0 0 _ true W (by simp) (tellc_scalar (t := ⟨#[70, 108, 111, 97, 116]⟩) (T := ⟨#[70, 108, 111, 97, 116]⟩) (ok := true) (HTV.out.keep hb) (HRV.out.below hb) (by decide) (by decide) (by kernel_rfl) (by kernel_rfl) (by kernel_rfl) (by simp [Tp.names]) (fun w hR => scalar_float SX none none 0 0 0 0 0 w)) rfl)
              have HR3 := Lib.hid (fun (W : World) (hb : Below V.heap.size V W) => right_any tb ⟨#[73, 68, 33]⟩ 2 SX none none 0 0 0 0 0 _ true W (by simp) (tellc_scalar (t := ⟨#[73, 68, 33]⟩) (T := ⟨#[73, 68]⟩) (ok := true) (HTV.out.keep hb) (HRV.out.below hb) (by decide) (by decide) (by kernel_rfl) (by kernel_rfl) (by kernel_rfl) (by simp [Tp.names]) (fun w hR => scalar_id SX none none 0 0 0 0 0 w)) rfl)
              have HR4 := Lib.hid (fun (W : World) (hb : Below V.heap.size V W) => right_any tb ⟨#[83, 116, 114, 105, 110, 103]⟩ 2 SX none none 0 0 0 0 0 _ false W (by simp) (tellc_scalar (t := ⟨#[83, 116, 114, 105, 110, 103]⟩) (T := ⟨#[83, 116, 114, 105, 110, 103]⟩) (ok := false) (HTV.out.keep hb) (HRV.out.below hb) (by decide) (by decide) (by kernel_rfl) (by kernel_rfl) (by kernel_rfl) (by simp [Tp.names]) (fun w hR => scalar_string SX none none 0 0 0 0 0 w)) rfl)
              have HR5 := Lib.hid (fun (W : World) (hb : Below V.heap.size V W) => right_any tb ⟨#[66, 111, 111, 108, 101, 97, 110]⟩ 2 SX none none 0 0 0 0 0 _ false W (by simp) (tellc_scalar (t := ⟨#[66, 111, 111, 108, 101, 97, 110]⟩) (T := ⟨#[66, 111, 111, 108, 101, 97, 110]⟩) (ok := false) (HTV.out.keep hb) (HRV.out.below hb) (by decide) (by decide) (by kernel_rfl) (by kernel_rfl) (by kernel_rfl) (by simp [Tp.names]) (fun w hR => scalar_bool SX none none 0 0 0 0 0 w)) rfl)
              clear hnum hsx
              go_wp2_with fail
              rw [HV2.out]
              refine HRI.out.mono ?_
              rintro e w3 ⟨rfl, hb3⟩
              have f0 := HCV.out w3 hb3 0 _ rfl
              have f1 := HCV.out w3 hb3 1 _ rfl
              have f2 := HCV.out w3 hb3 2 _ rfl
              have f3 := HCV.out w3 hb3 3 _ rfl
              have f4 := HCV.out w3 hb3 4 _ rfl
              have H3 := Lib.hid hb3
              clear hb3 HRI
              go_wp2_with fail
              refine (HR2.out w3 H3.out).mono ?_
              rintro e w4 ⟨rfl, hb4⟩
              have H4 := Lib.hid (H3.out.trans (hb4.mono H3.out.size))
              clear f0 f1 f2 f3 f4 hb4
              have f0 := HCV.out w4 H4.out 0 _ rfl
              have f1 := HCV.out w4 H4.out 1 _ rfl
              have f2 := HCV.out w4 H4.out 2 _ rfl
              have f3 := HCV.out w4 H4.out 3 _ rfl
              have f4 := HCV.out w4 H4.out 4 _ rfl
              go_wp2_with fail
              refine (HR3.out w4 H4.out).mono ?_
              rintro e w5 ⟨rfl, hb5⟩
              have H5 := Lib.hid (H4.out.trans (hb5.mono H4.out.size))
              clear f0 f1 f2 f3 f4 hb5
              have f0 := HCV.out w5 H5.out 0 _ rfl
              have f1 := HCV.out w5 H5.out 1 _ rfl
              have f2 := HCV.out w5 H5.out 2 _ rfl
              have f3 := HCV.out w5 H5.out 3 _ rfl
              have f4 := HCV.out w5 H5.out 4 _ rfl
              go_wp2_with fail
              refine (HR4.out w5 H5.out).mono ?_
              rintro e w6 ⟨rfl, hb6⟩
              have H6 := Lib.hid (H5.out.trans (hb6.mono H5.out.size))
              clear f0 f1 f2 f3 f4 hb6
              have f0 := HCV.out w6 H6.out 0 _ rfl
              have f1 := HCV.out w6 H6.out 1 _ rfl
              have f2 := HCV.out w6 H6.out 2 _ rfl
              have f3 := HCV.out w6 H6.out 3 _ rfl
              have f4 := HCV.out w6 H6.out 4 _ rfl
              go_wp2_with fail
              refine (HR5.out w6 H6.out).mono ?_
              rintro e w7 ⟨rfl, hb7⟩
              have H7 := Lib.hid (H6.out.trans (hb7.mono H6.out.size))
              clear f0 f1 f2 f3 f4 hb7
              go_wp2_with fail
              go_ret
              exact ⟨rfl, HBV.out.trans (H7.out.mono HBV.out.size)⟩
          · have t1 : decide (n ≥ -2147483648) = false := decide_eq_false hA
            have t2 : decide (-2147483648 ≤ n) = false := decide_eq_false hA
            rw [decide_eq_false (show ¬ (-2147483648 ≤ n ∧ n ≤ 2147483647) from fun h => hA h.1)] at hp
            have hnum : Num32 SX false := hp
            clear hp hA
            have HRI := Lib.hid (right_any tb ⟨#[73, 110, 116]⟩ 2 SX none none 0 0 0 0 0 _ false V (by simp) (tellc_scalar (t := ⟨#[73, 110, 116]⟩) (T := ⟨#[73, 110, 116]⟩) (ok := false) HTV.out HRV.out (by decide) (by decide) (by kernel_rfl) (by kernel_rfl) (by kernel_rfl) (by simp [Tp.names]) (fun w hR => scalar_int SX false none none 0 0 0 0 0 w hnum hsx hR)) rfl)
            have HR2 := Lib.hid (fun (W : World) (hb : Below V.heap.size V W) => right_any tb ⟨#[70, 108, 111, 97, 116]⟩ 2 SX none none 0 0 0 0 0 _ true W (by simp) (tellc_scalar (t := ⟨#[70, 108, 111, 97, 116]⟩) (T := ⟨#[70, 108, 111, 97, 116]⟩) (ok := true) (HTV.out.keep hb) (HRV.out.below hb) (by decide) (by decide) (by kernel_rfl) (by kernel_rfl) (by kernel_rfl) (by simp [Tp.names]) (fun w hR => scalar_float SX none none 0 0 0 0 0 w)) rfl)
            have HR3 := Lib.hid (fun (W : World) (hb : Below V.heap.size V W) => right_any tb ⟨#[73, 68, 33]⟩ 2 SX none none 0 0 0 0 0 _ true W (by simp) (tellc_scalar (t := ⟨#[73, 68, 33]⟩) (T := ⟨#[73, 68]⟩) (ok := true) (HTV.out.keep hb) (HRV.out.below hb) (by decide) (by decide) (by kernel_rfl) (by kernel_rfl) (by kernel_rfl) (by simp [Tp.names]) (fun w hR => scalar_id SX none none 0 0 0 0 0 w)) rfl)
            have HR4 := Lib.hid (fun (W : World) (hb : Below V.heap.size V W) => right_any tb ⟨#[83, 116, 114, 105, 110, 103]⟩ 2 SX none none 0 0 0 0 0 _ false W (by simp) (tellc_scalar (t := ⟨#[83, 116, 114, 105, 110, 103]⟩) (T := ⟨#[83, 116, 114, 105, 110, 103]⟩) (ok := false) (HTV.out.keep hb) (HRV.out.below hb) (by decide) (by decide) (by kernel_rfl) (by kernel_rfl) (by kernel_rfl) (by simp [Tp.names]) (fun w hR => scalar_string SX none none 0 0 0 0 0 w)) rfl)
            have HR5 := Lib.hid (fun (W : World) (hb : Below V.heap.size V W) => right_any tb ⟨#[66, 111, 111, 108, 101, 97, 110]⟩ 2 SX none none 0 0 0 0 0 _ false W (by simp) (tellc_scalar (t := ⟨#[66, 111, 111, 108, 101, 97, 110]⟩) (T := ⟨#[66, 111, 111, 108, 101, 97, 110]⟩) (ok := false) (HTV.out.keep hb) (HRV.out.below hb) (by decide) (by decide) (by kernel_rfl) (by kernel_rfl) (by kernel_rfl) (by simp [Tp.names]) (fun w hR => scalar_bool SX none none 0 0 0 0 0 w)) rfl)
            clear hnum hsx
            go_wp2_with fail
            rw [HV2.out]
            refine HRI.out.mono ?_
            rintro e w3 ⟨rfl, hb3⟩
            have f0 := HCV.out w3 hb3 0 _ rfl
            have f1 := HCV.out w3 hb3 1 _ rfl
            have f2 := HCV.out w3 hb3 2 _ rfl
            have f3 := HCV.out w3 hb3 3 _ rfl
            have f4 := HCV.out w3 hb3 4 _ rfl
            have H3 := Lib.hid hb3
            clear hb3 HRI
            go_wp2_with fail
            refine (HR2.out w3 H3.out).mono ?_
            rintro e w4 ⟨rfl, hb4⟩
            have H4 := Lib.hid (H3.out.trans (hb4.mono H3.out.size))
            clear f0 f1 f2 f3 f4 hb4
            have f0 := HCV.out w4 H4.out 0 _ rfl
            have f1 := HCV.out w4 H4.out 1 _ rfl
            have f2 := HCV.out w4 H4.out 2 _ rfl
            have f3 := HCV.out w4 H4.out 3 _ rfl
            have f4 := HCV.out w4 H4.out 4 _ rfl
            go_wp2_with fail
            refine (HR3.out w4 H4.out).mono ?_
            rintro e w5 ⟨rfl, hb5⟩
            have H5 := Lib.hid (H4.out.trans (hb5.mono H4.out.size))
            clear f0 f1 f2 f3 f4 hb5
            have f0 := HCV.out w5 H5.out 0 _ rfl
            have f1 := HCV.out w5 H5.out 1 _ rfl
            have f2 := HCV.out w5 H5.out 2 _ rfl
            have f3 := HCV.out w5 H5.out 3 _ rfl
            have f4 := HCV.out w5 H5.out 4 _ rfl
            go_wp2_with fail
            refine (HR4.out w5 H5.out).mono ?_
            rintro e w6 ⟨rfl, hb6⟩
            have H6 := Lib.hid (H5.out.trans (hb6.mono H5.out.size))
            clear f0 f1 f2 f3 f4 hb6
            have f0 := HCV.out w6 H6.out 0 _ rfl
            have f1 := HCV.out w6 H6.out 1 _ rfl
            have f2 := HCV.out w6 H6.out 2 _ rfl
            have f3 := HCV.out w6 H6.out 3 _ rfl
            have f4 := HCV.out w6 H6.out 4 _ rfl
            go_wp2_with fail
            refine (HR5.out w6 H6.out).mono ?_
            rintro e w7 ⟨rfl, hb7⟩
            have H7 := Lib.hid (H6.out.trans (hb7.mono H6.out.size))
            clear f0 f1 f2 f3 f4 hb7
            go_wp2_with fail
            go_ret
            exact ⟨rfl, HBV.out.trans (H7.out.mono HBV.out.size)⟩
    · have e1 : (kk != 0) = true := by
        rw [HKK.out]
        unfold Ci.sg
        cases neg <;> simp [hK0]
      have HGD : Hid (K ≠ 0 ∨ s = []) := Lib.hid (.inl hK0)
      have HK0 := Lib.hid hK0
      clear hSl hK0
      by_cases hs : neg = true ∧ 0 < D
      · obtain ⟨hn1, hdp⟩ := hs
        have hrr : kk.tmod 10 = -(D : Int) := by rw [hr0, hn1]; rfl
        have hdp1 : (0 : Int) < (D : Int) := by omega
        clear hr0 hn1
        have hm : (48 + (D : Int)) % 256 = 48 + (D : Int) := by omega
        have hcv := conv_one wr D hD
        obtain ⟨xx, hxx⟩ : ∃ x, x = UInt8.ofNat (48 + D) := ⟨_, rfl⟩
        rw [← hxx] at hcv
        have HXX := Lib.hid hxx
        clear hxx hD
        go_wp2_with fail
        go_roundg (K / 10 + 0)
        case measure => rw [HM.out]; have := HK0.out; cases s.isEmpty <;> simp <;> omega
        case rel =>
          refine ⟨K / 10, xx :: s, _, kk2, rfl, rfl, HK2.out, rfl, ?_, ?_, by have := HKL.out; omega, HBW.out.alloc HBW.out.size _⟩
          · rw [HSS.out]
            apply ByteArray.ext
            simp
          · rw [HXX.out, HDD.out]
            exact HCI.out.step HGD.out
      · have hrr : kk.tmod 10 = (D : Int) := by
          rw [hr0]
          unfold Ci.sg
          cases neg
          · rfl
          · have : D = 0 := by simpa using hs
            rw [this]; rfl
        clear hr0 hs
        have hm : (48 + (D : Int)) % 256 = 48 + (D : Int) := by omega
        have hcv := conv_one wr D hD
        obtain ⟨xx, hxx⟩ : ∃ x, x = UInt8.ofNat (48 + D) := ⟨_, rfl⟩
        rw [← hxx] at hcv
        have HXX := Lib.hid hxx
        clear hxx hD
        go_wp2_with fail
        go_roundg (K / 10 + 0)
        case measure => rw [HM.out]; have := HK0.out; cases s.isEmpty <;> simp <;> omega
        case rel =>
          refine ⟨K / 10, xx :: s, _, kk2, rfl, rfl, HK2.out, rfl, ?_, ?_, by have := HKL.out; omega, HBW.out.alloc HBW.out.size _⟩
          · rw [HSS.out]
            apply ByteArray.ext
            simp
          · rw [HXX.out, HDD.out]
            exact HCI.out.step HGD.out
end Go.Proofs.YtmgoebfcfgilfaaGreatDoor
namespace Go.Proofs.YtmgoebfcfgilfaaGreatDoor
set_option linter.unusedSimpArgs false
set_option linter.unusedVariables false
open Go Go.RowKit
open Go.ChangeShapes Go.WideShapes Go.ChangeAt
open Go.ChangeMaps (open_string shut_string)

theorem own : ownKnob Tryz.prog.godebug = none := by kernel_rfl
/-- The list that each row bears. -/
abbrev laidList : List (String × DataW Unit) := [("math/bits.deBruijn32tab", Rows.laid_math_bits_deBruijn32tab), ("math/bits.deBruijn64tab", Rows.laid_math_bits_deBruijn64tab), ("internal/strconv.uint64pow10", Rows.laid_internal_strconv_uint64pow10), ("unicode/utf8.acceptRanges", Rows.laid_unicode_utf8_acceptRanges), ("strconv.ErrRange", Rows.laid_strconv_ErrRange), ("strconv.ErrSyntax", Rows.laid_strconv_ErrSyntax), ("unicode/utf8.first", Rows.laid_unicode_utf8_first)]
theorem starES : "*" ++ "errors.errorString" = "*errors.errorString" := by decide
theorem rowES (u : TypeId) (h : Tryz.prog.typeName? 3 u = some "*errors.errorString") : u = 324 :=
  typeName_ptr_named (nm := "errors.errorString") (by rw [starES]; kernel_rfl) (by kernel_rfl) (by decide) u (by rw [starES]; exact h)
theorem cellsES : Tryz.prog.cellsOf 326 = 1 := by kernel_rfl
theorem cellsStr : Tryz.prog.cellsOf 9 = 1 := by kernel_rfl
set_option maxRecDepth 100000 in
theorem env_of {W : World} (hL : laidMet Tryz.prog laidList W) (hS : W.ShapedOpen Tryz.prog) : Env W ∧ 3 ≤ W.heap.size ∧ RangeVar W := by
  have hm : ∃ m, W.cell? ⟨2, 0, none⟩ = some (.int .i64 m) := cell_of_shapedOpen_int (zero := #[.int .i64 0]) (t := 3) hS (of_decide_eq_true (by kernel_rfl)) (by kernel_rfl) rfl (by kernel_rfl) (by kernel_rfl) Tryz.underlying3
  have ht : Lib.Utf8Tabs 0 1 W :=
    utf8Tabs_of_readsT (U8Types.of260 Tryz.lays260) ⟨by kernel_rfl, by kernel_rfl, by kernel_rfl, by kernel_rfl, by kernel_rfl, by kernel_rfl, by kernel_rfl⟩ (Lib.laidMet.reads hL (.tail _ (.tail _ (.tail _ (.tail _ (.tail _ (.tail _ (.head _)))))))) (Lib.laidMet.reads hL (.tail _ (.tail _ (.tail _ (.head _)))))
  obtain ⟨a0, s0, hv0, -, -, -⟩ := laid_sentinel hL.tail.tail.tail.tail (g := 4) (by kernel_rfl) (by kernel_rfl) Tryz.underlying188 rowES Tryz.underlying324 Tryz.underlying326 rfl rfl Tryz.underlying9 cellsES cellsStr
  refine ⟨⟨ht, hm⟩, ?_, ?_⟩
  · obtain ⟨m, h⟩ := hm
    have := cell_lt h
    exact this
  · have h0 := World.var?_cell (P := Tryz.prog) (n := "strconv.ErrRange") (g := 4) (by kernel_rfl) hv0 0
    exact ⟨_, _, by simpa using h0⟩
abbrev synS : ByteArray := { data := #[105, 110, 118, 97, 108, 105, 100, 32, 115, 121, 110, 116, 97, 120] }
abbrev rngS : ByteArray := { data := #[118, 97, 108, 117, 101, 32, 111, 117, 116, 32, 111, 102, 32, 114, 97, 110, 103, 101] }
/-- So many blocks has the settled world. -/
noncomputable def low : Nat := (World.holding Tryz.prog default ⟨#[], #[], []⟩).heap.size
def tab32 : List Int := [0, 1, 28, 2, 29, 14, 24, 3, 30, 22, 20, 15, 25, 17, 4, 8, 31, 27, 13, 23, 21, 19, 16, 7, 26, 12, 18, 6, 11, 5, 10, 9]
def tab64 : List Int := [0, 1, 56, 2, 57, 49, 28, 3, 61, 58, 42, 50, 38, 29, 17, 4, 62, 47, 59, 36, 45, 43, 51, 22, 53, 39, 33, 30, 24, 18, 12, 5, 63, 55, 48, 27, 60, 41, 37, 16, 46, 35, 44, 21, 52, 32, 23, 11, 54, 26, 40, 15, 34, 20, 31, 10, 25, 14, 19, 9, 13, 8, 7, 6]
/-- The settled world, the variables holding what their initialisers lay. -/
noncomputable def laidWorld (os : Os) : World :=
  let w0 := World.holding Tryz.prog os ⟨#[.cells #[.string synS] 326, .cells #[.string rngS] 326], #[], []⟩
  let put (h : Array Obj) (g : Nat) (cs : Array Value) : Array Obj := h.modify g fun
    | .cells _ t frozen => .cells cs t frozen
    | o => o
  let h1 := put w0.heap 3 #[.iface 324 (.pointer (some ⟨low, 0, none⟩))]
  let h2 := put h1 4 #[.iface 324 (.pointer (some ⟨low + 1, 0, none⟩))]
  let h3 := put h2 5 (Lib.pow10Tab.map fun z => Value.int .u64 z).toArray
  let h4 := put h3 6 (tab32.map fun z => Value.int .u8 z).toArray
  let h5 := put h4 7 (tab64.map fun z => Value.int .u8 z).toArray
  let h6 := put h5 0 (Lib.firstTab.map fun z => Value.int .u8 z).toArray
  let h7 := put h6 1 ((List.range 16).flatMap fun i => [Value.int .u8 (Lib.accLo i), Value.int .u8 (Lib.accHi i)]).toArray
  { w0 with heap := h7 }
theorem laid_met (os : Os) (args : Array Value) : laidMet Tryz.prog laidList ((laidWorld os).forCall (fun _ _ => 0) ⟨#[], args, []⟩).memory :=
  (LaidIn.of_run (l := laidList) [3, 4, 5, 6, 7, 0, 1, low, low + 1] 8 (by kernel_rfl) (by kernel_rfl) (by kernel_rfl) (by kernel_rfl)).met
/-! Problems that came in. -/
end Go.Proofs.YtmgoebfcfgilfaaGreatDoor
