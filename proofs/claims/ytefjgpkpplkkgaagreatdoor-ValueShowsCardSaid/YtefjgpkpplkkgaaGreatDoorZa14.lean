/-
  The lexer's 'Quote', walked. The document's lexer: digits, three quotes, gaps. The document's lexer: numbers.
-/
import Derived.Test.YtefjgpkpplkkgaaGreatDoorZa13
import Derived.Test.YtefjgpkpplkkgaaGreatDoorZa10
import Derived.Test.YtefjgpkpplkkgaaGreatDoorZa9
import Derived.Test.YtefjgpkpplkkgaaGreatDoorZa11
import Derived.Test.YtefjgpkpplkkgaaGreatDoorZa5
import Derived.Test.YtefjgpkpplkkgaaGreatDoorZa12
namespace Go.Proofs.YtefjgpkpplkkgaaGreatDoor
set_option linter.unusedSimpArgs false
set_option linter.unusedVariables false
open Go Go.RowKit

/-- A builder's world alone. -/
structure QW (w0 : World) (bo : Nat) (out : List UInt8) (w : World) : Prop where
  bld : IsB bo out w
  bel : Below bo w0 w
  hi : bo = w0.heap.size
theorem QW.le {w0 w : World} {bo : Nat} {out : List UInt8} (h : QW w0 bo out w) : bo ≤ w.heap.size := by
  have := h.bel.size
  have := h.hi
  omega
theorem QW.start (w : World) : QW w w.heap.size [] (w.alloc (.cells #[.pointer none, .slice none 0 0] 65)) := by
  refine ⟨.inl ⟨Nat.le_refl _, .slice none 0 0, ?_, ⟨rfl, .inl ⟨rfl, rfl⟩⟩, by simp [Value.ownBlock]⟩, (Below.refl _ _).alloc (Nat.le_refl _) _, rfl⟩
  show (w.heap.push _)[w.heap.size]? = _
  simp
theorem QW.byte {w0 w : World} {bo : Nat} {out : List UInt8} (h : QW w0 bo out w) (hl : out.length ≤ 10000000000) (c : UInt8) :
    Calls Tryz.prog 162 #[.pointer (some ⟨bo, 0, none⟩), .int .u8 c.toNat] w fun e w' => e = .returned .nilIface ∧ QW w0 bo (out ++ [c]) w' := by
  refine (WriteByte_k bo bo _ c.toNat w h.bld (by rw [Lib.byteCells_length]; omega) h.le).mono ?_
  rintro e w' ⟨rfl, h1, h2, _⟩
  refine ⟨rfl, .inr ?_, h.bel.trans h2, h.hi⟩
  rw [Lib.byteCells_append]
  exact h1
theorem QW.str {w0 w : World} {bo : Nat} {out : List UInt8} (h : QW w0 bo out w) (hl : out.length ≤ 10000000000) (l : List UInt8) (hl2 : l.length ≤ 5000) :
    Calls Tryz.prog 88 #[.pointer (some ⟨bo, 0, none⟩), .string ⟨l.toArray⟩] w fun e w' => (∃ n : Int, e = .returned (.tuple #[.int .i64 n, .nilIface])) ∧ QW w0 bo (out ++ l) w' := by
  refine (WriteString_k bo bo _ ⟨l.toArray⟩ w h.bld (by rw [Lib.byteCells_length]; show _ + l.length ≤ _; omega) h.le).mono ?_
  rintro e w' ⟨rfl, h1, h2, _⟩
  refine ⟨⟨_, rfl⟩, .inr ?_, h.bel.trans h2, h.hi⟩
  rw [Lib.byteCells_append]
  exact h1
theorem QW.string {w0 w : World} {bo : Nat} {out : List UInt8} (h : QW w0 bo out w) :
    Calls Tryz.prog 33 #[.pointer (some ⟨bo, 0, none⟩)] w fun e w' => e = .returned (.string ⟨out.toArray⟩) ∧ QW w0 bo out w' := by
  refine (Tryz.Builder_String_any_k bo bo out w h.bld h.le).mono ?_
  rintro e w' ⟨rfl, h1, h2, _⟩
  exact ⟨rfl, h1, h.bel.trans h2, h.hi⟩

theorem qsIdx (c : UInt8) (w : World) :
    Calls Tryz.prog 163 #[.string ⟨#[34, 92, 8, 9, 10, 12, 13]⟩, .int .u8 c.toNat] w fun e w' => e = .returned (.int .i64 (Lib.indexByte Lx.spl c)) ∧ w' = w := by
  refine (Tryz.strings_IndexByte _ _ _).mono ?_
  rintro e w' ⟨rfl, rfl⟩
  refine ⟨?_, rfl⟩
  have h1 : ((c.toNat : Int)).toNat.toUInt8 = c := by simp
  rw [h1]
  rfl
def qsIdxOk (c : UInt8) : Bool :=
  if (Lx.qs c).toNat = 0 then decide (Lib.indexByte Lx.spl c < 0) else decide (0 ≤ Lib.indexByte Lx.spl c ∧ Lib.indexByte Lx.spl c < 7 ∧ Lx.asl.getD (Lib.indexByte Lx.spl c).toNat 0 = Lx.qs c)
set_option maxRecDepth 100000 in
theorem qsIdx_fin : ∀ n : Fin 256, qsIdxOk (UInt8.ofNat n.val) = true := by decide +kernel
theorem qsIdx_any (c : UInt8) : ((Lx.qs c).toNat = 0 ∧ Lib.indexByte Lx.spl c < 0) ∨ ((Lx.qs c).toNat ≠ 0 ∧ ∃ k : Nat, k < 7 ∧ Lib.indexByte Lx.spl c = k ∧ bt ⟨#[34, 92, 98, 116, 110, 102, 114]⟩ k = Lx.qs c) := by
  have h : qsIdxOk c = true := by
    have := qsIdx_fin ⟨c.toNat, UInt8.toNat_lt c⟩
    simpa using this
  unfold qsIdxOk at h
  by_cases h0 : (Lx.qs c).toNat = 0
  · rw [if_pos h0] at h
    exact .inl ⟨h0, of_decide_eq_true h⟩
  · rw [if_neg h0] at h
    obtain ⟨h1, h2, h3⟩ := of_decide_eq_true h
    exact .inr ⟨h0, (Lib.indexByte Lx.spl c).toNat, by omega, by omega, h3⟩

set_option maxHeartbeats 1000000 in
set_option maxRecDepth 100000 in
theorem lexQuote_any (s : ByteArray) (w : World) (hs : s.size ≤ 1000000000) (hE : Env w) :
    Calls Tryz.prog 90 #[.string s] w fun e w' => Below w.heap.size w w' ∧ ((Lx.valid s.data.toList = true ∧ e = .returned (.tuple #[.string ⟨(Lx.quote s.data.toList).toArray⟩, .int .i64 0])) ∨ (Lx.valid s.data.toList = false ∧ e = .returned (.tuple #[.string ⟨#[]⟩, .int .i64 2]))) := by
  have hi0 : (0 : Int) ≤ (s.size : Int) := Int.natCast_nonneg _
  cases hv : Lx.valid s.data.toList
  · have HV := Lib.hid hv
    clear hv
    go_enter Tryz.func90, Tryz.ntmps90
    go_wp2_with (go_at_call 161; refine (valid_any _ _ (by omega) hE).mono ?_; rintro e w1 ⟨rfl, hb1⟩; rw [validD_eq, HV.out])
    refine bodyPost_ret (v := .tuple #[.string ⟨#[]⟩, .int .i64 2]) (by simp [results, Tryz.results90, go_sem]) rfl ?_
    exact ⟨hb1, by simp⟩
  · have HV := Lib.hid hv
    clear hv
    go_enter Tryz.func90, Tryz.ntmps90
    go_wp2_with (first | (go_at_call 161; refine (valid_any _ _ (by omega) hE).mono ?_; rintro e w1 ⟨rfl, hb1⟩; rw [validD_eq, HV.out]) | fail)
    have hQ0 := QW.start w1
    refine (hQ0.byte (by simp) 34).mono ?_
    rintro e w2 ⟨rfl, hQ⟩
    clear hQ0
    have HQ := Lib.hid hQ
    clear hQ
    go_wp2_with fail
    go_loopg [14] s.size (fun k s14 wr => ∃ a, a ≤ s.size ∧ k = s.size - a ∧ s14 = .int .i64 (a : Nat) ∧ QW w1 w1.heap.size (34 :: (s.data.toList.take a).flatMap Lx.qb) wr)
    case atStart => exact ⟨0, Nat.zero_le _, by omega, rfl, HQ.out⟩
    case round =>
      obtain ⟨a, ha, hk, rfl, hQ⟩ := hrel
      have HK := Lib.hid hk
      have hol : (34 :: (s.data.toList.take a).flatMap Lx.qb).length ≤ 6000000001 := by
        rw [List.length_cons]
        have := qb_flat_le (s.data.toList.take a)
        rw [List.length_take] at this
        omega
      clear hk HQ
      have ha0 : (0 : Int) ≤ (a : Int) := Int.natCast_nonneg _
      by_cases hlt : a < s.size
      · have hlt1 : (a : Int) < s.size := by omega
        have HT := Lib.hid (take_flat s a hlt Lx.qb)
        generalize hO : 34 :: (s.data.toList.take a).flatMap Lx.qb = O at hQ hol
        have HO := Lib.hid hO
        clear hO
        have HI := Lib.hid (qsIdx (bt s a))
        have HN : Hid (∀ O', O' = O ++ Lx.qb (bt s a) → O' = 34 :: (s.data.toList.take (a + 1)).flatMap Lx.qb) := Lib.hid (fun O' h => by rw [h, ← HO.out, HT.out]; rfl)
        rcases qsIdx_any (bt s a) with ⟨h0, hneg⟩ | ⟨h0, kk, hk7, hkk, hbt⟩
        · generalize hkk : Lib.indexByte Lx.spl (bt s a) = kk at hneg
          have HKK := Lib.hid hkk
          clear hkk
          by_cases hc : (bt s a).toNat < 32 ∨ (bt s a).toNat = 127
          · have HQB : Hid (Lx.qb (bt s a) = [92, 117, 48, 48] ++ [Lx.hexd ((bt s a).toNat / 16)] ++ [Lx.hexd ((bt s a).toNat % 16)]) := by unfold Lx.qb; rw [if_neg (by simp [h0]), if_pos hc]; exact Lib.hid rfl
            have HY1 := Lib.hid (hexd_bt ((bt s a).toNat / 16) (by have := bt_lt s a; omega))
            have HY2 := Lib.hid (hexd_bt ((bt s a).toNat % 16) (by omega))
            have hcb := bt_lt s a
            clear h0
            rcases hc with hc | hc
            · have c1 : ((bt s a).toNat : Int) < 32 := by omega
              go_wp2_with fail
              refine (HI.out _).mono ?_
              rintro e w' ⟨rfl, hw'⟩
              obtain rfl := hw'.symm
              rw [HKK.out]
              go_wp2_with fail
              refine (hQ.str (by omega) [92, 117, 48, 48] (by simp)).mono ?_
              rintro e w3 ⟨⟨n3, rfl⟩, hQ3⟩
              go_wp2_with fail
              refine (hQ3.byte (by rw [List.length_append]; simp; omega) (bt ⟨#[48, 49, 50, 51, 52, 53, 54, 55, 56, 57, 97, 98, 99, 100, 101, 102]⟩ ((bt s a).toNat / 16))).mono ?_
              rintro e w4 ⟨rfl, hQ4⟩
              rw [HY1.out] at hQ4
              go_wp2_with fail
              refine (hQ4.byte (by rw [List.length_append, List.length_append]; simp; omega) (bt ⟨#[48, 49, 50, 51, 52, 53, 54, 55, 56, 57, 97, 98, 99, 100, 101, 102]⟩ ((bt s a).toNat % 16))).mono ?_
              rintro e w5 ⟨rfl, hQ5⟩
              rw [HY2.out] at hQ5
              go_wp2
              go_roundg (s.size - (a + 1))
              case measure => rw [HK.out]; omega
              case rel => exact ⟨a + 1, hlt, rfl, by simp, by rw [← HN.out _ (by rw [HQB.out])]; rw [List.append_assoc, List.append_assoc] at hQ5; exact hQ5⟩
            · have c1 : (32 : Int) ≤ ((bt s a).toNat : Int) := by omega
              have c2 := eqT (n := (bt s a).toNat) (k := 127) (by omega)
              clear hc
              go_wp2_with fail
              refine (HI.out _).mono ?_
              rintro e w' ⟨rfl, hw'⟩
              obtain rfl := hw'.symm
              rw [HKK.out]
              go_wp2_with fail
              refine (hQ.str (by omega) [92, 117, 48, 48] (by simp)).mono ?_
              rintro e w3 ⟨⟨n3, rfl⟩, hQ3⟩
              go_wp2_with fail
              refine (hQ3.byte (by rw [List.length_append]; simp; omega) (bt ⟨#[48, 49, 50, 51, 52, 53, 54, 55, 56, 57, 97, 98, 99, 100, 101, 102]⟩ ((bt s a).toNat / 16))).mono ?_
              rintro e w4 ⟨rfl, hQ4⟩
              rw [HY1.out] at hQ4
              go_wp2_with fail
              refine (hQ4.byte (by rw [List.length_append, List.length_append]; simp; omega) (bt ⟨#[48, 49, 50, 51, 52, 53, 54, 55, 56, 57, 97, 98, 99, 100, 101, 102]⟩ ((bt s a).toNat % 16))).mono ?_
              rintro e w5 ⟨rfl, hQ5⟩
              rw [HY2.out] at hQ5
              go_wp2
              go_roundg (s.size - (a + 1))
              case measure => rw [HK.out]; omega
              case rel => exact ⟨a + 1, hlt, rfl, by simp, by rw [← HN.out _ (by rw [HQB.out])]; rw [List.append_assoc, List.append_assoc] at hQ5; exact hQ5⟩
          · have HQB : Hid (Lx.qb (bt s a) = [bt s a]) := by unfold Lx.qb; rw [if_neg (by simp [h0]), if_neg hc]; exact Lib.hid rfl
            have c1 : (32 : Int) ≤ ((bt s a).toNat : Int) := by omega
            have c2 := eqF (n := (bt s a).toNat) (k := 127) (by omega)
            clear h0
            go_wp2_with fail
            refine (HI.out _).mono ?_
            rintro e w' ⟨rfl, hw'⟩
            obtain rfl := hw'.symm
            rw [HKK.out]
            go_wp2_with fail
            refine (hQ.byte (by omega) (bt s a)).mono ?_
            rintro e w3 ⟨rfl, hQ3⟩
            go_wp2
            go_roundg (s.size - (a + 1))
            case measure => rw [HK.out]; omega
            case rel => exact ⟨a + 1, hlt, rfl, by simp, by rw [← HN.out _ (by rw [HQB.out])]; exact hQ3⟩
        · have HKK := Lib.hid hkk
          clear hkk
          have HQB : Hid (Lx.qb (bt s a) = [92] ++ [Lx.qs (bt s a)]) := by unfold Lx.qb; rw [if_pos h0]; exact Lib.hid rfl
          have HBT := Lib.hid hbt
          clear hbt h0
          go_wp2_with fail
          refine (HI.out _).mono ?_
          rintro e w' ⟨rfl, hw'⟩
          obtain rfl := hw'.symm
          rw [HKK.out]
          go_wp2_with fail
          refine (hQ.byte (by omega) 92).mono ?_
          rintro e w3 ⟨rfl, hQ3⟩
          go_wp2_with fail
          refine (hQ3.byte (by rw [List.length_append]; simp; omega) (bt ⟨#[34, 92, 98, 116, 110, 102, 114]⟩ kk)).mono ?_
          rintro e w4 ⟨rfl, hQ4⟩
          go_wp2
          go_roundg (s.size - (a + 1))
          case measure => rw [HK.out]; omega
          case rel => exact ⟨a + 1, hlt, rfl, by simp, by rw [← HN.out _ (by rw [HQB.out])]; rw [HBT.out, List.append_assoc] at hQ4; exact hQ4⟩
      · have hlt1 : (s.size : Int) ≤ a := by omega
        have hfin : 34 :: (s.data.toList.take a).flatMap Lx.qb ++ [34] = Lx.quote s.data.toList := by rw [List.take_of_length_le (by show s.size ≤ a; omega)]; rfl
        have HF := Lib.hid hfin
        clear hfin
        go_wp2_with fail
        refine (hQ.byte (by omega) 34).mono ?_
        rintro e w3 ⟨rfl, hQ3⟩
        rw [HF.out] at hQ3
        go_wp2_with fail
        refine (hQ3.string).mono ?_
        rintro e w4 ⟨rfl, hQ4⟩
        go_wp2
        refine bodyPost_ret (v := .tuple #[.string ⟨(Lx.quote s.data.toList).toArray⟩, .int .i64 0]) (by simp [results, Tryz.results90, go_sem]) rfl ?_
        exact ⟨hb1.trans (hQ4.bel.mono (by have := hb1.size; omega)), .inl ⟨trivial, rfl⟩⟩
end Go.Proofs.YtefjgpkpplkkgaaGreatDoor
namespace Go.Proofs.YtefjgpkpplkkgaaGreatDoor
set_option linter.unusedSimpArgs false
set_option linter.unusedVariables false
open Go Go.RowKit

theorem digits_yes (s : ByteArray) (b : Nat) (h : b < s.size) (hd : Lx.isDigit (bt s b) = true) : Lx.digits (sfx s b) = Lx.digits (sfx s (b + 1)) := by
  unfold Lx.digits
  rw [sfx_cons s b h, List.dropWhile_cons, if_pos hd]
theorem digits_no (s : ByteArray) (b : Nat) (h : b < s.size) (hd : Lx.isDigit (bt s b) = false) : Lx.digits (sfx s b) = sfx s b := by
  unfold Lx.digits
  rw [sfx_cons s b h, List.dropWhile_cons, if_neg (by rw [hd]; simp)]
theorem digits_end (s : ByteArray) (b : Nat) (h : s.size ≤ b) : Lx.digits (sfx s b) = [] := by
  rw [sfx_end s b h]; rfl
set_option maxHeartbeats 400000 in
theorem refDigits_any (s : ByteArray) (a : Nat) (w : World) (hs : s.size ≤ 4096) (ha : a ≤ s.size) :
    Calls Tryz.prog 170 #[.string s, .int .i64 a] w fun e w' => e = .returned (.int .i64 ((s.size - (Lx.digits (sfx s a)).length : Nat) : Int)) ∧ w' = w := by
  obtain ⟨dg, hdg⟩ : ∃ q, q = Lx.digits (sfx s a) := ⟨_, rfl⟩
  have HDG := Lib.hid hdg
  rw [← hdg]
  clear hdg
  go_enter Tryz.func170, Tryz.ntmps170
  have hi0 : (0 : Int) ≤ (s.size : Int) := Int.natCast_nonneg _
  go_wp2
  go_loopg [1] (s.size + 1 - a) (fun k i wr => ∃ b : Nat, k = s.size + 1 - b ∧ b ≤ s.size ∧ i = .int .i64 (b : Nat) ∧ Lx.digits (sfx s b) = dg ∧ wr = w)
  case atStart => exact ⟨a, rfl, ha, rfl, HDG.out.symm, rfl⟩
  case round =>
    obtain ⟨b, hk, hb, rfl, hv, rfl⟩ := hrel
    have HK := Lib.hid hk
    have HV := Lib.hid hv
    clear hk hv HDG
    have hb0 : (0 : Int) ≤ (b : Int) := Int.natCast_nonneg _
    by_cases hlt : b < s.size
    · have hlt1 : (b : Int) < s.size := by omega
      cases hd : Lx.isDigit (bt s b)
      · have HD := Lib.hid hd
        have HR := Lib.hid (congrArg List.length (HV.out.symm.trans (digits_no s b hlt hd)))
        clear hd
        go_wp2_with (first | (go_at_call 93; refine (refDigit_any _ _).mono ?_; rintro e w' ⟨rfl, hw'⟩; obtain rfl := hw'.symm; rw [HD.out]) | fail)
        go_ret
        refine ⟨?_, rfl⟩
        rw [HR.out, sfx_len]
        show Ending.returned (Value.int .i64 (b : Int)) = _
        congr 2
        omega
      · have HD := Lib.hid hd
        have HR := Lib.hid ((digits_yes s b hlt hd).symm.trans HV.out)
        clear hd
        go_wp2_with (first | (go_at_call 93; refine (refDigit_any _ _).mono ?_; rintro e w' ⟨rfl, hw'⟩; obtain rfl := hw'.symm; rw [HD.out]) | fail)
        go_roundg (s.size + 1 - (b + 1))
        case measure => rw [HK.out]; omega
        case rel => exact ⟨b + 1, rfl, hlt, by go_num, HR.out, rfl⟩
    · have hlt1 : (s.size : Int) ≤ b := by omega
      have HR := Lib.hid (congrArg List.length (HV.out.symm.trans (digits_end s b (by omega))))
      go_wp2_with fail
      go_ret
      refine ⟨?_, rfl⟩
      rw [HR.out]
      show Ending.returned (Value.int .i64 (b : Int)) = _
      congr 2
      simp
      omega
theorem q3_extract (s : ByteArray) (a : Nat) : ((s.extract a (a + 3)).toList == [34, 34, 34]) = Lx.quotes3 (sfx s a) := by
  rw [Lib.toList_data, extract_between, show a + 3 - a = 3 by omega]
  unfold Lx.quotes3
  rw [Bool.eq_iff_iff]
  simp
theorem q3_short (s : ByteArray) (a : Nat) (h : ¬ a + 3 ≤ s.size) : Lx.quotes3 (sfx s a) = false := by
  unfold Lx.quotes3
  rw [decide_eq_false_iff_not]
  intro e
  have := congrArg List.length e
  rw [List.length_take, sfx_len] at this
  simp at this
  omega
set_option maxHeartbeats 400000 in
theorem refThree_any (s : ByteArray) (a : Nat) (w : World) (hs : s.size ≤ 4096) (ha : a ≤ s.size) (x : Int) (hx : x = a) :
    Calls Tryz.prog 108 #[.string s, .int .i64 x] w fun e w' => e = .returned (.bool (Lx.quotes3 (sfx s a))) ∧ w' = w := by
  subst hx
  have hi0 : (0 : Int) ≤ (s.size : Int) := Int.natCast_nonneg _
  have hi1 : (0 : Int) ≤ (a : Int) := Int.natCast_nonneg _
  by_cases h3 : a + 3 ≤ s.size
  · have h4 : (a : Int) + 3 ≤ s.size := by omega
    have e1 : decide ((a : Int) + 3 ≤ (s.size : Int)) = true := decide_eq_true h4
    go_enter Tryz.func108, Tryz.ntmps108
    go_wp2
    all_goals go_ret
    all_goals exact ⟨by rw [← q3_extract]; rfl, rfl⟩
  · have e1 : decide ((a : Int) + 3 ≤ (s.size : Int)) = false := decide_eq_false (by omega)
    go_enter Tryz.func108, Tryz.ntmps108
    go_wp2
    all_goals go_ret
    all_goals exact ⟨by rw [q3_short s a h3]; rfl, rfl⟩
theorem gap_place (f : Bool) (s : ByteArray) (a : Nat) (ha : a ≤ s.size) : ∃ e, Lx.gap f (sfx s a) = (sfx s e, (Lx.gap f (sfx s a)).2) ∧ a ≤ e ∧ e ≤ s.size := by
  obtain ⟨p, hp⟩ := Lx.gap_suf _ f (sfx s a) (Nat.le_refl _)
  have hl := congrArg List.length hp
  rw [sfx_len, List.length_append] at hl
  refine ⟨a + p.length, ?_, by omega, by omega⟩
  have : (sfx s a).drop p.length = (Lx.gap f (sfx s a)).1 := by
    conv => lhs; rw [hp]
    exact List.drop_left
  rw [sfx_drop] at this
  rw [this]
theorem bom_extract (s : ByteArray) : ((s.extract 0 3).toList == [239, 187, 191]) = Lx.bom (sfx s 0) := by
  rw [Lib.toList_data, extract_between]
  unfold Lx.bom
  rw [Bool.eq_iff_iff]
  simp
theorem bom_few (s : ByteArray) (h : ¬ 3 ≤ s.size) : Lx.bom (sfx s 0) = false := by
  unfold Lx.bom
  rw [decide_eq_false_iff_not]
  intro e
  have := congrArg List.length e
  rw [List.length_take, sfx_len] at this
  simp at this
  omega
theorem sfx_inj {s : ByteArray} {a b : Nat} (ha : a ≤ s.size) (hb : b ≤ s.size) (h : sfx s a = sfx s b) : a = b := by
  have := congrArg List.length h
  rw [sfx_len, sfx_len] at this
  omega
set_option maxHeartbeats 4000000 in
set_option maxRecDepth 100000 in
theorem refGap_any (s : ByteArray) (a : Nat) (w : World) (hs : s.size ≤ 4096) (ha : a ≤ s.size) (e : Nat) (ok : Bool) (hk : Lx.gap (decide (a = 0)) (sfx s a) = (sfx s e, ok)) (he : e ≤ s.size) :
    Calls Tryz.prog 41 #[.string s, .int .i64 a] w fun r w' => r = .returned (.tuple #[.int .i64 e, .bool ok]) ∧ w' = w := by
  have HK0 := Lib.hid hk
  clear hk
  have hi0 : (0 : Int) ≤ (s.size : Int) := Int.natCast_nonneg _
  go_enter Tryz.func41, Tryz.ntmps41
  go_wp2
  go_loopg [1] (s.size + 1 - a) (fun k i wr => ∃ b : Nat, k = s.size + 1 - b ∧ b ≤ s.size ∧ i = .int .i64 (b : Nat) ∧ Lx.gap (decide (b = 0)) (sfx s b) = (sfx s e, ok) ∧ wr = w)
  case atStart => exact ⟨a, rfl, ha, rfl, HK0.out, rfl⟩
  case round =>
    obtain ⟨b, hk, hb, rfl, hg, rfl⟩ := hrel
    have HK := Lib.hid hk
    have hb0 : (0 : Int) ≤ (b : Int) := Int.natCast_nonneg _
    clear hk HK0
    by_cases hlt : b < s.size
    · have hlt1 : (b : Int) < s.size := by omega
      have hcons := sfx_cons s b hlt
      rw [hcons, Lx.gap] at hg
      obtain ⟨c, hc⟩ : ∃ c, bt s b = c := ⟨_, rfl⟩
      rw [hc] at hg
      by_cases hbl : Lx.isBlank c = true
      · rw [if_pos hbl] at hg
        have HG : Hid (Lx.gap (decide (b + 1 = 0)) (sfx s (b + 1)) = (sfx s e, ok)) := Lib.hid (by rw [decide_eq_false (by omega)]; exact hg)
        have h5 : c = 32 ∨ c = 9 ∨ c = 10 ∨ c = 13 ∨ c = 44 := by
          unfold Lx.isBlank at hbl
          simp only [Bool.or_eq_true, decide_eq_true_eq] at hbl
          rcases hbl with (((h | h) | h) | h) | h
          · exact .inl (UInt8.toNat_inj.1 h)
          · exact .inr (.inl (UInt8.toNat_inj.1 h))
          · exact .inr (.inr (.inl (UInt8.toNat_inj.1 h)))
          · exact .inr (.inr (.inr (.inl (UInt8.toNat_inj.1 h))))
          · exact .inr (.inr (.inr (.inr (UInt8.toNat_inj.1 h))))
        clear hg hcons hbl
        rcases h5 with rfl | rfl | rfl | rfl | rfl
        all_goals
          go_wp2
          go_roundg (s.size + 1 - (b + 1))
          case measure => rw [HK.out]; omega
          case rel => exact ⟨b + 1, rfl, hlt, by go_num, HG.out, rfl⟩
      rw [if_neg hbl] at hg
      unfold Lx.isBlank at hbl
      simp only [Bool.or_eq_true, decide_eq_true_eq, not_or] at hbl
      obtain ⟨⟨⟨⟨b1, b2⟩, b3⟩, b4⟩, b5⟩ := hbl
      have q1 := eqF (n := c.toNat) (k := 32) (by omega)
      have q2 := eqF (n := c.toNat) (k := 9) (by omega)
      have q3 := eqF (n := c.toNat) (k := 10) (by omega)
      have q4 := eqF (n := c.toNat) (k := 13) (by omega)
      have q5 := eqF (n := c.toNat) (k := 44) (by omega)
      clear b1 b2 b3 b4 b5
      by_cases hbm : b = 0 ∧ Lx.bom (sfx s 0) = true
      · obtain ⟨rfl, hbm⟩ := hbm
        have h3 : 3 ≤ s.size := by
          rcases Nat.lt_or_ge s.size 3 with h | h
          · rw [bom_few s (by omega)] at hbm; cases hbm
          · exact h
        have hx := bom_extract s
        rw [hbm] at hx
        rw [if_pos ⟨by simp, by rw [← hc, ← hcons]; exact hbm⟩] at hg
        have HG : Hid (Lx.gap (decide (3 = 0)) (sfx s 3) = (sfx s e, ok)) := Lib.hid (by
          have : (c :: sfx s (0 + 1)).drop 3 = sfx s 3 := by rw [← hc, ← hcons, sfx_drop]
          rw [this] at hg
          rw [decide_eq_false (by omega)]
          exact hg)
        have h31 : decide ((3 : Int) ≤ (s.size : Int)) = true := decide_eq_true (by omega)
        clear hg hcons hbm
        go_wp2
        go_roundg (s.size + 1 - 3)
        case measure => rw [HK.out]; omega
        case rel => exact ⟨3, rfl, h3, rfl, HG.out, rfl⟩
      rw [if_neg (by rw [← hc, ← hcons]; intro h; have h0 : b = 0 := (by simpa using h.1); subst h0; exact hbm ⟨rfl, h.2⟩)] at hg
      have hnb : ((b : Int) == 0) = false ∨ (((b : Int) == 0) = true ∧ (decide ((3 : Int) ≤ (s.size : Int)) = false ∨ ((decide ((3 : Int) ≤ (s.size : Int)) = true ∧ (3 : Int) ≤ s.size) ∧ ((s.extract 0 3).toList == [239, 187, 191]) = false))) := by
        by_cases h0 : b = 0
        · subst h0
          refine .inr ⟨rfl, ?_⟩
          by_cases h3 : 3 ≤ s.size
          · refine .inr ⟨⟨decide_eq_true (by omega), by omega⟩, ?_⟩
            rw [bom_extract]
            cases hq : Lx.bom (sfx s 0)
            · rfl
            · exact absurd ⟨rfl, hq⟩ hbm
          · exact .inl (decide_eq_false (by omega))
        · exact .inl (by rw [beq_eq_false_iff_ne]; omega)
      clear hbm hcons
      by_cases h35 : c.toNat = 35
      · rw [if_pos h35] at hg
        have q6 := eqT (n := c.toNat) (k := 35) (by omega)
        obtain ⟨R, hR⟩ : ∃ R, R = Lx.remark (sfx s (b + 1)) := ⟨_, rfl⟩
        rw [← hR] at hg
        have HRB : Hid (Lx.remark (sfx s b) = R) := Lib.hid (by
          rw [sfx_cons s b hlt, hc, Lx.remark, if_neg (by omega), rune_low c _ (by omega)]
          rw [if_neg (by simp only []; omega)]
          rw [hR]
          rfl)
        have HG := Lib.hid hg
        clear hg hR h35
        rcases hnb with n1 | ⟨n1, n2 | ⟨⟨n2, n4⟩, n3⟩⟩
        all_goals
          go_wp2
          go_loopg [1] (s.size + 1 - b) (fun k i wz => ∃ x : Nat, k = s.size + 1 - x ∧ x ≤ s.size ∧ b ≤ x ∧ i = .int .i64 (x : Nat) ∧ Lx.remark (sfx s x) = R ∧ wz = wr)
          case atStart => exact ⟨b, rfl, hb, Nat.le_refl _, rfl, HRB.out, rfl⟩
          case round =>
            obtain ⟨x, hk, hx, hbx, rfl, hr, rfl⟩ := hrel
            have HK2 := Lib.hid hk
            have hx0 : (0 : Int) ≤ (x : Int) := Int.natCast_nonneg _
            clear hk
            by_cases hxl : x < s.size
            · have hxl1 : (x : Int) < s.size := by omega
              obtain ⟨c2, hc2⟩ : ∃ c, bt s x = c := ⟨_, rfl⟩
              by_cases hnl : c2 = 10 ∨ c2 = 13
              · have hbx2 : b < x := by
                  rcases Nat.lt_or_ge b x with h | h
                  · exact h
                  · have : b = x := by omega
                    subst this
                    rw [hc] at hc2
                    subst hc2
                    rcases hnl with rfl | rfl <;> simp at q6
                have HG2 : Hid (Lx.gap (decide (x = 0)) (sfx s x) = (sfx s e, ok)) := Lib.hid (by
                  have h := HG.out
                  rw [sfx_cons s x hxl, Lx.remark, if_pos (by rw [hc2]; rcases hnl with rfl | rfl; exact .inl rfl; exact .inr rfl)] at hr
                  rw [← hr, if_pos rfl] at h
                  rw [decide_eq_false (by omega), sfx_cons s x hxl]
                  exact h)
                clear hr
                rcases hnl with rfl | rfl
                all_goals
                  go_wp2
                  go_roundg (s.size + 1 - x)
                  case measure => rw [HK.out]; omega
                  case rel => exact ⟨x, rfl, hx, rfl, HG2.out, rfl⟩
              · have e10 : ((c2.toNat : Int) != 10) = true := neT (fun h => hnl (.inl (UInt8.toNat_inj.1 (by show c2.toNat = 10; omega))))
                have e13 : ((c2.toNat : Int) != 13) = true := neT (fun h => hnl (.inr (UInt8.toNat_inj.1 (by show c2.toNat = 13; omega))))
                have hnl2 : ¬ (c2.toNat = 10 ∨ c2.toNat = 13) := fun h => hnl (by rcases h with h | h; exact .inl (UInt8.toNat_inj.1 h); exact .inr (UInt8.toNat_inj.1 h))
                rw [sfx_cons s x hxl, Lx.remark, if_neg (by rw [hc2]; exact hnl2), ← sfx_cons s x hxl] at hr
                obtain ⟨r1, n1', hrn⟩ : ∃ r n, Lx.rune (sfx s x) = (r, n) := ⟨_, _, rfl⟩
                have hnle := Lx.rune_len (sfx s x)
                have hrmax := Lx.rune_max (sfx s x)
                rw [sfx_len, hrn] at hnle
                rw [hrn] at hrmax hr
                have HRN := Lib.hid hrn
                clear hnl hnl2 hrn
                by_cases hbad : n1' = 0 ∨ (r1 < 32 ∧ r1 ≠ 9)
                · rw [if_pos hbad] at hr
                  have hxe : x = e ∧ ok = false := by
                    have h := HG.out
                    rw [← hr, if_neg (by simp)] at h
                    exact ⟨sfx_inj hx he (Prod.mk.inj h).1, (Prod.mk.inj h).2.symm⟩
                  obtain ⟨rfl, rfl⟩ := hxe
                  have hbt : ((n1' : Int) == 0) = true ∨ (((n1' : Int) == 0) = false ∧ decide ((r1 : Int) < 32) = true ∧ ((r1 : Int) != 9) = true) := by
                    by_cases h0 : n1' = 0
                    · exact .inl (eqT (by omega))
                    · rcases hbad with h | h
                      · exact absurd h h0
                      · exact .inr ⟨eqF (by omega), decide_eq_true (by omega), neT (by omega)⟩
                  clear hr hbad
                  rcases hbt with t1 | ⟨t1, t2, t3⟩
                  all_goals
                    go_wp2_with (first | (go_at_call 94; refine (refRune_any s x _ hs (by omega)).mono ?_; rintro r w2 ⟨hr2, hw2⟩; rw [HRN.out] at hr2; subst hr2; obtain rfl := hw2.symm) | fail)
                    go_ret2
                    exact ⟨rfl, rfl⟩
                · rw [if_neg hbad, sfx_drop] at hr
                  have HR2 := Lib.hid hr
                  have t1 : ((n1' : Int) == 0) = false := eqF (by omega)
                  have hbt : decide ((r1 : Int) < 32) = false ∨ (decide ((r1 : Int) < 32) = true ∧ ((r1 : Int) != 9) = false) := by
                    by_cases h0 : r1 < 32
                    · exact .inr ⟨decide_eq_true (by omega), neF (by omega)⟩
                    · exact .inl (decide_eq_false (by omega))
                  clear hr
                  rcases hbt with t2 | ⟨t2, t3⟩
                  all_goals
                    go_wp2_with (first | (go_at_call 94; refine (refRune_any s x _ hs (by omega)).mono ?_; rintro r w2 ⟨hr2, hw2⟩; rw [HRN.out] at hr2; subst hr2; obtain rfl := hw2.symm) | fail)
                    go_roundg (s.size + 1 - (x + n1'))
                    case measure => rw [HK2.out]; omega
                    case rel => exact ⟨x + n1', rfl, by omega, by omega, by go_num, HR2.out, rfl⟩
            · have hxl1 : (s.size : Int) ≤ x := by omega
              have HG2 : Hid (Lx.gap (decide (x = 0)) (sfx s x) = (sfx s e, ok)) := Lib.hid (by
                have h := HG.out
                rw [sfx_end s x (by omega), Lx.remark] at hr
                rw [← hr, if_pos rfl] at h
                rw [decide_eq_false (by omega), sfx_end s x (by omega)]
                exact h)
              clear hr
              go_wp2
              go_roundg (s.size + 1 - x)
              case measure => rw [HK.out]; omega
              case rel => exact ⟨x, rfl, hx, rfl, HG2.out, rfl⟩
      · rw [if_neg h35] at hg
        have q6 := eqF (n := c.toNat) (k := 35) (by omega)
        have hbe : b = e ∧ ok = true := by
          have h1 := (Prod.mk.inj hg).1
          have h2 := (Prod.mk.inj hg).2
          rw [← hc, ← sfx_cons s b hlt] at h1
          exact ⟨sfx_inj hb he h1, h2.symm⟩
        obtain ⟨rfl, rfl⟩ := hbe
        clear hg h35
        rcases hnb with n1 | ⟨n1, n2 | ⟨⟨n2, n4⟩, n3⟩⟩
        all_goals
          go_wp2
          go_ret2
          exact ⟨rfl, rfl⟩
    · have hlt1 : (s.size : Int) ≤ b := by omega
      rw [sfx_end s b (by omega), gap_nil] at hg
      have hbe : b = e ∧ ok = true := by
        have h1 := (Prod.mk.inj hg).1
        have h2 := (Prod.mk.inj hg).2
        refine ⟨?_, h2.symm⟩
        have := congrArg List.length h1
        rw [sfx_len] at this
        simp at this
        omega
      obtain ⟨rfl, rfl⟩ := hbe
      clear hg
      go_wp2
      go_ret2
      exact ⟨rfl, rfl⟩
end Go.Proofs.YtefjgpkpplkkgaaGreatDoor
namespace Go.Proofs.YtefjgpkpplkkgaaGreatDoor
set_option linter.unusedSimpArgs false
set_option linter.unusedVariables false
open Go Go.RowKit

/-- The place behind digits. -/
def dgA (s : ByteArray) (a : Nat) : Nat := s.size - (Lx.digits (sfx s a)).length
theorem dgA_spec (s : ByteArray) (a : Nat) (ha : a ≤ s.size) : Lx.digits (sfx s a) = sfx s (dgA s a) ∧ a ≤ dgA s a ∧ dgA s a ≤ s.size ∧ Lx.isDigit (bt s (dgA s a)) = false := by
  obtain ⟨pre, e, -⟩ := Lx.dw_split Lx.isDigit (sfx s a)
  have e : sfx s a = pre ++ Lx.digits (sfx s a) := e
  have hl := congrArg List.length e
  rw [sfx_len, List.length_append] at hl
  have hd : Lx.digits (sfx s a) = sfx s (dgA s a) := by
    have h1 : (sfx s a).drop pre.length = Lx.digits (sfx s a) := by
      conv => lhs; rw [e]
      exact List.drop_left
    rw [← h1, sfx_drop]
    congr 1
    unfold dgA
    omega
  refine ⟨hd, by unfold dgA; omega, by unfold dgA; omega, ?_⟩
  have := Lx.dw_hd Lx.isDigit (by decide) (sfx s a)
  have h2 : Lx.isDigit (Lx.hd (Lx.digits (sfx s a))) = false := this
  rw [hd] at h2
  by_cases h : dgA s a < s.size
  · rw [sfx_cons s _ h] at h2
    exact h2
  · rw [bt_end s _ (by omega)]; decide
theorem end_pos (s : ByteArray) (k e : Nat) (hd : Lx.isDigit (bt s e) = false) : Lx.numEnd (k, sfx s e) = if (bt s e).toNat = 46 ∨ Lx.isLetter (bt s e) = true then none else some (k, sfx s e) := by
  unfold Lx.numEnd
  dsimp only
  rw [hd_sfx, hd]
  simp
theorem dg_len (s : ByteArray) (a : Nat) (ha : a ≤ s.size) : ((Lx.digits (sfx s a)).length = (sfx s a).length) = (dgA s a = a) := by
  obtain ⟨h1, h2, h3, -⟩ := dgA_spec s a ha
  rw [h1, sfx_len, sfx_len]
  exact propext ⟨fun h => by omega, fun h => by omega⟩
theorem lt_of_bt {s : ByteArray} {a n : Nat} (h : (bt s a).toNat = n) (hn : n ≠ 0) : a < s.size := by
  rcases Nat.lt_or_ge a s.size with h1 | h1
  · exact h1
  · rw [bt_end s a h1] at h; exact absurd h.symm hn
set_option maxRecDepth 100000 in
theorem or_e : ∀ n : Fin 256, ((n.val ||| 32) = 101) = (n.val = 101 ∨ n.val = 69) := by decide +kernel
theorem or_e' (c : UInt8) : ((c ||| 32).toNat = 101) = (c.toNat = 101 ∨ c.toNat = 69) := by
  rw [UInt8.toNat_or]
  exact or_e ⟨c.toNat, UInt8.toNat_lt c⟩
theorem exp_pos (s : ByteArray) (k e : Nat) (he : e ≤ s.size) : Lx.numExp (k, sfx s e) = if (bt s e).toNat = 101 ∨ (bt s e).toNat = 69 then
      (if dgA s (if (bt s (e + 1)).toNat = 43 ∨ (bt s (e + 1)).toNat = 45 then e + 2 else e + 1) = (if (bt s (e + 1)).toNat = 43 ∨ (bt s (e + 1)).toNat = 45 then e + 2 else e + 1) then none
        else Lx.numEnd (3, sfx s (dgA s (if (bt s (e + 1)).toNat = 43 ∨ (bt s (e + 1)).toNat = 45 then e + 2 else e + 1)))) else Lx.numEnd (k, sfx s e) := by
  unfold Lx.numExp
  dsimp only
  rw [hd_sfx]
  simp only [or_e']
  by_cases h : (bt s e).toNat = 101 ∨ (bt s e).toNat = 69
  · have hlt : e < s.size := by rcases h with h | h <;> exact lt_of_bt h (by decide)
    rw [if_pos h, if_pos h, sfx_drop, hd_sfx]
    by_cases h2 : (bt s (e + 1)).toNat = 43 ∨ (bt s (e + 1)).toNat = 45
    · have hlt2 : e + 1 < s.size := by rcases h2 with h | h <;> exact lt_of_bt h (by decide)
      rw [if_pos h2, if_pos h2, sfx_drop]
      simp only [dg_len s (e + 1 + 1) (by omega)]
      rw [(dgA_spec s (e + 1 + 1) (by omega)).1]
    · rw [if_neg h2, if_neg h2]
      simp only [dg_len s (e + 1) (by omega)]
      rw [(dgA_spec s (e + 1) (by omega)).1]
  · rw [if_neg h, if_neg h]
theorem frac_pos (s : ByteArray) (e : Nat) (he : e ≤ s.size) : Lx.numFrac (sfx s e) = if (bt s e).toNat = 46 then (if dgA s (e + 1) = e + 1 then none else Lx.numExp (3, sfx s (dgA s (e + 1)))) else Lx.numExp (2, sfx s e) := by
  unfold Lx.numFrac
  rw [hd_sfx]
  by_cases h : (bt s e).toNat = 46
  · have hlt : e < s.size := lt_of_bt h (by decide)
    rw [if_pos h, if_pos h, sfx_drop]
    simp only [dg_len s (e + 1) (by omega)]
    rw [(dgA_spec s (e + 1) (by omega)).1]
  · rw [if_neg h, if_neg h]
theorem num_pos (s : ByteArray) (a : Nat) (ha : a ≤ s.size) : Lx.number (sfx s a) = if dgA s (if (bt s a).toNat = 45 then a + 1 else a) = (if (bt s a).toNat = 45 then a + 1 else a) ∨ ((bt s (if (bt s a).toNat = 45 then a + 1 else a)).toNat = 48 ∧ (if (bt s a).toNat = 45 then a + 1 else a) + 1 < dgA s (if (bt s a).toNat = 45 then a + 1 else a)) then none
    else Lx.numFrac (sfx s (dgA s (if (bt s a).toNat = 45 then a + 1 else a))) := by
  have key : ∀ b, b ≤ s.size → (if (Lx.digits (sfx s b)).length = (sfx s b).length ∨ ((Lx.hd (sfx s b)).toNat = 48 ∧ 1 < (sfx s b).length - (Lx.digits (sfx s b)).length) then none else Lx.numFrac (Lx.digits (sfx s b))) =
      if dgA s b = b ∨ ((bt s b).toNat = 48 ∧ b + 1 < dgA s b) then none else Lx.numFrac (sfx s (dgA s b)) := by
    intro b hb
    obtain ⟨h1, h2, h3, -⟩ := dgA_spec s b hb
    simp only [dg_len s b hb]
    rw [hd_sfx, h1, sfx_len, sfx_len]
    have e : (1 < s.size - b - (s.size - dgA s b)) = (b + 1 < dgA s b) := propext ⟨fun h => by omega, fun h => by omega⟩
    simp only [e]
  unfold Lx.number
  dsimp only
  rw [hd_sfx]
  by_cases h : (bt s a).toNat = 45
  · have hlt : a < s.size := lt_of_bt h (by decide)
    rw [if_pos h, if_pos h, sfx_drop]
    exact key (a + 1) (by omega)
  · rw [if_neg h, if_neg h]
    exact key a ha
/-- What 'number' answers. -/
def numEnd8 (s : ByteArray) : Option (Nat × List UInt8) → Nat × Nat
  | none => (0, 0)
  | some (k, r) => (k, s.size - r.length)
theorem oneAt_of {s : ByteArray} {a n : Nat} (h : (bt s a).toNat = n) (hn : n ≠ 0) : oneAt s a = n := by
  unfold oneAt
  rw [if_pos (lt_of_bt h hn), h]
theorem oneAt_ne {s : ByteArray} {a n : Nat} (h : ¬ (bt s a).toNat = n) (q : Int) (hq : oneAt s a = q) : (q == (n : Int)) = false := by
  rw [beq_eq_false_iff_ne]
  intro e
  unfold oneAt at hq
  split at hq
  · omega
  · omega
theorem refDigits_int (s : ByteArray) (n : Nat) (x : Int) (w : World) (hx : x = n) (hs : s.size ≤ 4096) (hn : n ≤ s.size) (e : Nat) (he : dgA s n = e) :
    Calls Tryz.prog 170 #[.string s, .int .i64 x] w fun r w' => r = .returned (.int .i64 (e : Nat)) ∧ w' = w := by
  subst hx he
  exact refDigits_any s n w hs hn
theorem numE_some (s : ByteArray) (k e : Nat) (he : e ≤ s.size) : numEnd8 s (some (k, sfx s e)) = (k, e) := by
  show (k, s.size - (sfx s e).length) = _
  rw [sfx_len]
  congr 1
  omega
theorem exp_ways (s : ByteArray) (kk f k e : Nat) (hfs : f ≤ s.size) (hk : numEnd8 s (Lx.numExp (kk, sfx s f)) = (k, e)) : ∃ o2, Hid (oneAt s f = o2) ∧ (((o2 == 101) = false ∧ (o2 == 69) = false ∧ numEnd8 s (Lx.numEnd (kk, sfx s f)) = (k, e)) ∨
    (((o2 == 101) = true ∨ ((o2 == 101) = false ∧ (o2 == 69) = true)) ∧ f + 1 ≤ s.size ∧ ∃ pp, Hid (oneAt s (f + 1) = pp) ∧ ∃ g, g ≤ s.size ∧ (((pp == 43) = true ∧ g = f + 2) ∨ ((pp == 43) = false ∧ (pp == 45) = true ∧ g = f + 2) ∨ ((pp == 43) = false ∧ (pp == 45) = false ∧ g = f + 1)) ∧
      ∃ h, Hid (dgA s g = h) ∧ g ≤ h ∧ h ≤ s.size ∧ Lx.isDigit (bt s h) = false ∧ ((h = g ∧ (k, e) = (0, 0)) ∨ (h ≠ g ∧ numEnd8 s (Lx.numEnd (3, sfx s h)) = (k, e))))) := by
  rw [exp_pos s kk f hfs] at hk
  refine ⟨_, Lib.hid rfl, ?_⟩
  by_cases x1 : (bt s f).toNat = 101 ∨ (bt s f).toNat = 69
  · have hlx : f < s.size := by rcases x1 with h | h <;> exact lt_of_bt h (by decide)
    rw [if_pos x1] at hk
    refine .inr ⟨?_, hlx, _, Lib.hid rfl, ?_⟩
    · rcases x1 with h | h
      · left; rw [oneAt_of h (by decide)]; rfl
      · right; rw [oneAt_of h (by decide)]; exact ⟨rfl, rfl⟩
    · have key : ∀ g, g ≤ s.size → (numEnd8 s (if dgA s g = g then none else Lx.numEnd (3, sfx s (dgA s g))) = (k, e)) → ∃ h, Hid (dgA s g = h) ∧ g ≤ h ∧ h ≤ s.size ∧ Lx.isDigit (bt s h) = false ∧ ((h = g ∧ (k, e) = (0, 0)) ∨ (h ≠ g ∧ numEnd8 s (Lx.numEnd (3, sfx s h)) = (k, e))) := by
        intro g hg hq
        obtain ⟨-, q1, q2, q3⟩ := dgA_spec s g hg
        refine ⟨_, Lib.hid rfl, q1, q2, q3, ?_⟩
        by_cases u1 : dgA s g = g
        · rw [if_pos u1] at hq
          exact .inl ⟨u1, hq.symm⟩
        · rw [if_neg u1] at hq
          exact .inr ⟨u1, hq⟩
      by_cases y1 : (bt s (f + 1)).toNat = 43 ∨ (bt s (f + 1)).toNat = 45
      · have hly : f + 1 < s.size := by rcases y1 with h | h <;> exact lt_of_bt h (by decide)
        simp only [if_pos y1] at hk
        refine ⟨f + 2, by omega, ?_, key _ (by omega) hk⟩
        rcases y1 with h | h
        · left; rw [oneAt_of h (by decide)]; exact ⟨rfl, rfl⟩
        · right; left; rw [oneAt_of h (by decide)]; exact ⟨rfl, rfl, rfl⟩
      · simp only [if_neg y1] at hk
        exact ⟨f + 1, by omega, .inr (.inr ⟨oneAt_ne (n := 43) (fun h => y1 (.inl h)) _ rfl, oneAt_ne (n := 45) (fun h => y1 (.inr h)) _ rfl, rfl⟩), key _ (by omega) hk⟩
  · rw [if_neg x1] at hk
    exact .inl ⟨oneAt_ne (n := 101) (fun h => x1 (.inl h)) _ rfl, oneAt_ne (n := 69) (fun h => x1 (.inr h)) _ rfl, hk⟩
set_option maxHeartbeats 16000000 in
set_option maxRecDepth 100000 in
theorem refNumber_any (s : ByteArray) (a : Nat) (w : World) (hs : s.size ≤ 4096) (ha : a ≤ s.size) (k e : Nat) (hk : numEnd8 s (Lx.number (sfx s a)) = (k, e)) :
    Calls Tryz.prog 107 #[.string s, .int .i64 a] w fun r w' => r = .returned (.tuple #[.int .i64 k, .int .i64 e]) ∧ w' = w := by
  have hs1 : s.size ≤ 9223372036854775807 := by omega
  have hz : (0 : Int) ≤ (s.size : Int) := Int.natCast_nonneg _
  have hz1 : (0 : Int) ≤ (a : Int) := Int.natCast_nonneg _
  rw [num_pos s a ha] at hk
  obtain ⟨o0, ho0⟩ : ∃ q, oneAt s a = q := ⟨_, rfl⟩
  have HO0 := Lib.hid ho0
  obtain ⟨b, hb, hbs, hm⟩ : ∃ b : Nat, (if (bt s a).toNat = 45 then a + 1 else a) = b ∧ b ≤ s.size ∧ (((o0 == 45) = true ∧ b = a + 1) ∨ ((o0 == 45) = false ∧ b = a)) := by
    by_cases m1 : (bt s a).toNat = 45
    · exact ⟨a + 1, if_pos m1, lt_of_bt m1 (by decide), .inl ⟨by rw [← ho0, oneAt_of m1 (by decide)]; rfl, rfl⟩⟩
    · exact ⟨a, if_neg m1, ha, .inr ⟨oneAt_ne (n := 45) m1 _ ho0, rfl⟩⟩
  rw [hb] at hk
  clear hb ho0
  obtain ⟨hd0, hbd, hds, hdd⟩ := dgA_spec s b hbs
  obtain ⟨d, hd⟩ : ∃ q, dgA s b = q := ⟨_, rfl⟩
  have HD := Lib.hid hd
  rw [hd] at hk hbd hds hdd
  clear hd hd0
  go_enter Tryz.func107, Tryz.ntmps107
  rcases hm with ⟨m2, hba⟩ | ⟨m2, hba⟩
  all_goals go_wp2_with (first | (go_at_call 164; refine (one_int s (a) _ _ (by omega) hs1 (by omega)).mono ?_; rintro e w' ⟨rfl, hw'⟩; obtain rfl := hw'.symm; rw [HO0.out]) | fail)
  all_goals first | (rw [show (a : Int) + 1 = (b : Int) by omega]) | (have hab : b = a := (by omega); subst hab)
  all_goals clear hba m2
  all_goals
    refine (refDigits_int s b _ _ rfl hs hbs _ HD.out).mono ?_
    rintro r w1 ⟨rfl, hw1⟩
    obtain rfl := hw1.symm
    have hz2 : (0 : Int) ≤ (b : Int) := Int.natCast_nonneg _
    have hz3 : (0 : Int) ≤ (d : Int) := Int.natCast_nonneg _
    by_cases n1 : d = b
    · rw [if_pos (.inl n1)] at hk
      have n2 : ((d : Int) == (b : Int)) = true := by rw [n1]; simp
      clear n1
      (rw [show numEnd8 s none = (0, 0) from rfl, Prod.mk.injEq] at hk; obtain ⟨rfl, rfl⟩ := hk; go_wp2_with (first | fail | fail); go_ret2; exact ⟨rfl, rfl⟩)
    have n2 : ((d : Int) == (b : Int)) = false := by rw [beq_eq_false_iff_ne]; omega
    have hlb : (b : Int) < s.size := by omega
    by_cases z1 : (bt s b).toNat = 48 ∧ b + 1 < d
    · rw [if_pos (.inr z1)] at hk
      have z2 := eqT (n := (bt s b).toNat) (k := 48) (by omega)
      have z3 : decide ((b : Int) + 1 < (d : Int)) = true := decide_eq_true (by omega)
      clear z1
      (rw [show numEnd8 s none = (0, 0) from rfl, Prod.mk.injEq] at hk; obtain ⟨rfl, rfl⟩ := hk; go_wp2_with (first | fail | fail); go_ret2; exact ⟨rfl, rfl⟩)
    rw [if_neg (fun h => by rcases h with h | h; exact n1 h; exact z1 h), frac_pos s d hds] at hk
    have z2 : ((((bt s b).toNat : Int) == 48) = true ∧ decide ((b : Int) + 1 < (d : Int)) = false) ∨ (((bt s b).toNat : Int) == 48) = false := by
      by_cases h : (bt s b).toNat = 48
      · exact .inl ⟨eqT (by omega), decide_eq_false (fun h2 => z1 ⟨h, by omega⟩)⟩
      · exact .inr (eqF (by omega))
    clear z1 n1
    obtain ⟨o1, ho1⟩ : ∃ q, oneAt s d = q := ⟨_, rfl⟩
    have HO1 := Lib.hid ho1
    have hfr : ((bt s d).toNat = 46 ∧ (o1 == 46) = true ∧ d + 1 ≤ s.size) ∨ (¬ (bt s d).toNat = 46 ∧ (o1 == 46) = false) := by
      by_cases r1 : (bt s d).toNat = 46
      · exact .inl ⟨r1, by rw [← ho1, oneAt_of r1 (by decide)]; rfl, lt_of_bt r1 (by decide)⟩
      · exact .inr ⟨r1, oneAt_ne (n := 46) r1 _ ho1⟩
    clear ho1
    have hst : ((o1 == 46) = true ∧ d + 1 ≤ s.size ∧ ∃ f, Hid (dgA s (d + 1) = f) ∧ f ≤ s.size ∧ Lx.isDigit (bt s f) = false ∧ ((f = d + 1 ∧ (k, e) = (0, 0)) ∨ (f ≠ d + 1 ∧ numEnd8 s (Lx.numExp (3, sfx s f)) = (k, e)))) ∨ ((o1 == 46) = false ∧ numEnd8 s (Lx.numExp (2, sfx s d)) = (k, e)) := by
      rcases hfr with ⟨r1, r2, r3⟩ | ⟨r1, r2⟩
      · rw [if_pos r1] at hk
        obtain ⟨-, q1, q2, q3⟩ := dgA_spec s (d + 1) r3
        refine .inl ⟨r2, r3, _, Lib.hid rfl, q2, q3, ?_⟩
        by_cases u1 : dgA s (d + 1) = d + 1
        · rw [if_pos u1] at hk
          exact .inl ⟨u1, hk.symm⟩
        · rw [if_neg u1] at hk
          exact .inr ⟨u1, hk⟩
      · rw [if_neg r1] at hk
        exact .inr ⟨r2, hk⟩
    clear hk hfr
    rcases z2 with ⟨z2, z3⟩ | z2
    all_goals go_wp2_with fail
    all_goals
      refine (one_int s d _ _ rfl hs1 (by omega)).mono ?_
      rintro r w1 ⟨rfl, hw1⟩
      obtain rfl := hw1.symm
      rw [HO1.out]
      rcases hst with ⟨r2, r3, f, HF, hfs, hfd, hres⟩ | ⟨r2, hk⟩
      · go_wp2_with fail
        refine (refDigits_int s (d + 1) _ _ (by omega) hs r3 _ HF.out).mono ?_
        rintro r w1 ⟨rfl, hw1⟩
        obtain rfl := hw1.symm
        rcases hres with ⟨u1, u2⟩ | ⟨u1, hk⟩
        · have u3 : ((f : Int) == (d : Int) + 1) = true := by rw [u1]; simp
          rw [Prod.mk.injEq] at u2
          obtain ⟨rfl, rfl⟩ := u2
          clear u1
          go_wp2_with fail
          go_ret2
          exact ⟨rfl, rfl⟩
        · have u3 : ((f : Int) == (d : Int) + 1) = false := by rw [beq_eq_false_iff_ne]; omega
          clear u1
          go_wp2_with fail
          have hz4 : (0 : Int) ≤ (f : Int) := Int.natCast_nonneg _
          obtain ⟨o2, HO2, hx⟩ := exp_ways s 3 f k e hfs hk
          clear hk
          refine (one_int s f _ _ rfl hs1 (by omega)).mono ?_
          rintro r w1 ⟨rfl, hw1⟩
          obtain rfl := hw1.symm
          rw [HO2.out]
          rcases hx with ⟨x2, x3, hk⟩ | ⟨hx2, hf1, pp, HP, g, hgs, hsg, h, HH, hh1, hh2, hdg, hres⟩
          · have hdg := hfd
            rw [end_pos s 3 f hdg] at hk
            by_cases hlt : f < s.size
            · have hlt1 : (f : Int) < s.size := by omega
              by_cases q1 : (bt s f).toNat = 46
              · rw [if_pos (.inl q1)] at hk
                have q1' := eqT (n := (bt s f).toNat) (k := 46) (by omega)
                clear q1
                (rw [show numEnd8 s none = (0, 0) from rfl, Prod.mk.injEq] at hk; obtain ⟨rfl, rfl⟩ := hk; go_wp2_with (first | (go_at_call 164; refine (one_int s f _ _ (by omega) hs1 (by omega)).mono ?_; rintro e w' ⟨rfl, hw'⟩; obtain rfl := hw'.symm; rw [HO2.out]) | fail); go_ret2; exact ⟨rfl, rfl⟩)
              have q1' := eqF (n := (bt s f).toNat) (k := 46) (by omega)
              cases q2 : Lx.isLetter (bt s f)
              · rw [if_neg (by rw [q2]; simp [q1]), numE_some s _ _ (by omega), Prod.mk.injEq] at hk
                obtain ⟨rfl, rfl⟩ := hk
                have HL := Lib.hid q2
                clear q1 q2
                go_wp2_with (first | (go_at_call 164; refine (one_int s f _ _ (by omega) hs1 (by omega)).mono ?_; rintro e w' ⟨rfl, hw'⟩; obtain rfl := hw'.symm; rw [HO2.out]) | (go_at_call 92; refine (refLetter_any _ _).mono ?_; rintro e w' ⟨rfl, hw'⟩; obtain rfl := hw'.symm; rw [HL.out]) | fail)
                go_ret2
                exact ⟨rfl, rfl⟩
              · rw [if_pos (.inr q2)] at hk
                have HL := Lib.hid q2
                clear q1 q2
                (rw [show numEnd8 s none = (0, 0) from rfl, Prod.mk.injEq] at hk; obtain ⟨rfl, rfl⟩ := hk; go_wp2_with (first | (go_at_call 164; refine (one_int s f _ _ (by omega) hs1 (by omega)).mono ?_; rintro e w' ⟨rfl, hw'⟩; obtain rfl := hw'.symm; rw [HO2.out]) | (go_at_call 92; refine (refLetter_any _ _).mono ?_; rintro e w' ⟨rfl, hw'⟩; obtain rfl := hw'.symm; rw [HL.out]) | fail); go_ret2; exact ⟨rfl, rfl⟩)
            · have hlt1 : (s.size : Int) ≤ f := by omega
              rw [if_neg (by rw [bt_end s _ (by omega)]; decide), numE_some s _ _ (by omega), Prod.mk.injEq] at hk
              obtain ⟨rfl, rfl⟩ := hk
              go_wp2_with (first | (go_at_call 164; refine (one_int s f _ _ (by omega) hs1 (by omega)).mono ?_; rintro e w' ⟨rfl, hw'⟩; obtain rfl := hw'.symm; rw [HO2.out]) | fail)
              go_ret2
              exact ⟨rfl, rfl⟩
          · have hz5 : (0 : Int) ≤ (g : Int) := Int.natCast_nonneg _
            have hz6 : (0 : Int) ≤ (h : Int) := Int.natCast_nonneg _
            rcases hx2 with x2 | ⟨x2, x3⟩
            all_goals rcases hsg with ⟨y2, hg⟩ | ⟨y2, y3, hg⟩ | ⟨y2, y3, hg⟩
            all_goals go_wp2_with (first | (go_at_call 164; refine (one_int s (f) _ _ (by omega) hs1 (by omega)).mono ?_; rintro e w' ⟨rfl, hw'⟩; obtain rfl := hw'.symm; rw [HO2.out]) | (go_at_call 164; refine (one_int s (f + 1) _ _ (by omega) hs1 (by omega)).mono ?_; rintro e w' ⟨rfl, hw'⟩; obtain rfl := hw'.symm; rw [HP.out]) | fail)
            all_goals first | (rw [show (f : Int) + 1 + 1 = (g : Int) by omega]) | (rw [show (f : Int) + 2 = (g : Int) by omega]) | (rw [show (f : Int) + 1 = (g : Int) by omega])
            all_goals clear hg
            all_goals
              refine (refDigits_int s g _ _ rfl hs hgs _ HH.out).mono ?_
              rintro r w1 ⟨rfl, hw1⟩
              obtain rfl := hw1.symm
              rcases hres with ⟨v1, v2⟩ | ⟨v1, hk⟩
              · have v3 : ((h : Int) == (g : Int)) = true := by rw [v1]; simp
                rw [Prod.mk.injEq] at v2
                obtain ⟨rfl, rfl⟩ := v2
                clear v1
                go_wp2_with fail
                go_ret2
                exact ⟨rfl, rfl⟩
              · have v3 : ((h : Int) == (g : Int)) = false := by rw [beq_eq_false_iff_ne]; omega
                clear v1
                rw [end_pos s 3 h hdg] at hk
                by_cases hlt : h < s.size
                · have hlt1 : (h : Int) < s.size := by omega
                  by_cases q1 : (bt s h).toNat = 46
                  · rw [if_pos (.inl q1)] at hk
                    have q1' := eqT (n := (bt s h).toNat) (k := 46) (by omega)
                    clear q1
                    (rw [show numEnd8 s none = (0, 0) from rfl, Prod.mk.injEq] at hk; obtain ⟨rfl, rfl⟩ := hk; go_wp2_with (first | fail | fail); go_ret2; exact ⟨rfl, rfl⟩)
                  have q1' := eqF (n := (bt s h).toNat) (k := 46) (by omega)
                  cases q2 : Lx.isLetter (bt s h)
                  · rw [if_neg (by rw [q2]; simp [q1]), numE_some s _ _ (by omega), Prod.mk.injEq] at hk
                    obtain ⟨rfl, rfl⟩ := hk
                    have HL := Lib.hid q2
                    clear q1 q2
                    go_wp2_with (first | fail | (go_at_call 92; refine (refLetter_any _ _).mono ?_; rintro e w' ⟨rfl, hw'⟩; obtain rfl := hw'.symm; rw [HL.out]) | fail)
                    go_ret2
                    exact ⟨rfl, rfl⟩
                  · rw [if_pos (.inr q2)] at hk
                    have HL := Lib.hid q2
                    clear q1 q2
                    (rw [show numEnd8 s none = (0, 0) from rfl, Prod.mk.injEq] at hk; obtain ⟨rfl, rfl⟩ := hk; go_wp2_with (first | fail | (go_at_call 92; refine (refLetter_any _ _).mono ?_; rintro e w' ⟨rfl, hw'⟩; obtain rfl := hw'.symm; rw [HL.out]) | fail); go_ret2; exact ⟨rfl, rfl⟩)
                · have hlt1 : (s.size : Int) ≤ h := by omega
                  rw [if_neg (by rw [bt_end s _ (by omega)]; decide), numE_some s _ _ (by omega), Prod.mk.injEq] at hk
                  obtain ⟨rfl, rfl⟩ := hk
                  go_wp2_with (first | fail | fail)
                  go_ret2
                  exact ⟨rfl, rfl⟩
      · go_wp2_with fail
        obtain ⟨f, hfd0⟩ : ∃ q, q = d := ⟨_, rfl⟩
        subst hfd0
        have hfs := hds
        have hfd := hdd
        have hz4 : (0 : Int) ≤ (f : Int) := Int.natCast_nonneg _
        obtain ⟨o2, HO2, hx⟩ := exp_ways s 2 f k e hfs hk
        clear hk
        refine (one_int s f _ _ rfl hs1 (by omega)).mono ?_
        rintro r w1 ⟨rfl, hw1⟩
        obtain rfl := hw1.symm
        rw [HO2.out]
        rcases hx with ⟨x2, x3, hk⟩ | ⟨hx2, hf1, pp, HP, g, hgs, hsg, h, HH, hh1, hh2, hdg, hres⟩
        · have hdg := hfd
          rw [end_pos s 2 f hdg] at hk
          by_cases hlt : f < s.size
          · have hlt1 : (f : Int) < s.size := by omega
            by_cases q1 : (bt s f).toNat = 46
            · rw [if_pos (.inl q1)] at hk
              have q1' := eqT (n := (bt s f).toNat) (k := 46) (by omega)
              clear q1
              (rw [show numEnd8 s none = (0, 0) from rfl, Prod.mk.injEq] at hk; obtain ⟨rfl, rfl⟩ := hk; go_wp2_with (first | (go_at_call 164; refine (one_int s f _ _ (by omega) hs1 (by omega)).mono ?_; rintro e w' ⟨rfl, hw'⟩; obtain rfl := hw'.symm; rw [HO2.out]) | fail); go_ret2; exact ⟨rfl, rfl⟩)
            have q1' := eqF (n := (bt s f).toNat) (k := 46) (by omega)
            cases q2 : Lx.isLetter (bt s f)
            · rw [if_neg (by rw [q2]; simp [q1]), numE_some s _ _ (by omega), Prod.mk.injEq] at hk
              obtain ⟨rfl, rfl⟩ := hk
              have HL := Lib.hid q2
              clear q1 q2
              go_wp2_with (first | (go_at_call 164; refine (one_int s f _ _ (by omega) hs1 (by omega)).mono ?_; rintro e w' ⟨rfl, hw'⟩; obtain rfl := hw'.symm; rw [HO2.out]) | (go_at_call 92; refine (refLetter_any _ _).mono ?_; rintro e w' ⟨rfl, hw'⟩; obtain rfl := hw'.symm; rw [HL.out]) | fail)
              go_ret2
              exact ⟨rfl, rfl⟩
            · rw [if_pos (.inr q2)] at hk
              have HL := Lib.hid q2
              clear q1 q2
              (rw [show numEnd8 s none = (0, 0) from rfl, Prod.mk.injEq] at hk; obtain ⟨rfl, rfl⟩ := hk; go_wp2_with (first | (go_at_call 164; refine (one_int s f _ _ (by omega) hs1 (by omega)).mono ?_; rintro e w' ⟨rfl, hw'⟩; obtain rfl := hw'.symm; rw [HO2.out]) | (go_at_call 92; refine (refLetter_any _ _).mono ?_; rintro e w' ⟨rfl, hw'⟩; obtain rfl := hw'.symm; rw [HL.out]) | fail); go_ret2; exact ⟨rfl, rfl⟩)
          · have hlt1 : (s.size : Int) ≤ f := by omega
            rw [if_neg (by rw [bt_end s _ (by omega)]; decide), numE_some s _ _ (by omega), Prod.mk.injEq] at hk
            obtain ⟨rfl, rfl⟩ := hk
            go_wp2_with (first | (go_at_call 164; refine (one_int s f _ _ (by omega) hs1 (by omega)).mono ?_; rintro e w' ⟨rfl, hw'⟩; obtain rfl := hw'.symm; rw [HO2.out]) | fail)
            go_ret2
            exact ⟨rfl, rfl⟩
        · have hz5 : (0 : Int) ≤ (g : Int) := Int.natCast_nonneg _
          have hz6 : (0 : Int) ≤ (h : Int) := Int.natCast_nonneg _
          rcases hx2 with x2 | ⟨x2, x3⟩
          all_goals rcases hsg with ⟨y2, hg⟩ | ⟨y2, y3, hg⟩ | ⟨y2, y3, hg⟩
          all_goals go_wp2_with (first | (go_at_call 164; refine (one_int s (f) _ _ (by omega) hs1 (by omega)).mono ?_; rintro e w' ⟨rfl, hw'⟩; obtain rfl := hw'.symm; rw [HO2.out]) | (go_at_call 164; refine (one_int s (f + 1) _ _ (by omega) hs1 (by omega)).mono ?_; rintro e w' ⟨rfl, hw'⟩; obtain rfl := hw'.symm; rw [HP.out]) | fail)
          all_goals first | (rw [show (f : Int) + 1 + 1 = (g : Int) by omega]) | (rw [show (f : Int) + 2 = (g : Int) by omega]) | (rw [show (f : Int) + 1 = (g : Int) by omega])
          all_goals clear hg
          all_goals
            refine (refDigits_int s g _ _ rfl hs hgs _ HH.out).mono ?_
            rintro r w1 ⟨rfl, hw1⟩
            obtain rfl := hw1.symm
            rcases hres with ⟨v1, v2⟩ | ⟨v1, hk⟩
            · have v3 : ((h : Int) == (g : Int)) = true := by rw [v1]; simp
              rw [Prod.mk.injEq] at v2
              obtain ⟨rfl, rfl⟩ := v2
              clear v1
              go_wp2_with fail
              go_ret2
              exact ⟨rfl, rfl⟩
            · have v3 : ((h : Int) == (g : Int)) = false := by rw [beq_eq_false_iff_ne]; omega
              clear v1
              rw [end_pos s 3 h hdg] at hk
              by_cases hlt : h < s.size
              · have hlt1 : (h : Int) < s.size := by omega
                by_cases q1 : (bt s h).toNat = 46
                · rw [if_pos (.inl q1)] at hk
                  have q1' := eqT (n := (bt s h).toNat) (k := 46) (by omega)
                  clear q1
                  (rw [show numEnd8 s none = (0, 0) from rfl, Prod.mk.injEq] at hk; obtain ⟨rfl, rfl⟩ := hk; go_wp2_with (first | fail | fail); go_ret2; exact ⟨rfl, rfl⟩)
                have q1' := eqF (n := (bt s h).toNat) (k := 46) (by omega)
                cases q2 : Lx.isLetter (bt s h)
                · rw [if_neg (by rw [q2]; simp [q1]), numE_some s _ _ (by omega), Prod.mk.injEq] at hk
                  obtain ⟨rfl, rfl⟩ := hk
                  have HL := Lib.hid q2
                  clear q1 q2
                  go_wp2_with (first | fail | (go_at_call 92; refine (refLetter_any _ _).mono ?_; rintro e w' ⟨rfl, hw'⟩; obtain rfl := hw'.symm; rw [HL.out]) | fail)
                  go_ret2
                  exact ⟨rfl, rfl⟩
                · rw [if_pos (.inr q2)] at hk
                  have HL := Lib.hid q2
                  clear q1 q2
                  (rw [show numEnd8 s none = (0, 0) from rfl, Prod.mk.injEq] at hk; obtain ⟨rfl, rfl⟩ := hk; go_wp2_with (first | fail | (go_at_call 92; refine (refLetter_any _ _).mono ?_; rintro e w' ⟨rfl, hw'⟩; obtain rfl := hw'.symm; rw [HL.out]) | fail); go_ret2; exact ⟨rfl, rfl⟩)
              · have hlt1 : (s.size : Int) ≤ h := by omega
                rw [if_neg (by rw [bt_end s _ (by omega)]; decide), numE_some s _ _ (by omega), Prod.mk.injEq] at hk
                obtain ⟨rfl, rfl⟩ := hk
                go_wp2_with (first | fail | fail)
                go_ret2
                exact ⟨rfl, rfl⟩
end Go.Proofs.YtefjgpkpplkkgaaGreatDoor
