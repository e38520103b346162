/-
  The lexer's 'Quote', walked.
-/
import Derived.Test.YtabcaljnpahgpaaGreatDoorL7q0
import Derived.Test.YtabcaljnpahgpaaGreatDoorL7ref
import Derived.Test.YtabcaljnpahgpaaGreatDoorK7
import Derived.Test.YtabcaljnpahgpaaGreatDoorLxval
namespace Go.Proofs.YtabcaljnpahgpaaGreatDoor
set_option linter.unusedSimpArgs false
set_option linter.unusedVariables false
open Go Go.RowKit

/-- A builder's world alone. -/
structure QW (w0 : World) (bo : Nat) (out : List UInt8) (w : World) : Prop where
  bld : IsB bo out w
  bel : Below bo w0 w
  hi : bo = w0.heap.size
theorem QW.le {w0 w : World} {bo : Nat} {out : List UInt8} (h : QW w0 bo out w) : bo ≤ w.heap.size := by
  have := h.bel.size
  have := h.hi
  omega
theorem QW.start (w : World) : QW w w.heap.size [] (w.alloc (.cells #[.pointer none, .slice none 0 0] 109)) := by
  refine ⟨.inl ⟨Nat.le_refl _, .slice none 0 0, ?_, ⟨rfl, .inl ⟨rfl, rfl⟩⟩, by simp [Value.ownBlock]⟩, (Below.refl _ _).alloc (Nat.le_refl _) _, rfl⟩
  show (w.heap.push _)[w.heap.size]? = _
  simp
theorem QW.byte {w0 w : World} {bo : Nat} {out : List UInt8} (h : QW w0 bo out w) (hl : out.length ≤ 10000000000) (c : UInt8) :
    Calls Tryz.prog 132 #[.pointer (some ⟨bo, 0, none⟩), .int .u8 c.toNat] w fun e w' => e = .returned .nilIface ∧ QW w0 bo (out ++ [c]) w' := by
  refine (WriteByte_k bo bo _ c.toNat w h.bld (by rw [Lib.byteCells_length]; omega) h.le).mono ?_
  rintro e w' ⟨rfl, h1, h2, _⟩
  refine ⟨rfl, .inr ?_, h.bel.trans h2, h.hi⟩
  rw [Lib.byteCells_append]
  exact h1
theorem QW.str {w0 w : World} {bo : Nat} {out : List UInt8} (h : QW w0 bo out w) (hl : out.length ≤ 10000000000) (l : List UInt8) (hl2 : l.length ≤ 5000) :
    Calls Tryz.prog 100 #[.pointer (some ⟨bo, 0, none⟩), .string ⟨l.toArray⟩] w fun e w' => (∃ n : Int, e = .returned (.tuple #[.int .i64 n, .nilIface])) ∧ QW w0 bo (out ++ l) w' := by
  refine (WriteString_k bo bo _ ⟨l.toArray⟩ w h.bld (by rw [Lib.byteCells_length]; show _ + l.length ≤ _; omega) h.le).mono ?_
  rintro e w' ⟨rfl, h1, h2, _⟩
  refine ⟨⟨_, rfl⟩, .inr ?_, h.bel.trans h2, h.hi⟩
  rw [Lib.byteCells_append]
  exact h1
theorem QW.string {w0 w : World} {bo : Nat} {out : List UInt8} (h : QW w0 bo out w) :
    Calls Tryz.prog 53 #[.pointer (some ⟨bo, 0, none⟩)] w fun e w' => e = .returned (.string ⟨out.toArray⟩) ∧ QW w0 bo out w' := by
  refine (Tryz.Builder_String_any_k bo bo out w h.bld h.le).mono ?_
  rintro e w' ⟨rfl, h1, h2, _⟩
  exact ⟨rfl, h1, h.bel.trans h2, h.hi⟩

theorem qsIdx (c : UInt8) (w : World) :
    Calls Tryz.prog 133 #[.string ⟨#[34, 92, 8, 9, 10, 12, 13]⟩, .int .u8 c.toNat] w fun e w' => e = .returned (.int .i64 (Lib.indexByte Lx.spl c)) ∧ w' = w := by
  refine (Tryz.strings_IndexByte _ _ _).mono ?_
  rintro e w' ⟨rfl, rfl⟩
  refine ⟨?_, rfl⟩
  have h1 : ((c.toNat : Int)).toNat.toUInt8 = c := by simp
  rw [h1]
  rfl
def qsIdxOk (c : UInt8) : Bool :=
  if (Lx.qs c).toNat = 0 then decide (Lib.indexByte Lx.spl c < 0) else decide (0 ≤ Lib.indexByte Lx.spl c ∧ Lib.indexByte Lx.spl c < 7 ∧ Lx.asl.getD (Lib.indexByte Lx.spl c).toNat 0 = Lx.qs c)
set_option maxRecDepth 100000 in
theorem qsIdx_fin : ∀ n : Fin 256, qsIdxOk (UInt8.ofNat n.val) = true := by decide +kernel
theorem qsIdx_any (c : UInt8) : ((Lx.qs c).toNat = 0 ∧ Lib.indexByte Lx.spl c < 0) ∨ ((Lx.qs c).toNat ≠ 0 ∧ ∃ k : Nat, k < 7 ∧ Lib.indexByte Lx.spl c = k ∧ bt ⟨#[34, 92, 98, 116, 110, 102, 114]⟩ k = Lx.qs c) := by
  have h : qsIdxOk c = true := by
    have := qsIdx_fin ⟨c.toNat, UInt8.toNat_lt c⟩
    simpa using this
  unfold qsIdxOk at h
  by_cases h0 : (Lx.qs c).toNat = 0
  · rw [if_pos h0] at h
    exact .inl ⟨h0, of_decide_eq_true h⟩
  · rw [if_neg h0] at h
    obtain ⟨h1, h2, h3⟩ := of_decide_eq_true h
    exact .inr ⟨h0, (Lib.indexByte Lx.spl c).toNat, by omega, by omega, h3⟩

set_option maxHeartbeats 1000000 in
set_option maxRecDepth 100000 in
theorem lexQuote_any (s : ByteArray) (w : World) (hs : s.size ≤ 1000000000) (hE : Env w) :
    Calls Tryz.prog 102 #[.string s] w fun e w' => Below w.heap.size w w' ∧ ((Lx.valid s.data.toList = true ∧ e = .returned (.tuple #[.string ⟨(Lx.quote s.data.toList).toArray⟩, .int .i64 0])) ∨ (Lx.valid s.data.toList = false ∧ e = .returned (.tuple #[.string ⟨#[]⟩, .int .i64 2]))) := by
  have hi0 : (0 : Int) ≤ (s.size : Int) := Int.natCast_nonneg _
  cases hv : Lx.valid s.data.toList
  · have HV := Lib.hid hv
    clear hv
    go_enter Tryz.func102, Tryz.ntmps102
    go_wp2_with (go_at_call 131; refine (valid_any _ _ (by omega) hE).mono ?_; rintro e w1 ⟨rfl, hb1⟩; rw [validD_eq, HV.out])
    refine bodyPost_ret (v := .tuple #[.string ⟨#[]⟩, .int .i64 2]) (by simp [results, Tryz.results102, go_sem]) rfl ?_
    exact ⟨hb1, by simp⟩
  · have HV := Lib.hid hv
    clear hv
    go_enter Tryz.func102, Tryz.ntmps102
    go_wp2_with (first | (go_at_call 131; refine (valid_any _ _ (by omega) hE).mono ?_; rintro e w1 ⟨rfl, hb1⟩; rw [validD_eq, HV.out]) | fail)
    have hQ0 := QW.start w1
    refine (hQ0.byte (by simp) 34).mono ?_
    rintro e w2 ⟨rfl, hQ⟩
    clear hQ0
    have HQ := Lib.hid hQ
    clear hQ
    go_wp2_with fail
    go_loopg [14] s.size (fun k s14 wr => ∃ a, a ≤ s.size ∧ k = s.size - a ∧ s14 = .int .i64 (a : Nat) ∧ QW w1 w1.heap.size (34 :: (s.data.toList.take a).flatMap Lx.qb) wr)
    case atStart => exact ⟨0, Nat.zero_le _, by omega, rfl, HQ.out⟩
    case round =>
      obtain ⟨a, ha, hk, rfl, hQ⟩ := hrel
      have HK := Lib.hid hk
      have hol : (34 :: (s.data.toList.take a).flatMap Lx.qb).length ≤ 6000000001 := by
        rw [List.length_cons]
        have := qb_flat_le (s.data.toList.take a)
        rw [List.length_take] at this
        omega
      clear hk HQ
      have ha0 : (0 : Int) ≤ (a : Int) := Int.natCast_nonneg _
      by_cases hlt : a < s.size
      · have hlt1 : (a : Int) < s.size := by omega
        have HT := Lib.hid (take_flat s a hlt Lx.qb)
        generalize hO : 34 :: (s.data.toList.take a).flatMap Lx.qb = O at hQ hol
        have HO := Lib.hid hO
        clear hO
        have HI := Lib.hid (qsIdx (bt s a))
        have HN : Hid (∀ O', O' = O ++ Lx.qb (bt s a) → O' = 34 :: (s.data.toList.take (a + 1)).flatMap Lx.qb) := Lib.hid (fun O' h => by rw [h, ← HO.out, HT.out]; rfl)
        rcases qsIdx_any (bt s a) with ⟨h0, hneg⟩ | ⟨h0, kk, hk7, hkk, hbt⟩
        · generalize hkk : Lib.indexByte Lx.spl (bt s a) = kk at hneg
          have HKK := Lib.hid hkk
          clear hkk
          by_cases hc : (bt s a).toNat < 32 ∨ (bt s a).toNat = 127
          · have HQB : Hid (Lx.qb (bt s a) = [92, 117, 48, 48] ++ [Lx.hexd ((bt s a).toNat / 16)] ++ [Lx.hexd ((bt s a).toNat % 16)]) := by unfold Lx.qb; rw [if_neg (by simp [h0]), if_pos hc]; exact Lib.hid rfl
            have HY1 := Lib.hid (hexd_bt ((bt s a).toNat / 16) (by have := bt_lt s a; omega))
            have HY2 := Lib.hid (hexd_bt ((bt s a).toNat % 16) (by omega))
            have hcb := bt_lt s a
            clear h0
            rcases hc with hc | hc
            · have c1 : ((bt s a).toNat : Int) < 32 := by omega
              go_wp2_with fail
              refine (HI.out _).mono ?_
              rintro e w' ⟨rfl, hw'⟩
              obtain rfl := hw'.symm
              rw [HKK.out]
              go_wp2_with fail
              refine (hQ.str (by omega) [92, 117, 48, 48] (by simp)).mono ?_
              rintro e w3 ⟨⟨n3, rfl⟩, hQ3⟩
              go_wp2_with fail
              refine (hQ3.byte (by rw [List.length_append]; simp; omega) (bt ⟨#[48, 49, 50, 51, 52, 53, 54, 55, 56, 57, 97, 98, 99, 100, 101, 102]⟩ ((bt s a).toNat / 16))).mono ?_
              rintro e w4 ⟨rfl, hQ4⟩
              rw [HY1.out] at hQ4
              go_wp2_with fail
              refine (hQ4.byte (by rw [List.length_append, List.length_append]; simp; omega) (bt ⟨#[48, 49, 50, 51, 52, 53, 54, 55, 56, 57, 97, 98, 99, 100, 101, 102]⟩ ((bt s a).toNat % 16))).mono ?_
              rintro e w5 ⟨rfl, hQ5⟩
              rw [HY2.out] at hQ5
              go_wp2
              go_roundg (s.size - (a + 1))
              case measure => rw [HK.out]; omega
              case rel => exact ⟨a + 1, hlt, rfl, by simp, by rw [← HN.out _ (by rw [HQB.out])]; rw [List.append_assoc, List.append_assoc] at hQ5; exact hQ5⟩
            · have c1 : (32 : Int) ≤ ((bt s a).toNat : Int) := by omega
              have c2 := eqT (n := (bt s a).toNat) (k := 127) (by omega)
              clear hc
              go_wp2_with fail
              refine (HI.out _).mono ?_
              rintro e w' ⟨rfl, hw'⟩
              obtain rfl := hw'.symm
              rw [HKK.out]
              go_wp2_with fail
              refine (hQ.str (by omega) [92, 117, 48, 48] (by simp)).mono ?_
              rintro e w3 ⟨⟨n3, rfl⟩, hQ3⟩
              go_wp2_with fail
              refine (hQ3.byte (by rw [List.length_append]; simp; omega) (bt ⟨#[48, 49, 50, 51, 52, 53, 54, 55, 56, 57, 97, 98, 99, 100, 101, 102]⟩ ((bt s a).toNat / 16))).mono ?_
              rintro e w4 ⟨rfl, hQ4⟩
              rw [HY1.out] at hQ4
              go_wp2_with fail
              refine (hQ4.byte (by rw [List.length_append, List.length_append]; simp; omega) (bt ⟨#[48, 49, 50, 51, 52, 53, 54, 55, 56, 57, 97, 98, 99, 100, 101, 102]⟩ ((bt s a).toNat % 16))).mono ?_
              rintro e w5 ⟨rfl, hQ5⟩
              rw [HY2.out] at hQ5
              go_wp2
              go_roundg (s.size - (a + 1))
              case measure => rw [HK.out]; omega
              case rel => exact ⟨a + 1, hlt, rfl, by simp, by rw [← HN.out _ (by rw [HQB.out])]; rw [List.append_assoc, List.append_assoc] at hQ5; exact hQ5⟩
          · have HQB : Hid (Lx.qb (bt s a) = [bt s a]) := by unfold Lx.qb; rw [if_neg (by simp [h0]), if_neg hc]; exact Lib.hid rfl
            have c1 : (32 : Int) ≤ ((bt s a).toNat : Int) := by omega
            have c2 := eqF (n := (bt s a).toNat) (k := 127) (by omega)
            clear h0
            go_wp2_with fail
            refine (HI.out _).mono ?_
            rintro e w' ⟨rfl, hw'⟩
            obtain rfl := hw'.symm
            rw [HKK.out]
            go_wp2_with fail
            refine (hQ.byte (by omega) (bt s a)).mono ?_
            rintro e w3 ⟨rfl, hQ3⟩
            go_wp2
            go_roundg (s.size - (a + 1))
            case measure => rw [HK.out]; omega
            case rel => exact ⟨a + 1, hlt, rfl, by simp, by rw [← HN.out _ (by rw [HQB.out])]; exact hQ3⟩
        · have HKK := Lib.hid hkk
          clear hkk
          have HQB : Hid (Lx.qb (bt s a) = [92] ++ [Lx.qs (bt s a)]) := by unfold Lx.qb; rw [if_pos h0]; exact Lib.hid rfl
          have HBT := Lib.hid hbt
          clear hbt h0
          go_wp2_with fail
          refine (HI.out _).mono ?_
          rintro e w' ⟨rfl, hw'⟩
          obtain rfl := hw'.symm
          rw [HKK.out]
          go_wp2_with fail
          refine (hQ.byte (by omega) 92).mono ?_
          rintro e w3 ⟨rfl, hQ3⟩
          go_wp2_with fail
          refine (hQ3.byte (by rw [List.length_append]; simp; omega) (bt ⟨#[34, 92, 98, 116, 110, 102, 114]⟩ kk)).mono ?_
          rintro e w4 ⟨rfl, hQ4⟩
          go_wp2
          go_roundg (s.size - (a + 1))
          case measure => rw [HK.out]; omega
          case rel => exact ⟨a + 1, hlt, rfl, by simp, by rw [← HN.out _ (by rw [HQB.out])]; rw [HBT.out, List.append_assoc] at hQ4; exact hQ4⟩
      · have hlt1 : (s.size : Int) ≤ a := by omega
        have hfin : 34 :: (s.data.toList.take a).flatMap Lx.qb ++ [34] = Lx.quote s.data.toList := by rw [List.take_of_length_le (by show s.size ≤ a; omega)]; rfl
        have HF := Lib.hid hfin
        clear hfin
        go_wp2_with fail
        refine (hQ.byte (by omega) 34).mono ?_
        rintro e w3 ⟨rfl, hQ3⟩
        rw [HF.out] at hQ3
        go_wp2_with fail
        refine (hQ3.string).mono ?_
        rintro e w4 ⟨rfl, hQ4⟩
        go_wp2
        refine bodyPost_ret (v := .tuple #[.string ⟨(Lx.quote s.data.toList).toArray⟩, .int .i64 0]) (by simp [results, Tryz.results102, go_sem]) rfl ?_
        exact ⟨hb1.trans (hQ4.bel.mono (by have := hb1.size; omega)), .inl ⟨trivial, rfl⟩⟩
end Go.Proofs.YtabcaljnpahgpaaGreatDoor
