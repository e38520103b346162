/-
  Segments: the document's names and ids.
-/
import Derived.Test.YtcimobbppmpmgaaDoorSg0
import Derived.Laws.IdiomStrings
import Derived.Laws.BytesArg
namespace Go.Proofs.YtcimobbppmpmgaaDoor
set_option linter.unusedSimpArgs false
set_option linter.unusedVariables false
open Go Go.RowKit
open Go.Maps Go.WideMaps

theorem convB {w : World} {a : Option Addr} {n c : Nat} {l : List UInt8} (h : Byts w (.slice a n c) l) :
    (convert 32 9 (.slice a n c)).run Tryd.prog w = .ok (.string ⟨l.toArray⟩) w := by
  have h' := h
  obtain ⟨a', c', e, h1, h2, _⟩ := h'
  simp only [Value.slice.injEq] at e
  obtain ⟨rfl, rfl, rfl⟩ := e
  cases a with
  | none =>
    have h0 : l = [] := List.length_eq_zero_iff.1 (by have := h2 rfl; omega)
    subst h0
    exact run_convert_bytes_nil w 32 5 Tryd.underlying32 Tryd.underlying5 0 c 9 Tryd.underlying9
  | some ad =>
    refine run_convert_bytes_back w 32 9 5 ad c l Tryd.underlying32 Tryd.underlying5 Tryd.underlying9 (fun j hj => ?_)
    obtain ⟨b, off, e1, e2, e3⟩ := h.at (List.getElem?_eq_getElem hj)
    cases e1
    rw [addrAdd]
    exact e3
theorem byts_one (w : World) (n : Nat) (hn : n < 10) : Byts (w.alloc (.cells #[.int .u8 (48 + (n : Int))] 5)) (.slice (some ⟨w.heap.size, 0, none⟩) 1 1) [UInt8.ofNat (48 + n)] := by
  refine ⟨_, _, rfl, Nat.le_refl _, (fun e => by cases e), fun i x hi => ⟨w.heap.size, 0, rfl, by simp, ?_⟩⟩
  have h0 : i = 0 := by have := (List.getElem?_eq_some_iff.1 hi).1; simpa using this
  subst h0
  simp only [List.getElem?_cons_zero, Option.some.injEq] at hi
  subst hi
  refine cell_new w _ _ 0 _ ?_
  have : (UInt8.ofNat (48 + n)).toNat = 48 + n := UInt8.toNat_ofNat_of_lt' (by show _ < 256; omega)
  rw [this]
  rfl
set_option maxHeartbeats 1000000 in
set_option maxRecDepth 100000 in
theorem digits_any (n : Nat) : ∀ (w : World), n ≤ 9223372036854775807 →
    Calls Tryd.prog 20 #[.int .i64 (n : Nat)] w fun e w' => e = .returned (.string ⟨(Lib.decDigits n).toArray⟩) ∧ Below w.heap.size w w' := by
  induction n using Nat.strongRecOn with
  | _ n ih =>
    intro w hn
    have hn0 : (0 : Int) ≤ (n : Int) := Int.natCast_nonneg _
    have hn1 : (n : Int) ≤ 9223372036854775807 := by omega
    by_cases h10 : n < 10
    · have h1 : (n : Int) < 10 := by omega
      have HD : Hid (Lib.decDigits n = [UInt8.ofNat (48 + n)]) := Lib.hid (Lib.decDigits_one h10)
      have hm : (48 + (n : Int)) % 256 = 48 + (n : Int) := by omega
      have hcv := convB (byts_one w n h10)
      obtain ⟨x, hx⟩ : ∃ x, x = UInt8.ofNat (48 + n) := ⟨_, rfl⟩
      rw [← hx] at hcv
      have HX := Lib.hid hx
      clear h10 hx
      go_enter Tryd.func20, Tryd.ntmps20
      go_wp2_with fail
      go_ret
      exact ⟨by rw [HD.out, ← HX.out]; rfl, (Below.refl _ _).alloc (Nat.le_refl _) _⟩
    · have h1 : 10 ≤ (n : Int) := by omega
      have HD : Hid (Lib.decDigits n = Lib.decDigits (n / 10) ++ Lib.decDigits (n % 10)) := by
        rw [Lib.decDigits, dif_neg h10, Lib.decDigits_one (i := n % 10) (by omega)]
        exact Lib.hid rfl
      have hq : (n : Int) / 10 = ((n / 10 : Nat) : Int) := by omega
      have hr : (n : Int) % 10 = ((n % 10 : Nat) : Int) := by omega
      have hle1 : ((Lib.decDigits (n / 10)).length) ≤ 21 := by
        have := Lib.itoa_length_le ((n / 10 : Nat) : Int) (by omega) (by omega)
        rwa [Lib.itoa_nonneg] at this
      have hle2 : ((Lib.decDigits (n % 10)).length) ≤ 21 := by
        have := Lib.itoa_length_le ((n % 10 : Nat) : Int) (by omega) (by omega)
        rwa [Lib.itoa_nonneg] at this
      obtain ⟨s1, hs1⟩ : ∃ s : ByteArray, s = ⟨(Lib.decDigits (n / 10)).toArray⟩ := ⟨_, rfl⟩
      obtain ⟨s2, hs2⟩ : ∃ s : ByteArray, s = ⟨(Lib.decDigits (n % 10)).toArray⟩ := ⟨_, rfl⟩
      have hz1 : s1.size ≤ 21 := by rw [hs1]; show (Lib.decDigits (n / 10)).toArray.size ≤ 21; simpa using hle1
      have hz2 : s2.size ≤ 21 := by rw [hs2]; show (Lib.decDigits (n % 10)).toArray.size ≤ 21; simpa using hle2
      have hz3 : (s1.size : Int) + (s2.size : Int) ≤ 42 := by omega
      have HS1 := Lib.hid hs1
      have HS2 := Lib.hid hs2
      have HQ := Lib.hid hq
      have HR := Lib.hid hr
      have IH1 := Lib.hid (ih (n / 10) (by omega))
      have IH2 := Lib.hid (ih (n % 10) (by omega))
      clear hs1 hs2 hq hr hle1 hle2 ih h10
      go_enter Tryd.func20, Tryd.ntmps20
      go_wp2_with fail
      rw [HQ.out]
      refine (IH1.out w (by omega)).mono ?_
      rintro e w1 ⟨rfl, hb1⟩
      rw [← HS1.out]
      have HB1 := Lib.hid hb1
      clear hb1
      go_wp2_with fail
      rw [HR.out]
      refine (IH2.out w1 (by omega)).mono ?_
      rintro e w2 ⟨rfl, hb2⟩
      rw [← HS2.out]
      have HB2 := Lib.hid (HB1.out.trans (hb2.mono HB1.out.size))
      clear hb2
      go_wp2_with fail
      go_ret
      refine ⟨?_, HB2.out⟩
      rw [HD.out, ← bytes_add, ← HS1.out, ← HS2.out]
      rfl

set_option maxHeartbeats 1000000 in
set_option maxRecDepth 100000 in
theorem refName_any (id : Int) (w : World) :
    Calls Tryd.prog 8 #[.int .i64 id] w fun e w' => e = .returned (.tuple #[.string ⟨(Sg.nameB id).toArray⟩, .int .i64 (Sg.nameE id)]) ∧ Below w.heap.size w w' := by
  by_cases hid : id < 1 ∨ 2147483647 < id
  · have HB : Hid (Sg.nameB id = []) := by unfold Sg.nameB; rw [if_pos hid]; exact Lib.hid rfl
    have HE : Hid (Sg.nameE id = 1) := by unfold Sg.nameE; rw [if_pos hid]; exact Lib.hid rfl
    rcases hid with h | h
    · go_enter Tryd.func8, Tryd.ntmps8
      go_wp2_with fail
      refine bodyPost_ret (v := .tuple #[.string ⟨#[]⟩, .int .i64 1]) (by simp [results, Tryd.results8, go_sem]) rfl ?_
      exact ⟨by rw [HB.out, HE.out], Below.refl _ _⟩
    · have h2 : 1 ≤ id := by omega
      go_enter Tryd.func8, Tryd.ntmps8
      go_wp2_with fail
      refine bodyPost_ret (v := .tuple #[.string ⟨#[]⟩, .int .i64 1]) (by simp [results, Tryd.results8, go_sem]) rfl ?_
      exact ⟨by rw [HB.out, HE.out], Below.refl _ _⟩
  · obtain ⟨n, rfl⟩ : ∃ n : Nat, id = (n : Int) := ⟨id.toNat, by omega⟩
    have h1 : 1 ≤ (n : Int) := by omega
    have h2 : (n : Int) ≤ 2147483647 := by omega
    have HB : Hid (Sg.nameB (n : Int) = [115, 101, 103, 45] ++ Lib.decDigits n) := by unfold Sg.nameB; rw [if_neg hid, Lib.itoa_nonneg]; exact Lib.hid rfl
    have HE : Hid (Sg.nameE (n : Int) = 0) := by unfold Sg.nameE; rw [if_neg hid]; exact Lib.hid rfl
    have hlen := Lib.itoa_length_le (n : Int) (by omega) (by omega)
    rw [Lib.itoa_nonneg] at hlen
    clear hid
    go_enter Tryd.func8, Tryd.ntmps8
    go_wp2_with fail
    refine (digits_any n w (by omega)).mono ?_
    rintro e w1 ⟨rfl, hb⟩
    have HBB := Lib.hid hb
    obtain ⟨s, hs⟩ : ∃ s : ByteArray, s = ⟨(Lib.decDigits n).toArray⟩ := ⟨_, rfl⟩
    have hsz : (s.size : Int) ≤ 21 := by
      rw [hs]
      show ((Lib.decDigits n).toArray.size : Int) ≤ 21
      simp
      omega
    rw [← hs]
    have HS := Lib.hid hs
    clear hs hlen hb
    go_wp2_with fail
    refine bodyPost_ret (v := .tuple #[.string (⟨#[115, 101, 103, 45]⟩ ++ s), .int .i64 0]) (by simp [results, Tryd.results8, go_sem]) rfl ?_
    exact ⟨by rw [HB.out, HE.out, HS.out, ← bytes_add], HBB.out⟩
end Go.Proofs.YtcimobbppmpmgaaDoor
