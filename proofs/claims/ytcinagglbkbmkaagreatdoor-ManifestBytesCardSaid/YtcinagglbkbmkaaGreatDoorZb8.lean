/-
  The document's frames: Sum, Four, Number, walked. The document's frames: Encode, Decode, walked. The document's frames: Decode, walked. Segments: whose name a text is. Segments: the program's ID is the document's (no program in sight). Segments: Create and Append, walked. Segments: Read, walked. The file system in calm weather: what its files hold (no program in sight).
-/
import Derived.Test.YtcinagglbkbmkaaGreatDoorZb6
import Derived.Test.YtcinagglbkbmkaaGreatDoorZb7
namespace Go.Proofs.YtcinagglbkbmkaaGreatDoor
set_option linter.unusedSimpArgs false
set_option linter.unusedVariables false
open Go Go.RowKit
open Go.Maps Go.WideMaps

theorem xorU (a b : Nat) (ha : a < 4294967296) (hb : b < 4294967296) : bits .xor .u32 (a : Int) (b : Int) = ((a ^^^ b : Nat) : Int) := u32_xor_nat a b ha hb
theorem its_take (s : ByteArray) (a : Nat) (h : a < s.size) (c : Nat) : (s.data.toList.take (a + 1)).foldl (fun c x => Fr.its 8 (c ^^^ x.toNat)) c = Fr.its 8 ((s.data.toList.take a).foldl (fun c x => Fr.its 8 (c ^^^ x.toNat)) c ^^^ (bt s a).toNat) := by
  have h' : a < s.data.toList.length := by simpa using h
  rw [List.take_add_one, List.getElem?_eq_getElem h', List.foldl_append]
  unfold bt
  rw [List.getD_eq_getElem?_getD, List.getElem?_eq_getElem h']
  rfl
set_option maxHeartbeats 1000000 in
set_option maxRecDepth 100000 in
theorem rsum_any (s : ByteArray) (w : World) (hs : s.size ≤ 9223372036854775807) :
    Calls Tryz.prog 129 #[.string s] w fun e w' => e = .returned (.int .u32 (Fr.sum s.data.toList)) ∧ w' = w := by
  have hs0 : (0 : Int) ≤ (s.size : Int) := Int.natCast_nonneg _
  go_enter Tryz.func129, Tryz.ntmps129
  go_wp2_with fail
  go_loopg [3, 4] s.size (fun k s3 s4 wr => ∃ a c : Nat, a ≤ s.size ∧ k = s.size - a ∧ s4 = .int .i64 (a : Nat) ∧ s3 = .int .u32 (c : Nat) ∧ c = (s.data.toList.take a).foldl (fun c x => Fr.its 8 (c ^^^ x.toNat)) 4294967295 ∧ c < 4294967296 ∧ wr = w)
  case atStart => exact ⟨0, 4294967295, Nat.zero_le _, by omega, rfl, rfl, rfl, by omega, rfl⟩
  case round =>
    obtain ⟨a, c, ha, hk, rfl, rfl, hc, hc4, rfl⟩ := hrel
    have HK := Lib.hid hk
    have HC := Lib.hid hc
    clear hk hc
    have ha0 : (0 : Int) ≤ (a : Int) := Int.natCast_nonneg _
    have hc0 : (0 : Int) ≤ (c : Int) := Int.natCast_nonneg _
    by_cases hlt : a < s.size
    · have hlt1 : (a : Int) < (s.size : Int) := by omega
      have HT := Lib.hid (its_take s a hlt 4294967295)
      have hxl := Fr.xor_byte hc4 (bt s a)
      have HX := xorU c (bt s a).toNat hc4 (by have := bt_lt s a; omega)
      go_wp2_with fail
      go_loopg [3, 5, 6] 8 (fun k s3 s5 s6 wq => ∃ b d : Nat, b ≤ 8 ∧ k = 8 - b ∧ s5 = .int .i64 (b : Nat) ∧ s3 = .int .u32 (d : Nat) ∧ d = Fr.its b (c ^^^ (bt s a).toNat) ∧ d < 4294967296 ∧ wq = wr)
      case atStart => exact ⟨0, c ^^^ (bt s a).toNat, Nat.zero_le _, by omega, rfl, by rw [show (((bt s a).toNat : Int) % 4294967296) = ((bt s a).toNat : Int) by have := bt_lt s a; omega, HX], rfl, hxl, rfl⟩
      case round =>
        obtain ⟨b, d, hb, hk2, rfl, rfl, hd, hd4, rfl⟩ := hrel
        have HK2 := Lib.hid hk2
        have HD := Lib.hid hd
        clear hk2 hd
        have hb0 : (0 : Int) ≤ (b : Int) := Int.natCast_nonneg _
        have hd0 : (0 : Int) ≤ (d : Int) := Int.natCast_nonneg _
        by_cases hb8 : b < 8
        · have hb81 : (b : Int) < 8 := by omega
          have hst := Fr.st_lt hd4
          have HS : Hid (Fr.its (b + 1) (c ^^^ (bt s a).toNat) = Fr.st d) := by rw [HD.out]; exact Lib.hid rfl
          rcases Nat.mod_two_eq_zero_or_one d with hm | hm
          · have hmi : (d : Int) % 2 = 0 := by omega
            have HSD : Hid (Fr.st d = d / 2) := by unfold Fr.st; rw [if_neg (by omega), Nat.xor_zero]; exact Lib.hid rfl
            go_wp2_with fail
            go_roundg (8 - (b + 1))
            case measure => rw [HK2.out]; omega
            case rel => exact ⟨b + 1, d / 2, by omega, rfl, by simp, by simp, by rw [HS.out, HSD.out], by omega, rfl⟩
          · have hmi : (d : Int) % 2 = 1 := by omega
            have HX2 := xorU (d / 2) 2197175160 (by omega) (by omega)
            have HSD : Hid (Fr.st d = d / 2 ^^^ 2197175160) := by unfold Fr.st; rw [if_pos hm]; exact Lib.hid rfl
            have hsl : d / 2 ^^^ 2197175160 < 4294967296 := by rw [← HSD.out]; exact hst
            go_wp2_with fail
            go_roundg (8 - (b + 1))
            case measure => rw [HK2.out]; omega
            case rel => exact ⟨b + 1, d / 2 ^^^ 2197175160, by omega, rfl, by simp, by simpa using HX2, by rw [HS.out, HSD.out], hsl, rfl⟩
        · obtain rfl : b = 8 := by omega
          go_wp2_with fail
          go_roundg (s.size - (a + 1))
          case measure => rw [HK.out]; omega
          case rel => exact ⟨a + 1, d, by omega, rfl, by simp, rfl, by rw [HT.out, ← HC.out]; exact HD.out, hd4, rfl⟩
    · have hlt1 : (s.size : Int) ≤ (a : Int) := by omega
      go_wp2_with fail
      go_ret
      refine ⟨congrArg (fun x => Ending.returned (.int .u32 x)) ?_, rfl⟩
      rw [Fr.sum_ref]
      have := xorU c 4294967295 hc4 (by omega)
      rw [show (4294967295 : Int) = ((4294967295 : Nat) : Int) from rfl, this]
      unfold Fr.refC
      rw [HC.out, List.take_of_length_le (by simp; omega)]
theorem bytsL {w : World} (l : List UInt8) (cs : Array Value) (fz : Nat × Nat) (hc : cs = (u8Cells l).toArray) : Byts (w.alloc (.cells cs 5 fz)) (.slice (some ⟨w.heap.size, 0, none⟩) l.length l.length) l := by
  subst hc
  refine ⟨_, _, rfl, Nat.le_refl _, (fun e => by cases e), fun i x hi => ⟨w.heap.size, 0, rfl, by simp, ?_⟩⟩
  rw [Nat.zero_add, cell_of_row _ _ _ _ _ _ (heap_new w _)]
  simp [u8Cells, hi]
set_option maxHeartbeats 1000000 in
set_option maxRecDepth 100000 in
theorem rfour_any (n : Int) (w : World) (h0 : 0 ≤ n) (h1 : n < 4294967296) :
    Calls Tryz.prog 128 #[.int .u32 n] w fun e w' => e = .returned (.string ⟨(Fr.four n).toArray⟩) ∧ Below w.heap.size w w' := by
  have hcv := convB (bytsL (w := w) (Fr.four n) #[.int .u8 (n % 256), .int .u8 (n / 256 % 256), .int .u8 (n / 65536 % 256), .int .u8 (n / 16777216)] (0, 0) (by simp [u8Cells, Fr.four, Fr.byte_val]; omega))
  have hl : (Fr.four n).length = 4 := rfl
  rw [hl] at hcv
  clear hl
  obtain ⟨t, ht⟩ : ∃ t : ByteArray, t = ⟨(Fr.four n).toArray⟩ := ⟨_, rfl⟩
  rw [← ht] at hcv ⊢
  clear ht
  go_enter Tryz.func128, Tryz.ntmps128
  go_wp2_with fail
  go_ret
  exact ⟨rfl, (Below.refl _ _).alloc (Nat.le_refl _) _⟩
theorem num_bt (s : ByteArray) : Fr.num s.data.toList = (bt s 0).toNat + 256 * (bt s 1).toNat + 65536 * (bt s 2).toNat + 16777216 * (bt s 3).toNat := rfl
set_option maxHeartbeats 1000000 in
set_option maxRecDepth 100000 in
theorem rnum_any (s : ByteArray) (w : World) (h4 : 4 ≤ s.size) :
    Calls Tryz.prog 130 #[.string s] w fun e w' => e = .returned (.int .i64 (Fr.num s.data.toList)) ∧ ∃ n, w' = w.drewN n := by
  have h41 : (4 : Int) ≤ (s.size : Int) := by omega
  have HN := Lib.hid (num_bt s)
  have b0 := bt_lt s 0
  have b1 := bt_lt s 1
  have b2 := bt_lt s 2
  have b3 := bt_lt s 3
  go_enter Tryz.func130, Tryz.ntmps130
  go_wp2_with fail
  refine wp_region_cuts [] (by kernel_rfl) (by kernel_rfl) ?_; simp only [wpMix, List.take_succ_cons, List.take_zero, List.drop_succ_cons, List.drop_zero, Nat.sub_zero, Nat.reduceSub, Nat.reduceAdd]
  repeat (go_big_quiet_step (fail))
  refine wpQuiet_nil ?_; rintro _ ⟨nq, rfl⟩
  go_wp2_with fail
  go_ret
  refine ⟨congrArg (fun x => Ending.returned (.int .i64 x)) ?_, nq, rfl⟩
  rw [HN.out]
  omega
end Go.Proofs.YtcinagglbkbmkaaGreatDoor
namespace Go.Proofs.YtcinagglbkbmkaaGreatDoor
set_option linter.unusedSimpArgs false
set_option linter.unusedVariables false
open Go Go.RowKit
open Go.Maps Go.WideMaps

theorem app_toList (a b : ByteArray) : (a ++ b).data.toList = a.data.toList ++ b.data.toList := by simp
theorem str_sz (s : ByteArray) : s.data.toList.length = s.size := by simp
/-- What 'Encode' answers. -/
def REnc (k : Int) (l : List UInt8) (e : Ending) : Prop := e = .returned (.tuple #[.string ⟨(if Fr.encE k l = 0 then Fr.bytes k l else []).toArray⟩, .int .i64 (Fr.encE k l)])
theorem REnc.bad {k : Int} {l : List UInt8} {c : Int} (h : Fr.encE k l = c) (hc : c ≠ 0) : REnc k l (.returned (.tuple #[.string ⟨#[]⟩, .int .i64 c])) := by
  unfold REnc
  rw [h, if_neg hc]
theorem REnc.ok {k : Int} {l : List UInt8} {s : ByteArray} (h : Fr.encE k l = 0) (hs : s.data.toList = Fr.bytes k l) : REnc k l (.returned (.tuple #[.string s, .int .i64 0])) := by
  unfold REnc
  rw [h, if_pos rfl, ← hs]
set_option maxHeartbeats 1000000 in
set_option maxRecDepth 100000 in
theorem renc_any (k : Int) (s : ByteArray) (w : World) (hs : s.size ≤ 9223372036854775807) :
    Calls Tryz.prog 67 #[.int .i64 k, .string s] w fun e w' => REnc k s.data.toList e ∧ Below w.heap.size w w' := by
  have hs0 : (0 : Int) ≤ (s.size : Int) := Int.natCast_nonneg _
  have hl := str_sz s
  go_enter Tryz.func67, Tryz.ntmps67
  by_cases h1 : k < 1
  · have HE : Hid (Fr.encE k s.data.toList = 1) := by unfold Fr.encE; rw [if_pos (.inl h1)]; exact Lib.hid rfl
    clear hl
    go_wp2_with fail
    refine bodyPost_ret (v := .tuple #[.string ⟨#[]⟩, .int .i64 1]) (by simp [results, Tryz.results67, go_sem]) rfl ?_
    exact ⟨REnc.bad HE.out (by decide), Below.refl _ _⟩
  by_cases h2 : 9 < k
  · have HE : Hid (Fr.encE k s.data.toList = 1) := by unfold Fr.encE; rw [if_pos (.inr h2)]; exact Lib.hid rfl
    have h1' : 1 ≤ k := by omega
    clear hl
    go_wp2_with fail
    refine bodyPost_ret (v := .tuple #[.string ⟨#[]⟩, .int .i64 1]) (by simp [results, Tryz.results67, go_sem]) rfl ?_
    exact ⟨REnc.bad HE.out (by decide), Below.refl _ _⟩
  have h1' : 1 ≤ k := by omega
  have h2' : k ≤ 9 := by omega
  by_cases h3 : 8192 < s.size
  · have HE : Hid (Fr.encE k s.data.toList = 5) := by unfold Fr.encE; rw [if_neg (by omega), if_pos (by omega)]; exact Lib.hid rfl
    have h3' : (8192 : Int) < (s.size : Int) := by omega
    clear hl
    go_wp2_with fail
    refine bodyPost_ret (v := .tuple #[.string ⟨#[]⟩, .int .i64 5]) (by simp [results, Tryz.results67, go_sem]) rfl ?_
    exact ⟨REnc.bad HE.out (by decide), Below.refl _ _⟩
  · have HE : Hid (Fr.encE k s.data.toList = 0) := by unfold Fr.encE; rw [if_neg (by omega), if_neg (by omega)]; exact Lib.hid rfl
    have h3' : (s.size : Int) ≤ 8192 := by omega
    have hcv := convB (bytsL (w := w) [Fr.byte k] #[.int .u8 k] (0, 0) (by simp [u8Cells, Fr.byte_val]; omega))
    obtain ⟨t1, ht1⟩ : ∃ t : ByteArray, t = ⟨[Fr.byte k].toArray⟩ := ⟨_, rfl⟩
    rw [← ht1] at hcv
    have hz1 : (t1.size : Int) = 1 := by rw [ht1]; rfl
    have hm1 : (s.size : Int) % 4294967296 = (s.size : Int) := by omega
    have hm2 : k % 256 = k := by omega
    have HL := Lib.hid hl
    have HT1 := Lib.hid ht1
    simp only [List.length_singleton] at hcv
    clear ht1 hl
    go_wp2_with fail
    refine (rfour_any (s.size : Int) _ hs0 (by omega)).mono ?_
    rintro e w2 ⟨rfl, hb2⟩
    obtain ⟨t2, ht2⟩ : ∃ t : ByteArray, t = ⟨(Fr.four (s.size : Int)).toArray⟩ := ⟨_, rfl⟩
    have hz2 : (t2.size : Int) = 4 := by rw [ht2]; rfl
    have HT2 := Lib.hid ht2
    rw [← ht2]
    have HB2 := Lib.hid (((Below.refl w.heap.size w).alloc (Nat.le_refl _) (.cells #[.int .u8 k] 5)).trans (hb2.mono (by simp)))
    obtain ⟨t3, ht3⟩ : ∃ t : ByteArray, t = t1 ++ s := ⟨_, rfl⟩
    have hz3 : (t3.size : Int) = 1 + (s.size : Int) := by rw [ht3]; simp; omega
    rw [← ht3]
    have HT3 := Lib.hid ht3
    clear ht2 ht3 hcv hb2
    go_wp2_with fail
    refine (rsum_any t3 w2 (by omega)).mono ?_
    rintro e w3 ⟨rfl, rfl⟩
    have hsb : 0 ≤ Fr.sum t3.data.toList ∧ Fr.sum t3.data.toList < 4294967296 := bits_u32 _ _ _
    obtain ⟨z, hz⟩ : ∃ z, z = Fr.sum t3.data.toList := ⟨_, rfl⟩
    rw [← hz] at hsb ⊢
    have HZ := Lib.hid hz
    clear hz
    go_wp2_with fail
    refine (rfour_any z _ hsb.1 hsb.2).mono ?_
    rintro e w4 ⟨rfl, hb4⟩
    obtain ⟨t4, ht4⟩ : ∃ t : ByteArray, t = ⟨(Fr.four z).toArray⟩ := ⟨_, rfl⟩
    have hz4 : (t4.size : Int) = 4 := by rw [ht4]; rfl
    have HT4 := Lib.hid ht4
    rw [← ht4]
    have HB4 := Lib.hid (HB2.out.trans (hb4.mono HB2.out.size))
    clear ht4 hb4
    go_wp2_with fail
    refine bodyPost_ret (v := .tuple #[.string (t2 ++ t3 ++ t4), .int .i64 0]) (by simp [results, Tryz.results67, go_sem]) rfl ?_
    refine ⟨REnc.ok HE.out ?_, HB4.out⟩
    rw [app_toList, app_toList, HT2.out, HT4.out, HZ.out, HT3.out, app_toList, HT1.out]
    unfold Fr.bytes Fr.inner
    rw [HL.out]
    simp
end Go.Proofs.YtcinagglbkbmkaaGreatDoor
namespace Go.Proofs.YtcinagglbkbmkaaGreatDoor
set_option linter.unusedSimpArgs false
set_option linter.unusedVariables false
open Go Go.RowKit
open Go.Maps Go.WideMaps

/-- What 'Decode' answers. -/
def RDec (l : List UInt8) (e : Ending) : Prop := e = .returned (.tuple #[.agg #[.int .i64 (if Fr.decE l = 0 then Fr.kind l else 0), .string ⟨(if Fr.decE l = 0 then Fr.pay l else []).toArray⟩], .int .i64 (Fr.decE l)])
theorem RDec.bad {l : List UInt8} {c : Int} (h : Fr.decE l = c) (hc : c ≠ 0) : RDec l (.returned (.tuple #[.agg #[.int .i64 0, .string ⟨#[]⟩], .int .i64 c])) := by
  unfold RDec
  rw [h, if_neg hc, if_neg hc]
theorem RDec.ok {l : List UInt8} {s : ByteArray} {k : Int} (h : Fr.decE l = 0) (hk : k = Fr.kind l) (hs : s.data.toList = Fr.pay l) : RDec l (.returned (.tuple #[.agg #[.int .i64 k, .string s], .int .i64 0])) := by
  unfold RDec
  rw [h, if_pos rfl, if_pos rfl, ← hs, hk]
theorem four_num {l : List UInt8} (h : l.length = 4) : Fr.four (Fr.num l : Nat) = l := by
  match l, h with
  | [a, b, c, d], _ =>
    have ha := UInt8.toNat_lt a; have hb := UInt8.toNat_lt b; have hc := UInt8.toNat_lt c; have hd := UInt8.toNat_lt d
    unfold Fr.four Fr.num
    simp only [List.getD_cons_zero, List.getD_cons_succ, List.cons.injEq, and_true]
    refine ⟨UInt8.toNat_inj.1 ?_, UInt8.toNat_inj.1 ?_, UInt8.toNat_inj.1 ?_, UInt8.toNat_inj.1 ?_⟩ <;>
    · have := Fr.byte_val ((a.toNat + 256 * b.toNat + 65536 * c.toNat + 16777216 * d.toNat : Nat) : Int)
      have := Fr.byte_val (((a.toNat + 256 * b.toNat + 65536 * c.toNat + 16777216 * d.toNat : Nat) : Int) / 256)
      have := Fr.byte_val (((a.toNat + 256 * b.toNat + 65536 * c.toNat + 16777216 * d.toNat : Nat) : Int) / 65536)
      have := Fr.byte_val (((a.toNat + 256 * b.toNat + 65536 * c.toNat + 16777216 * d.toNat : Nat) : Int) / 16777216)
      omega
theorem ext_list (s : ByteArray) (a b : Nat) : (s.extract a b).data.toList = (s.data.toList.drop a).take (b - a) := by simp
theorem ext_body (s : ByteArray) : (s.extract 4 (s.size - 4)).data.toList = Fr.body s.data.toList := by
  rw [ext_list]; unfold Fr.body; rw [str_sz]; congr 1
theorem ext_pay (s : ByteArray) : (s.extract 5 (s.size - 4)).data.toList = Fr.pay s.data.toList := by
  rw [ext_list]; unfold Fr.pay; rw [str_sz]; congr 1
theorem ext_tail (s : ByteArray) : (s.extract (s.size - 4) s.size).data.toList = s.data.toList.drop (s.data.toList.length - 4) := by
  rw [ext_list, str_sz]; exact List.take_of_length_le (by rw [List.length_drop, str_sz]; omega)
theorem four_eq {z : Int} (h0 : 0 ≤ z) (h1 : z < 4294967296) {l : List UInt8} (hl : l.length = 4) : Fr.four z = l ↔ z = (Fr.num l : Nat) := by
  constructor
  · intro h
    have := Fr.num_four z h0 h1 []
    rw [List.append_nil, h] at this
    exact this.symm
  · intro h; rw [h]; exact four_num hl
theorem rdec_end {Q : Ending → World → Prop} {a : Act} {W : World} (g : Nat) (k c : Int) (s : ByteArray) (h2 : a.tmps[2]? = some (.pointer (some ⟨g, 0, none⟩))) (h3 : a.tmps[3]? = some (.int .i64 c)) (hd : a.defers = [])
    (hW : W.heap[g]? = some (.cells #[.int .i64 k, .string s] 144 (0, 0))) (hQ : Q (.returned (.tuple #[.agg #[.int .i64 k, .string s], .int .i64 c])) W) : bodyPost Tryz.prog Tryz.f68 Q .ret a W := by
  have y0 : W.cell? ⟨g, 0, none⟩ = some (.int .i64 k) := root_cell hW 0 _ rfl
  have y1 : W.cell? ⟨g, 1, none⟩ = some (.string s) := root_cell hW 1 _ rfl
  exact bodyPost_ret (v := .tuple #[.agg #[.int .i64 k, .string s], .int .i64 c]) (by simp [results, Tryz.results68, go_sem, h2, h3, y0, y1]) hd hQ
theorem rdec_end2 {l : List UInt8} {a : Act} {w : World} (n : Nat) (k c : Int) (s : ByteArray) (h2 : a.tmps[2]? = some (.pointer (some ⟨w.heap.size, 0, none⟩))) (h3 : a.tmps[3]? = some (.int .i64 c)) (hd : a.defers = []) (hQ : RDec l (.returned (.tuple #[.agg #[.int .i64 k, .string s], .int .i64 c]))) :
    bodyPost Tryz.prog Tryz.f68 (fun e w' => RDec l e ∧ Below w.heap.size w w') .ret a ((((w.alloc (.cells #[.int .i64 0, .string ⟨#[]⟩] 144)).drewN n).setCell ⟨w.heap.size, 0, none⟩ (.int .i64 k)).setCell ⟨w.heap.size, 1, none⟩ (.string s)) := by
  have h0 : ((w.alloc (.cells #[.int .i64 0, .string ⟨#[]⟩] 144)).drewN n).heap[w.heap.size]? = some (.cells #[.int .i64 0, .string ⟨#[]⟩] 144 (0, 0)) := heap_new w _
  refine rdec_end w.heap.size k c s h2 h3 hd (heap_set (heap_set h0 _) _) ⟨hQ, ?_⟩
  exact ((Below.drewN ((Below.refl _ _).alloc (Nat.le_refl _) _) n).setCell (p := ⟨w.heap.size, 0, none⟩) (Nat.le_refl _) _).setCell (p := ⟨w.heap.size, 1, none⟩) (Nat.le_refl _) _
set_option maxHeartbeats 1000000 in
set_option maxRecDepth 100000 in
theorem rdec_any (s : ByteArray) (w : World) (hs : s.size ≤ 9223372036854775807) :
    Calls Tryz.prog 68 #[.string s] w fun e w' => RDec s.data.toList e ∧ Below w.heap.size w w' := by
  have hs0 : (0 : Int) ≤ (s.size : Int) := Int.natCast_nonneg _
  have hl := str_sz s
  go_enter Tryz.func68, Tryz.ntmps68
  by_cases h9 : s.size < 9
  · have h9' : (s.size : Int) < 9 := by omega
    have HE : Hid (Fr.decE s.data.toList = 2) := by unfold Fr.decE; rw [if_pos (.inl (by omega))]; exact Lib.hid rfl
    clear hl
    go_wp2_with fail
    refine rdec_end _ 0 2 ⟨#[]⟩ rfl rfl rfl (heap_new w _) ⟨RDec.bad HE.out (by decide), (Below.refl _ _).alloc (Nat.le_refl _) _⟩
  · have h9' : 9 ≤ (s.size : Int) := by omega
    obtain ⟨N, hN⟩ : ∃ N, N = Fr.num s.data.toList := ⟨_, rfl⟩
    have hN0 : (0 : Int) ≤ (N : Int) := Int.natCast_nonneg _
    have HL := Lib.hid hl
    have HN := Lib.hid hN
    clear hl hN
    go_wp2_with fail
    refine (rnum_any s _ (by omega)).mono ?_
    rintro e w1 ⟨rfl, n1, rfl⟩
    rw [← HN.out]
    by_cases hn : (N : Int) = (s.size : Int) - 9
    · have hn1 : ((N : Int) != (s.size : Int) - 9) = false := by rw [bne_eq_false_iff_eq]; exact hn
      have HNE := Lib.hid hn
      clear hn
      go_wp2_with fail
      refine (rnum_any s _ (by omega)).mono ?_
      rintro e w2 ⟨rfl, n2, rfl⟩
      rw [← HN.out]
      by_cases hbig : 8192 < N
      · have hbig' : (8192 : Int) < (N : Int) := by omega
        have HE : Hid (Fr.decE s.data.toList = 2) := by unfold Fr.decE; rw [if_pos (by have := HL.out; have := HNE.out; omega)]; exact Lib.hid rfl
        go_wp2_with fail
        exact rdec_end2 _ 0 2 ⟨#[]⟩ rfl rfl rfl (RDec.bad HE.out (by decide))
      · have hbig' : (N : Int) ≤ 8192 := by omega
        have HK : Hid (Fr.kind s.data.toList = ((bt s 4).toNat : Int)) := Lib.hid rfl
        have hb4 := bt_lt s 4
        by_cases hk1 : (bt s 4).toNat < 1
        · have hk1' : ((bt s 4).toNat : Int) < 1 := by omega
          have HE : Hid (Fr.decE s.data.toList = 1) := by unfold Fr.decE; rw [if_neg (by have := HL.out; have := HN.out; have := HNE.out; omega), if_pos (by rw [HK.out]; omega)]; exact Lib.hid rfl
          go_wp2_with fail
          exact rdec_end2 _ 0 1 ⟨#[]⟩ rfl rfl rfl (RDec.bad HE.out (by decide))
        have hk1' : (1 : Int) ≤ ((bt s 4).toNat : Int) := by omega
        by_cases hk2 : 9 < (bt s 4).toNat
        · have hk2' : (9 : Int) < ((bt s 4).toNat : Int) := by omega
          have HE : Hid (Fr.decE s.data.toList = 1) := by unfold Fr.decE; rw [if_neg (by have := HL.out; have := HN.out; have := HNE.out; omega), if_pos (by rw [HK.out]; omega)]; exact Lib.hid rfl
          go_wp2_with fail
          exact rdec_end2 _ 0 1 ⟨#[]⟩ rfl rfl rfl (RDec.bad HE.out (by decide))
        have hk2' : ((bt s 4).toNat : Int) ≤ 9 := by omega
        go_wp2_with fail
        have hz5 : (s.extract 4 (s.size - 4)).size ≤ 9223372036854775807 := by simp; omega
        have hsb : 0 ≤ Fr.sum (s.extract 4 (s.size - 4)).data.toList ∧ Fr.sum (s.extract 4 (s.size - 4)).data.toList < 4294967296 := bits_u32 _ _ _
        obtain ⟨z, hz⟩ : ∃ z, z = Fr.sum (s.extract 4 (s.size - 4)).data.toList := ⟨_, rfl⟩
        have HSUM : Hid (∀ x : Later ((w.alloc (.cells #[.int .i64 0, .string ⟨#[]⟩] 144)).drewN (n1 + n2)), Calls Tryz.prog 129 #[.string (s.extract 4 (s.size - 4))] x.1 fun e w' => e = .returned (.int .u32 z) ∧ w' = x.1) :=
          Lib.hid fun x => by rw [hz]; exact rsum_any _ _ hz5
        rw [← hz] at hsb
        obtain ⟨tf, htf⟩ : ∃ t : ByteArray, t = ⟨(Fr.four z).toArray⟩ := ⟨_, rfl⟩
        have HFOUR : Hid (∀ x : Later ((w.alloc (.cells #[.int .i64 0, .string ⟨#[]⟩] 144)).drewN (n1 + n2)), Calls Tryz.prog 128 #[.int .u32 z] x.1 fun e w' => e = .returned (.string tf) ∧ Below x.1.heap.size x.1 w') :=
          Lib.hid fun x => by rw [htf]; exact rfour_any z _ hsb.1 hsb.2
        have HZ := Lib.hid hz
        have HTF := Lib.hid htf
        clear hz htf hz5
        refine wp_region_later (by kernel_rfl) (by kernel_rfl) ?_
        repeat (go_big_quiet_step ((first | (with_reducible exact Later.call_same (v := .int .u32 z) (HSUM.out _)) | (with_reducible exact Later.call (v := .string tf) (HFOUR.out _)))))
        refine wpQuiet_nil ?_; rintro w4 ⟨⟨_, hb4⟩, rfl⟩
        have HB4 := Lib.hid hb4
        obtain ⟨c, hc⟩ : ∃ c : Bool, c = (tf.toList == (s.extract (s.size - 4) s.size).toList) := ⟨_, rfl⟩
        rw [← hc]
        have hcE : c = decide (Fr.sum (Fr.body s.data.toList) = (Fr.num (s.data.toList.drop (s.data.toList.length - 4)) : Nat)) := by
          have h4 : (s.data.toList.drop (s.data.toList.length - 4)).length = 4 := by rw [List.length_drop, str_sz]; omega
          rw [hc, ByteArray.toList_eq, ByteArray.toList_eq, Bool.eq_iff_iff, beq_iff_eq, decide_eq_true_eq, HTF.out, ext_tail, ← ext_body, ← HZ.out]
          exact four_eq hsb.1 hsb.2 h4
        have HD : Hid (Fr.decE s.data.toList = if Fr.sum (Fr.body s.data.toList) ≠ (Fr.num (s.data.toList.drop (s.data.toList.length - 4)) : Nat) then 6 else 0) := by
          unfold Fr.decE; rw [if_neg (by have := HL.out; have := HN.out; have := HNE.out; omega), if_neg (by rw [HK.out]; omega)]; exact Lib.hid rfl
        have hr4 : w4.heap[w.heap.size]? = some (.cells #[.int .i64 0, .string ⟨#[]⟩] 144 (0, 0)) := (hb4.block _ (by show _ < ((w.alloc _).drewN _).heap.size; simp [World.drewN])).trans (heap_new w _)
        have HR4 := Lib.hid hr4
        have HBW : Hid (Below w.heap.size w w4) := Lib.hid ((Below.drewN ((Below.refl _ _).alloc (Nat.le_refl _) (.cells #[.int .i64 0, .string ⟨#[]⟩] 144)) (n1 + n2)).trans (hb4.mono (by show _ ≤ ((w.alloc _).drewN _).heap.size; simp [World.drewN])))
        have q0 := root_frozen hr4 0
        have q1 := root_frozen hr4 1
        have p0 := root_cell hr4 0 _ rfl
        have p1 := root_cell hr4 1 _ rfl
        clear hb4 hc hr4
        cases c
        · have HE : Hid (Fr.decE s.data.toList = 6) := by rw [HD.out, if_pos (of_decide_eq_false hcE.symm)]; exact Lib.hid rfl
          clear hcE
          go_wp2_with fail
          exact rdec_end w.heap.size 0 6 ⟨#[]⟩ rfl rfl rfl (heap_set (heap_set HR4.out _) _) ⟨RDec.bad HE.out (by decide), (HBW.out.setCell (p := ⟨w.heap.size, 0, none⟩) (Nat.le_refl _) _).setCell (p := ⟨w.heap.size, 1, none⟩) (Nat.le_refl _) _⟩
        · have HE : Hid (Fr.decE s.data.toList = 0) := by rw [HD.out, if_neg (by have := of_decide_eq_true hcE.symm; intro h; exact h this)]; exact Lib.hid rfl
          clear hcE
          go_wp2_with fail
          refine wp_region_cuts [9] (by kernel_rfl) (by kernel_rfl) ?_; simp only [wpMix, List.take_succ_cons, List.take_zero, List.drop_succ_cons, List.drop_zero, Nat.sub_zero, Nat.reduceSub, Nat.reduceAdd]
          repeat (go_big_quiet_step (fail))
          refine wpQuiet_nil ?_; rintro _ ⟨nq, rfl⟩
          go_wp2
          repeat (go_big_quiet_step (fail))
          refine wpQuiet_nil ?_; rintro _ ⟨nq, rfl⟩
          go_wp2_with fail
          rename_i na
          have hr5 : (w4.drewN na).heap[w.heap.size]? = some (.cells #[.int .i64 0, .string ⟨#[]⟩] 144 (0, 0)) := HR4.out
          refine rdec_end w.heap.size ((bt s 4).toNat : Int) 0 (s.extract 5 (s.size - 4)) rfl rfl rfl (heap_set (heap_set hr5 _) _) ⟨RDec.ok HE.out HK.out.symm (ext_pay s), ?_⟩
          exact Below.drewN (((Below.drewN HBW.out na).setCell (p := ⟨w.heap.size, 0, none⟩) (Nat.le_refl _) _).setCell (p := ⟨w.heap.size, 1, none⟩) (Nat.le_refl _) _) nq
    · have hn1 : ((N : Int) != (s.size : Int) - 9) = true := by rw [bne_iff_ne]; exact hn
      have HE : Hid (Fr.decE s.data.toList = 2) := by unfold Fr.decE; rw [if_pos (by have := HL.out; have := HN.out; omega)]; exact Lib.hid rfl
      clear hn
      go_wp2_with fail
      exact rdec_end2 _ 0 2 ⟨#[]⟩ rfl rfl rfl (RDec.bad HE.out (by decide))
end Go.Proofs.YtcinagglbkbmkaaGreatDoor
namespace Go.Proofs.YtcinagglbkbmkaaGreatDoor
set_option linter.unusedSimpArgs false
set_option linter.unusedVariables false
open Go Go.RowKit
open Go.Maps Go.WideMaps

namespace Sg
def seg : List UInt8 := [115, 101, 103, 45]
def isDig (c : UInt8) : Bool := decide (48 ≤ c.toNat) && decide (c.toNat ≤ 57)
def dval (l : List UInt8) : Nat := l.foldl (fun n c => n * 10 + (c.toNat - 48)) 0
/-- The document's answer. -/
def refId (l : List UInt8) : Int :=
  if l.length < 5 ∨ 14 < l.length ∨ l.take 4 ≠ seg then 0
  else if (l.drop 4).all isDig = false then 0
  else if nameE (dval (l.drop 4)) ≠ 0 ∨ nameB (dval (l.drop 4)) ≠ l then 0
  else dval (l.drop 4)
/-- The program's. -/
def idOf (l : List UInt8) : Int :=
  match Lib.atoiAll (Lib.trimPrefix l seg) with
  | .ok v => if Lib.hasPrefix l seg = true ∧ nameE v = 0 ∧ nameB v = l then v else 0
  | _ => 0
end Sg

end Go.Proofs.YtcinagglbkbmkaaGreatDoor
namespace Go.Proofs.YtcinagglbkbmkaaGreatDoor
set_option linter.unusedSimpArgs false
set_option linter.unusedVariables false
open Go Go.RowKit

namespace Sg
theorem dig_ok (n : Nat) (h : n < 10) : (UInt8.ofNat (48 + n)).toNat = 48 + n := UInt8.toNat_ofNat_of_lt' (by show _ < 256; omega)
/-- Digits' value. -/
theorem dval_dec (n : Nat) : ∀ (a : Nat), (Lib.decDigits n).foldl (fun n c => n * 10 + (c.toNat - 48)) a = a * 10 ^ (Lib.decDigits n).length + n ∧ (Lib.decDigits n).all isDig = true := by
  induction n using Nat.strongRecOn with
  | _ n ih =>
    intro a
    by_cases h : n < 10
    · rw [Lib.decDigits_one h]
      refine ⟨?_, ?_⟩
      · simp only [List.foldl_cons, List.foldl_nil, List.length_singleton, Nat.pow_one, dig_ok n h]
        omega
      · simp only [List.all_cons, List.all_nil, isDig, dig_ok n h]
        simp
        omega
    · have he : Lib.decDigits n = Lib.decDigits (n / 10) ++ Lib.decDigits (n % 10) := by
        rw [Lib.decDigits, dif_neg h, Lib.decDigits_one (i := n % 10) (by omega)]
      obtain ⟨h1, h2⟩ := ih (n / 10) (by omega) a
      obtain ⟨h3, h4⟩ := ih (n % 10) (by omega) (a * 10 ^ (Lib.decDigits (n / 10)).length + n / 10)
      rw [he, List.foldl_append, h1, h3, List.all_append, h2, h4, List.length_append, Nat.pow_add]
      have hl : (Lib.decDigits (n % 10)).length = 1 := by rw [Lib.decDigits_one (by omega)]; rfl
      rw [hl, Nat.pow_one]
      refine ⟨?_, rfl⟩
      rw [Nat.add_mul, Nat.mul_assoc]
      omega
theorem dec_ne (n : Nat) : Lib.decDigits n ≠ [] := by
  intro h
  have := Lib.decDigits_length n
  have h2 := Lib.nDigits_pos n
  rw [h] at this
  simp at this
  omega
/-- What the library's parse makes of digits. -/
theorem parse_digits : ∀ (l : List UInt8) (a : Nat), l.all isDig = true → l.foldl (fun n c => n * 10 + (c.toNat - 48)) a < 18446744073709551616 →
    Lib.parseUint10 a l = .ok (l.foldl (fun n c => n * 10 + (c.toNat - 48)) a)
  | [], a, _, _ => rfl
  | c :: r, a, hd, hb => by
    simp only [List.all_cons, Bool.and_eq_true] at hd
    have hc := hd.1
    unfold isDig at hc
    simp only [Bool.and_eq_true, decide_eq_true_eq] at hc
    rw [List.foldl_cons] at hb ⊢
    have hge : ∀ (l : List UInt8) (b : Nat), b ≤ l.foldl (fun n c => n * 10 + (c.toNat - 48)) b := by
      intro l
      induction l with
      | nil => intro b; exact Nat.le_refl _
      | cons x l ih => intro b; rw [List.foldl_cons]; have := ih (b * 10 + (x.toNat - 48)); omega
    have h1 := hge r (a * 10 + (c.toNat - 48))
    unfold Lib.parseUint10
    rw [if_pos hc, if_neg (by omega), if_neg (by omega)]
    exact parse_digits r _ hd.2 hb
theorem atoi_dec (n : Nat) (h : n < 9223372036854775808) : Lib.atoiAll (Lib.decDigits n) = .ok (n : Int) := by
  obtain ⟨h1, h2⟩ := dval_dec n 0
  rw [Nat.zero_mul, Nat.zero_add] at h1
  have hp := parse_digits (Lib.decDigits n) 0 h2 (by rw [h1]; omega)
  rw [h1] at hp
  have hne := dec_ne n
  cases hl : Lib.decDigits n with
  | nil => exact absurd hl hne
  | cons c r =>
    have hc : isDig c = true := by
      rw [hl] at h2
      simp only [List.all_cons, Bool.and_eq_true] at h2
      exact h2.1
    unfold isDig at hc
    simp only [Bool.and_eq_true, decide_eq_true_eq] at hc
    unfold Lib.atoiAll
    rw [hl] at hp
    simp only
    rw [if_neg (by omega)]
    unfold Lib.parseMag
    rw [if_neg (by simp), hp]
    have hc45 : ¬ c.toNat = 45 := by omega
    simp only [hc45, not_false_eq_true, true_and, false_and, if_false]
    rw [if_neg (by omega)]
theorem name_of {id : Int} (h : nameE id = 0) : 1 ≤ id ∧ id ≤ 2147483647 ∧ nameB id = seg ++ Lib.decDigits id.toNat := by
  unfold nameE at h
  have hid : ¬ (id < 1 ∨ 2147483647 < id) := by
    intro hc
    rw [if_pos hc] at h
    cases h
  refine ⟨by omega, by omega, ?_⟩
  unfold nameB
  rw [if_neg hid]
  have : Lib.itoa id = Lib.decDigits id.toNat := by
    have := Lib.itoa_nonneg id.toNat
    rwa [show ((id.toNat : Nat) : Int) = id by omega] at this
  rw [this]
  rfl
theorem trim_seg (r : List UInt8) : Lib.trimPrefix (seg ++ r) seg = r ∧ Lib.hasPrefix (seg ++ r) seg = true := by
  have h : Lib.hasPrefix (seg ++ r) seg = true := by
    unfold Lib.hasPrefix
    rw [List.isPrefixOf_iff_prefix]
    exact List.prefix_append _ _
  refine ⟨?_, h⟩
  unfold Lib.trimPrefix
  rw [if_pos h]
  rfl
/-- A name's id is told by both. -/
theorem id_name {id : Int} (h : nameE id = 0) : idOf (nameB id) = id ∧ refId (nameB id) = id := by
  obtain ⟨h1, h2, h3⟩ := name_of h
  obtain ⟨n, rfl⟩ : ∃ n : Nat, id = n := ⟨id.toNat, by omega⟩
  rw [Int.toNat_natCast] at h3
  obtain ⟨t1, t2⟩ := trim_seg (Lib.decDigits n)
  obtain ⟨d1, d2⟩ := dval_dec n 0
  rw [Nat.zero_mul, Nat.zero_add] at d1
  have hlen : (Lib.decDigits n).length ≤ 10 := by
    rw [Lib.decDigits_length]
    have hn : n ≤ 2147483647 := by omega
    rcases Nat.lt_or_ge 10 (Lib.nDigits n) with hgt | hle
    · exfalso
      have : ∀ k u, Lib.nDigits u = k + 1 → 1 ≤ u → 10 ^ k ≤ u := by
        intro k
        induction k with
        | zero => intro u _ hu; simpa using hu
        | succ k ih =>
          intro u hu h1u
          by_cases hs : u < 10
          · rw [Lib.nDigits_small hs] at hu; omega
          · rw [Lib.nDigits_big hs] at hu
            have := ih (u / 10) (by omega) (by omega)
            rw [Nat.pow_succ]
            omega
      have h4 := this (Lib.nDigits n - 1) n (by omega) (by omega)
      have h5 : 10 ^ 10 ≤ 10 ^ (Lib.nDigits n - 1) := Nat.pow_le_pow_right (by omega) (by omega)
      omega
    · exact hle
  have hlen1 : 1 ≤ (Lib.decDigits n).length := by
    have := dec_ne n
    cases hx : Lib.decDigits n with
    | nil => exact absurd hx this
    | cons c r => simp
  have hdrop : (seg ++ Lib.decDigits n).drop 4 = Lib.decDigits n := rfl
  have htake : (seg ++ Lib.decDigits n).take 4 = seg := rfl
  have hl4 : (seg ++ Lib.decDigits n).length = 4 + (Lib.decDigits n).length := by rw [List.length_append]; rfl
  constructor
  · unfold idOf
    rw [h3, t1, atoi_dec n (by omega)]
    show (if _ then _ else _) = _
    rw [if_pos ⟨t2, h, h3⟩]
  · unfold refId
    have hdv : dval ((nameB (n : Int)).drop 4) = n := by rw [h3, hdrop]; exact d1
    rw [hdv]
    rw [if_neg (by rw [h3, hl4, htake]; simp; omega), if_neg (by rw [h3, hdrop, d2]; simp), if_neg (by rw [h]; simp)]
end Sg
end Go.Proofs.YtcinagglbkbmkaaGreatDoor
namespace Go.Proofs.YtcinagglbkbmkaaGreatDoor
set_option linter.unusedSimpArgs false
set_option linter.unusedVariables false
open Go Go.RowKit
open Go.Maps Go.WideMaps

theorem OpPost.refl {base B : Nat} {st : Fs.St} {V : FsV} {own : Nat → Tag} {w : World} (h : FsOK base B st V own w) : OpPost base B st own w w := ⟨V, own, h, fun _ _ => rfl, Kept.refl _ _ _⟩
theorem OpPost.of {base B : Nat} {st : Fs.St} {V : FsV} {own : Nat → Tag} {w w' : World} (h : FsOK base B st V own w) (hb : Below w.heap.size w w') : OpPost base B st own w w' := ⟨V, own, h.kept (kept_below hb), fun _ _ => rfl, kept_below hb⟩
theorem OpPost.step {base B : Nat} {st' : Fs.St} {own own' : Nat → Tag} {w w1 w2 : World} (hk1 : Kept own (· ≠ .other) w w1) (ho1 : ∀ k, k < w.heap.size → own' k = own k) (h2 : OpPost base B st' own' w1 w2) : OpPost base B st' own w w2 := by
  obtain ⟨V2, own2, h, ho2, hk2⟩ := h2
  refine ⟨V2, own2, h, fun k hk => (ho2 k (Nat.lt_of_lt_of_le hk hk1.size)).trans (ho1 k hk), hk2.os.trans hk1.os, hk2.tape.trans hk1.tape, hk2.output.trans hk1.output, Nat.le_trans hk1.size hk2.size, fun k hk ht => ?_⟩
  rw [hk2.block k (Nat.lt_of_lt_of_le hk hk1.size) (by rw [ho1 k hk]; exact ht)]
  exact hk1.block k hk ht
theorem OpPost.below0 {base B : Nat} {st st' : Fs.St} {V : FsV} {own : Nat → Tag} {w w' : World} (h : FsOK base B st V own w) (hp : OpPost base B st' own w w') (hbase : base ≤ w.heap.size) : Below base w w' := by
  obtain ⟨_, _, _, _, hk⟩ := hp
  exact ⟨hk.os, hk.tape, hk.output, hk.size, fun k hk2 => hk.block k (Nat.lt_of_lt_of_le hk2 hbase) (by rw [h.old k hk2]; simp)⟩

namespace Sg
def create (st : Fs.St) (id : Int) : Fs.St × Int :=
  if nameE id ≠ 0 then (st, nameE id) else if (Fs.create st (nameB id)).2 ≠ 0 then Fs.create st (nameB id) else Fs.syncDir (Fs.create st (nameB id)).1
def append (st : Fs.St) (id k : Int) (p : List UInt8) : Fs.St × Int :=
  if nameE id ≠ 0 then (st, nameE id) else if Fr.encE k p ≠ 0 then (st, Fr.encE k p)
  else if (Fs.append st (nameB id) (Fr.bytes k p)).2 ≠ 0 then Fs.append st (nameB id) (Fr.bytes k p) else Fs.sync (Fs.append st (nameB id) (Fr.bytes k p)).1 (nameB id)
end Sg
/-- Sizes within reach. -/
structure Fs.Small (st : Fs.St) : Prop where
  files : st.files.length ≤ 800000
  dir : st.dir.length ≤ 800000
  changes : st.changes.length ≤ 800000
  file : ∀ f ∈ st.files, f.1.length ≤ 65536
  room : 0 ≤ st.room ∧ st.room ≤ 1048576

end Go.Proofs.YtcinagglbkbmkaaGreatDoor
namespace Go.Proofs.YtcinagglbkbmkaaGreatDoor
set_option linter.unusedSimpArgs false
set_option linter.unusedVariables false
open Go Go.RowKit
open Go.Maps Go.WideMaps

namespace Sg
abbrev En := Int × Fr.F
def badE : List Int → Int
  | [] => 0
  | id :: r => if nameE id ≠ 0 then nameE id else badE r
theorem badE_cons (id : Int) (r : List Int) : badE (id :: r) = if nameE id ≠ 0 then nameE id else badE r := rfl
def readGo (st : Fs.St) : List Int → List En → Bool → List En × Bool × Int
  | [], out, wh => (out, wh, 0)
  | id :: r, out, wh =>
    if Fs.openE st (nameB id) ≠ 0 then ([], false, Fs.openE st (nameB id))
    else readGo st r (out ++ (Fr.scan (Fs.fileAt st (nameB id))).1.map (fun f => (id, f))) (decide ((Fr.scan (Fs.fileAt st (nameB id))).2 = (Fs.fileAt st (nameB id)).length))
def read (st : Fs.St) (ids : List Int) : List En × Bool × Int := if badE ids ≠ 0 then ([], false, badE ids) else readGo st ids [] true
theorem readGo_cons (st : Fs.St) (id : Int) (r : List Int) (out : List En) (wh : Bool) : readGo st (id :: r) out wh =
    if Fs.openE st (nameB id) ≠ 0 then ([], false, Fs.openE st (nameB id))
    else readGo st r (out ++ (Fr.scan (Fs.fileAt st (nameB id))).1.map (fun f => (id, f))) (decide ((Fr.scan (Fs.fileAt st (nameB id))).2 = (Fs.fileAt st (nameB id)).length)) := rfl
end Sg
theorem frCells_get : ∀ (ps : List (Fr.F × Value)) (i : Nat) (p : Fr.F × Value), ps[i]? = some p → (frCells ps)[i * 2]? = some (.int .i64 p.1.1) ∧ (frCells ps)[i * 2 + 1]? = some p.2
  | [], i, p, h => by simp at h
  | q :: ps, 0, p, h => by
    simp at h; subst h
    exact ⟨rfl, rfl⟩
  | q :: ps, i + 1, p, h => by
    have := frCells_get ps i p (by simpa using h)
    rw [show (i + 1) * 2 = i * 2 + 1 + 1 by omega]
    exact this
theorem FrAt.at {w : World} {base g n cap : Nat} {ps : List (Fr.F × Value)} (h : FrAt w base (.slice (some ⟨g, 0, none⟩) n cap) ps) {i : Nat} {p : Fr.F × Value} (hi : ps[i]? = some p) :
    w.cell? ⟨g, i * 2, none⟩ = some (.int .i64 p.1.1) ∧ w.cell? ⟨g, i * 2 + 1, none⟩ = some p.2 := by
  obtain ⟨h1, h2⟩ := frCells_get ps i p hi
  have c1 := World.ownsRow.cells h.row (g := g) rfl _ _ h1
  have c2 := World.ownsRow.cells h.row (g := g) rfl _ _ h2
  rw [addr_add] at c1 c2
  exact ⟨c1, c2⟩
/-- A slice of ints. -/
def Ints (w : World) (v : Value) (l : List Int) : Prop :=
  ∃ a cap, v = .slice a l.length cap ∧ ∀ (i : Nat) x, l[i]? = some x → ∃ b off, a = some ⟨b, off, none⟩ ∧ b < w.heap.size ∧ w.cell? ⟨b, off + i, none⟩ = some (.int .i64 x)
theorem Ints.form {w : World} {v : Value} {l : List Int} (h : Ints w v l) : ∃ a cap, v = .slice a l.length cap := by
  obtain ⟨a, cap, h1, _⟩ := h
  exact ⟨a, cap, h1⟩
theorem Ints.at {w : World} {a : Option Addr} {n cap : Nat} {l : List Int} (h : Ints w (.slice a n cap) l) {i : Nat} {x : Int} (hi : l[i]? = some x) :
    ∃ b off, a = some ⟨b, off, none⟩ ∧ b < w.heap.size ∧ w.cell? ⟨b, off + i, none⟩ = some (.int .i64 x) := by
  obtain ⟨a', cap', h1, h2⟩ := h
  obtain ⟨b, off, e, h3, h4⟩ := h2 i x hi
  simp only [Value.slice.injEq] at h1
  exact ⟨b, off, by rw [h1.1, e], h3, h4⟩
theorem Ints.below {w w' : World} {v : Value} {l : List Int} (h : Ints w v l) (hb : Below w.heap.size w w') : Ints w' v l := by
  obtain ⟨a, cap, h1, h3⟩ := h
  refine ⟨a, cap, h1, fun i x hi => ?_⟩
  obtain ⟨b, off, e, h4, h5⟩ := h3 i x hi
  exact ⟨b, off, e, Nat.lt_of_lt_of_le h4 hb.size, by rw [World.cell?_of_block (hb.block b h4)]; exact h5⟩

def enCells (ps : List (Sg.En × Value)) : List Value := ps.flatMap fun p => [.int .i64 p.1.1, .int .i64 p.1.2.1, p.2]
/-- Entries in memory of the call's own. -/
structure EnAt (w : World) (base : Nat) (v : Value) (ps : List (Sg.En × Value)) : Prop where
  row : w.ownsRow base 209 3 v ps.length (enCells ps)
  pay : ∀ p ∈ ps, OwnB w base p.2 p.1.2.2
  apart : ∀ p ∈ ps, ∀ g, p.2.ownBlock = some g → v.ownBlock ≠ some g
theorem EnAt.keep {w w' : World} {base : Nat} {v : Value} {ps : List (Sg.En × Value)} (h : EnAt w base v ps) (hb : Below w.heap.size w w') : EnAt w' base v ps :=
  ⟨row_kept h.row (fun g hg => hb.block g (h.row.lt g hg).2), fun p hp => (h.pay p hp).keep hb, h.apart⟩
theorem EnAt.nil (w : World) (base : Nat) : EnAt w base (.slice none 0 0) [] := ⟨World.ownsRow_nil _ _ _ _, fun p h => by simp at h, fun p h => by simp at h⟩
/-- One entry more. -/
theorem EnAt.more {w w5 : World} {base : Nat} {v v' x : Value} {ps : List (Sg.En × Value)} {f : Sg.En} (h : EnAt w base v ps) (hx : OwnB w base x f.2.2) (hne : ∀ g, x.ownBlock = some g → v.ownBlock ≠ some g)
    (hrow : w5.ownsRow base 209 3 v' (ps.length + 1) (enCells ps ++ [.int .i64 f.1, .int .i64 f.2.1, x])) (hg : w.grownBy w5 v.ownBlock) (hloc : v'.ownBlock = v.ownBlock ∨ v'.ownBlock = some w.heap.size) :
    EnAt w5 base v' (ps ++ [(f, x)]) := by
  have hk : ∀ (y : Value) (l : List UInt8), OwnB w base y l → (∀ g, y.ownBlock = some g → v.ownBlock ≠ some g) → OwnB w5 base y l ∧ (∀ g, y.ownBlock = some g → v'.ownBlock ≠ some g) := fun y l hy hn =>
    ⟨row_kept hy (fun g hg2 => hg.block g (hy.lt g hg2).2 (fun e => hn g hg2 e.symm)), fun g hg2 => by
      rcases hloc with e | e
      · rw [e]; exact hn g hg2
      · rw [e]
        intro e2
        have := (hy.lt g hg2).2
        simp at e2
        omega⟩
  refine ⟨?_, fun p hp => ?_, fun p hp => ?_⟩
  · rw [List.length_append]
    unfold enCells at hrow ⊢
    rw [List.flatMap_append]
    exact hrow
  · rcases List.mem_append.1 hp with hp | hp
    · exact (hk p.2 p.1.2.2 (h.pay p hp) (h.apart p hp)).1
    · simp at hp; subst hp; exact (hk x f.2.2 hx hne).1
  · rcases List.mem_append.1 hp with hp | hp
    · exact (hk p.2 p.1.2.2 (h.pay p hp) (h.apart p hp)).2
    · simp at hp; subst hp; exact (hk x f.2.2 hx hne).2
end Go.Proofs.YtcinagglbkbmkaaGreatDoor
namespace Go.Proofs.YtcinagglbkbmkaaGreatDoor
set_option linter.unusedSimpArgs false
set_option linter.unusedVariables false
open Go Go.RowKit

namespace Fs
/-- No power goes; no step is planned to fail. -/
def Calm (st : St) : Prop := st.left = -1 ∧ st.plan = []
theorem step_calm {st : St} (h : Calm st) : step st = ({ st with steps := wrap64 (st.steps + 1) }, 0, 0) := by
  obtain ⟨h1, h2⟩ := h
  unfold step
  rw [if_neg (by omega), h2, if_neg (by omega)]
  cases st
  simp only at h1 h2
  subst h1 h2
  rfl
theorem mem_mins (x : List UInt8 × Int) : ∀ l : Names, (mins x l).Perm (x :: l)
  | [] => List.Perm.refl _
  | y :: r => by
    unfold mins
    split
    · exact List.Perm.refl _
    · exact ((mem_mins x r).cons y).trans (List.Perm.swap x y r)
theorem mdel_none {l : Names} {k : List UInt8} (h : mhas l k = false) : mdel l k = l := by
  unfold mdel
  rw [List.filter_eq_self]
  intro p hp
  unfold mhas at h
  rw [List.any_eq_false] at h
  have := h p hp
  simpa using this
theorem mput_new {l : Names} {k : List UInt8} (h : mhas l k = false) (v : Int) : (mput l k v).Perm ((k, v) :: l) := by
  unfold mput
  rw [mdel_none h]
  exact mem_mins _ _
theorem mhas_perm {l l' : Names} (h : l.Perm l') (k : List UInt8) : mhas l k = mhas l' k := by
  unfold mhas
  rw [Bool.eq_iff_iff, List.any_eq_true, List.any_eq_true]
  constructor
  · rintro ⟨p, h1, h2⟩; exact ⟨p, h.mem_iff.1 h1, h2⟩
  · rintro ⟨p, h1, h2⟩; exact ⟨p, h.mem_iff.2 h1, h2⟩
/-- Keys that differ: what is found is what was put. -/
theorem mget_of {l : Names} (hnd : ∀ p ∈ l, ∀ q ∈ l, p.1 = q.1 → p.2 = q.2) {k : List UInt8} {v : Int} (h : (k, v) ∈ l) : mget l k = v := by
  obtain ⟨p, hp, h1, h2⟩ := mget_mem (l := l) (k := k) (by unfold mhas; rw [List.any_eq_true]; exact ⟨(k, v), h, by simp⟩)
  rw [← h2]
  exact hnd p hp (k, v) h h1

abbrev Segs := List (List UInt8 × List UInt8)
def dirGo : Nat → Segs → Names
  | _, [] => []
  | i, s :: r => (s.1, (i : Int)) :: dirGo (i + 1) r
theorem dirGo_app : ∀ (l r : Segs) (i : Nat), dirGo i (l ++ r) = dirGo i l ++ dirGo (i + l.length) r
  | [], r, i => rfl
  | s :: l, r, i => by
    rw [List.cons_append, dirGo, dirGo, dirGo_app l r (i + 1), List.cons_append, List.length_cons, Nat.add_right_comm, Nat.add_assoc]
theorem dirGo_mem : ∀ (l : Segs) (i j : Nat) (s : List UInt8 × List UInt8), l[j]? = some s → (s.1, ((i + j : Nat) : Int)) ∈ dirGo i l
  | [], i, j, s, h => by simp at h
  | x :: l, i, 0, s, h => by
    simp at h; subst h
    exact List.mem_cons_self
  | x :: l, i, j + 1, s, h => by
    have := dirGo_mem l (i + 1) j s (by simpa using h)
    rw [show i + (j + 1) = i + 1 + j by omega]
    exact List.mem_cons_of_mem _ this
theorem dirGo_inv : ∀ (l : Segs) (i : Nat) (p : List UInt8 × Int), p ∈ dirGo i l → ∃ j s, l[j]? = some s ∧ p = (s.1, ((i + j : Nat) : Int))
  | [], i, p, h => by simp [dirGo] at h
  | x :: l, i, p, h => by
    rw [dirGo] at h
    rcases List.mem_cons.1 h with h | h
    · exact ⟨0, x, rfl, h⟩
    · obtain ⟨j, s, h1, h2⟩ := dirGo_inv l (i + 1) p h
      exact ⟨j + 1, s, by simpa using h1, by rw [h2, show i + (j + 1) = i + 1 + j by omega]⟩
theorem dirGo_len : ∀ (l : Segs) (i : Nat), (dirGo i l).length = l.length
  | [], _ => rfl
  | s :: l, i => by rw [dirGo, List.length_cons, dirGo_len l, List.length_cons]
theorem dirGo_names : ∀ (l l' : Segs) (i : Nat), l.map (·.1) = l'.map (·.1) → dirGo i l = dirGo i l'
  | [], [], _, _ => rfl
  | [], x :: l, _, h => by simp at h
  | x :: l, [], _, h => by simp at h
  | x :: l, y :: l', i, h => by
    simp only [List.map_cons, List.cons.injEq] at h
    rw [dirGo, dirGo, h.1, dirGo_names l l' (i + 1) h.2]

/-- What the files hold, by their names, in the order in which they were made. -/
structure Rep (st : St) (segs : Segs) : Prop where
  calm : Calm st
  files : st.files.map (·.1) = segs.map (·.2)
  dir : st.dir.Perm (dirGo 0 segs)
  names : ∀ (i j : Nat) s t, segs[i]? = some s → segs[j]? = some t → s.1 = t.1 → i = j

section
variable {st : St} {segs : Segs}
theorem Rep.len (h : Rep st segs) : st.files.length = segs.length := by
  have := congrArg List.length h.files
  simpa using this
theorem Rep.dlen (h : Rep st segs) : st.dir.length = segs.length := by rw [h.dir.length_eq, dirGo_len]
theorem Rep.keys (h : Rep st segs) : ∀ p ∈ st.dir, ∀ q ∈ st.dir, p.1 = q.1 → p.2 = q.2 := by
  intro p hp q hq e
  obtain ⟨i, s, h1, rfl⟩ := dirGo_inv segs 0 p (h.dir.mem_iff.1 hp)
  obtain ⟨j, t, h2, rfl⟩ := dirGo_inv segs 0 q (h.dir.mem_iff.1 hq)
  have := h.names i j s t h1 h2 e
  subst this
  rfl
theorem Rep.has (h : Rep st segs) (n : List UInt8) : mhas st.dir n = segs.any (fun s => s.1 == n) := by
  rw [mhas_perm h.dir]
  unfold mhas
  rw [Bool.eq_iff_iff, List.any_eq_true, List.any_eq_true]
  constructor
  · rintro ⟨p, h1, h2⟩
    obtain ⟨j, s, h3, rfl⟩ := dirGo_inv segs 0 p h1
    exact ⟨s, List.mem_of_getElem? h3, h2⟩
  · rintro ⟨s, h1, h2⟩
    obtain ⟨j, h3⟩ := List.getElem?_of_mem h1
    exact ⟨_, dirGo_mem segs 0 j s h3, h2⟩
theorem Rep.get (h : Rep st segs) {i : Nat} {s : List UInt8 × List UInt8} (hi : segs[i]? = some s) : mget st.dir s.1 = i := by
  have := dirGo_mem segs 0 i s hi
  rw [Nat.zero_add] at this
  exact mget_of h.keys (h.dir.mem_iff.2 this)
theorem Rep.file (h : Rep st segs) {i : Nat} {s : List UInt8 × List UInt8} (hi : segs[i]? = some s) : ∃ f, st.files[i]? = some f ∧ f.1 = s.2 := by
  have h1 := congrArg (fun l => l[i]?) h.files
  simp only [List.getElem?_map, hi, Option.map_some] at h1
  cases hf : st.files[i]? with
  | none => rw [hf] at h1; cases h1
  | some f => rw [hf] at h1; exact ⟨f, rfl, by simpa using h1⟩
theorem Rep.at (h : Rep st segs) {i : Nat} {s : List UInt8 × List UInt8} (hi : segs[i]? = some s) : idx st s.1 = i ∧ fileAt st s.1 = s.2 ∧ (good s.1 = true → openE st s.1 = 0) := by
  have h1 : idx st s.1 = i := by unfold idx; rw [h.get hi]; rfl
  obtain ⟨f, h2, h3⟩ := h.file hi
  refine ⟨h1, ?_, fun hg => ?_⟩
  · unfold fileAt
    rw [h1, h2]
    exact h3
  · unfold openE
    rw [if_neg (by rw [hg]; simp), h.has, if_neg]
    rw [Bool.not_eq_false, List.any_eq_true]
    exact ⟨s, List.mem_of_getElem? hi, by simp⟩
theorem Rep.used (h : Rep st segs) : used st = (segs.map (·.2.length)).sum := by
  have hp : (st.dir.map fun p => lenAt st p.2).Perm ((dirGo 0 segs).map fun p => lenAt st p.2) := h.dir.map _
  have hs : (st.dir.map fun p => lenAt st p.2).sum = ((dirGo 0 segs).map fun p => lenAt st p.2).sum := hp.sum_nat
  show (st.dir.map fun p => lenAt st p.2).sum = _
  rw [hs]
  have : ∀ (r : Segs) (i : Nat), (∀ j s, r[j]? = some s → segs[i + j]? = some s) → ((dirGo i r).map fun p => lenAt st p.2) = r.map (·.2.length) := by
    intro r
    induction r with
    | nil => intro i _; rfl
    | cons x r ih =>
      intro i hr
      rw [dirGo, List.map_cons, List.map_cons, ih (i + 1) (fun j s hj => by
        have := hr (j + 1) s (by simpa using hj)
        rwa [show i + 1 + j = i + (j + 1) by omega])]
      obtain ⟨f, h1, h2⟩ := h.file (hr 0 x rfl)
      rw [Nat.add_zero] at h1
      congr 1
      show lenAt st (i : Int) = _
      unfold lenAt
      rw [Int.toNat_natCast, h1]
      show f.1.length = _
      rw [h2]
  rw [this segs 0 (fun j s hj => by rw [Nat.zero_add]; exact hj)]

theorem Rep.new (room : Int) : Rep (new room) [] := ⟨⟨rfl, rfl⟩, rfl, List.Perm.refl _, fun i j s t h => by simp at h⟩
/-- A new file. -/
theorem Rep.create (h : Rep st segs) {n : List UInt8} (hg : good n = true) (hn : ∀ s ∈ segs, s.1 ≠ n) (hl : segs.length < 64) :
    (create st n).2 = 0 ∧ Rep (create st n).1 (segs ++ [(n, [])]) ∧ (create st n).1.room = st.room ∧ (create st n).1.changes.length = st.changes.length + 1 := by
  have hhas : mhas st.dir n = false := by
    rw [h.has, List.any_eq_false]
    intro s hs
    simpa using hn s hs
  have he : Fs.create st n = ({ (step st).1 with files := st.files ++ [([], 0)], dir := mput st.dir n st.files.length, changes := st.changes ++ [[(n, (st.files.length : Int))]] }, 0) := by
    unfold Fs.create
    rw [if_neg (by rw [hg]; simp), if_neg (by rw [hhas]; simp), if_neg (by rw [h.dlen]; omega), if_neg (by rw [step_calm h.calm]; simp)]
  rw [he, step_calm h.calm]
  refine ⟨rfl, ⟨⟨h.calm.1, h.calm.2⟩, ?_, ?_, ?_⟩, rfl, by simp⟩
  · show (st.files ++ [(([] : List UInt8), (0 : Nat))]).map (fun f => f.1) = _
    rw [List.map_append, h.files, List.map_append]
    rfl
  · show (mput st.dir n st.files.length).Perm _
    refine (mput_new hhas _).trans ?_
    rw [dirGo_app, Nat.zero_add, h.len]
    refine (h.dir.cons _).trans ?_
    exact (List.perm_append_singleton _ _).symm
  · intro i j s t hi hj e
    rcases Nat.lt_or_ge i segs.length with hi2 | hi2
    · rw [List.getElem?_append_left hi2] at hi
      rcases Nat.lt_or_ge j segs.length with hj2 | hj2
      · rw [List.getElem?_append_left hj2] at hj
        exact h.names i j s t hi hj e
      · rw [List.getElem?_append_right hj2] at hj
        have : t = (n, []) := by
          have := (List.getElem?_eq_some_iff.1 hj).1
          have h0 : j - segs.length = 0 := by simpa using this
          rw [h0] at hj
          simpa using hj.symm
        subst this
        exact absurd e (hn s (List.mem_of_getElem? hi))
    · rw [List.getElem?_append_right hi2] at hi
      have h0 : i - segs.length = 0 := by have := (List.getElem?_eq_some_iff.1 hi).1; simpa using this
      have hs : s = (n, []) := by rw [h0] at hi; simpa using hi.symm
      subst hs
      rcases Nat.lt_or_ge j segs.length with hj2 | hj2
      · rw [List.getElem?_append_left hj2] at hj
        exact absurd e.symm (hn t (List.mem_of_getElem? hj))
      · rw [List.getElem?_append_right hj2] at hj
        have h1 : j - segs.length = 0 := by have := (List.getElem?_eq_some_iff.1 hj).1; simpa using this
        omega
/-- A file grows. -/
theorem Rep.append (h : Rep st segs) {i : Nat} {s : List UInt8 × List UInt8} (hi : segs[i]? = some s) (hg : good s.1 = true) (b : List UInt8) (hb : s.2.length + b.length ≤ 65536)
    (hr : (((segs.map (·.2.length)).sum : Nat) : Int) + b.length ≤ st.room) :
    (append st s.1 b).2 = 0 ∧ Rep (append st s.1 b).1 (segs.set i (s.1, s.2 ++ b)) ∧ (append st s.1 b).1.room = st.room ∧ (append st s.1 b).1.changes = st.changes := by
  obtain ⟨h1, h2, h3⟩ := h.at hi
  obtain ⟨f, hf1, hf2⟩ := h.file hi
  have he : Fs.append st s.1 b = ({ (step st).1 with files := grow st.files (idx st s.1) b }, 0) := by
    unfold Fs.append
    rw [if_neg (by rw [h3 hg]; simp), h2, if_neg (by omega), step_calm h.calm, if_neg (by simp), h.used, if_neg (by omega)]
  have hgr : grow st.files (idx st s.1) b = st.files.set i (f.1 ++ b, f.2) := by
    unfold grow
    rw [h1, hf1]
  rw [he, step_calm h.calm, hgr]
  refine ⟨rfl, ⟨⟨h.calm.1, h.calm.2⟩, ?_, ?_, ?_⟩, rfl, rfl⟩
  · show (st.files.set i (f.1 ++ b, f.2)).map (·.1) = _
    rw [List.map_set, List.map_set, h.files, hf2]
  · show st.dir.Perm _
    rw [dirGo_names (segs.set i (s.1, s.2 ++ b)) segs 0 (by
      rw [List.map_set]
      have hlt := (List.getElem?_eq_some_iff.1 hi).1
      have : (segs.map (·.1))[i]? = some s.1 := by rw [List.getElem?_map, hi]; rfl
      obtain ⟨h5, h6⟩ := List.getElem?_eq_some_iff.1 this
      rw [← h6]
      exact List.set_getElem_self h5)]
    exact h.dir
  · have key : ∀ (k : Nat) t, (segs.set i (s.1, s.2 ++ b))[k]? = some t → ∃ t', segs[k]? = some t' ∧ t'.1 = t.1 := by
      intro k t hk
      by_cases hik : i = k
      · subst hik
        rw [List.getElem?_set_self (List.getElem?_eq_some_iff.1 hi).1] at hk
        simp at hk; subst hk
        exact ⟨s, hi, rfl⟩
      · rw [List.getElem?_set_ne hik] at hk
        exact ⟨t, hk, rfl⟩
    intro a c x y ha hc e
    obtain ⟨x', hx1, hx2⟩ := key a x ha
    obtain ⟨y', hy1, hy2⟩ := key c y hc
    exact h.names a c x' y' hx1 hy1 (by rw [hx2, hy2, e])
theorem Rep.sync (h : Rep st segs) {i : Nat} {s : List UInt8 × List UInt8} (hi : segs[i]? = some s) (hg : good s.1 = true) :
    (sync st s.1).2 = 0 ∧ Rep (sync st s.1).1 segs ∧ (sync st s.1).1.room = st.room ∧ (sync st s.1).1.changes = st.changes := by
  obtain ⟨h1, h2, h3⟩ := h.at hi
  have he : Fs.sync st s.1 = ({ (step st).1 with files := flush st.files (idx st s.1) }, 0) := by
    unfold Fs.sync
    rw [if_neg (by rw [h3 hg]; simp), step_calm h.calm, if_neg (by simp)]
  rw [he, step_calm h.calm]
  refine ⟨rfl, ⟨⟨h.calm.1, h.calm.2⟩, ?_, h.dir, h.names⟩, rfl, rfl⟩
  show (flush st.files (idx st s.1)).map (·.1) = _
  rw [← h.files]
  unfold flush
  obtain ⟨f, hf1, hf2⟩ := h.file hi
  rw [h1, hf1]
  show (st.files.set i (f.1, f.1.length)).map (·.1) = _
  rw [List.map_set]
  have : (st.files.map (·.1))[i]? = some f.1 := by rw [List.getElem?_map, hf1]; rfl
  obtain ⟨h5, h6⟩ := List.getElem?_eq_some_iff.1 this
  rw [← h6]
  exact List.set_getElem_self h5
theorem Rep.syncDir (h : Rep st segs) : (syncDir st).2 = 0 ∧ Rep (syncDir st).1 segs ∧ (syncDir st).1.room = st.room ∧ (syncDir st).1.changes = [] := by
  have he : Fs.syncDir st = ({ (step st).1 with sure := st.dir, changes := [] }, 0) := by
    unfold Fs.syncDir
    rw [step_calm h.calm, if_neg (by simp)]
  rw [he, step_calm h.calm]
  exact ⟨rfl, ⟨⟨h.calm.1, h.calm.2⟩, h.files, h.dir, h.names⟩, rfl, rfl⟩
theorem Rep.how (h : Rep st segs) : (step st).2.1 ≤ 9223372036854775807 := by rw [step_calm h.calm]; show (0 : Int) ≤ 9223372036854775807; omega
end
end Fs
end Go.Proofs.YtcinagglbkbmkaaGreatDoor
