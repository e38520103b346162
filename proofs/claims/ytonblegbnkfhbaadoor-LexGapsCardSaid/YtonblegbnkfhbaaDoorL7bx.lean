/-
  'LexBlocks', walked.
-/
import Derived.Test.YtonblegbnkfhbaaDoorL7bw
import Derived.Test.YtonblegbnkfhbaaDoorL7manyw
namespace Go.Proofs.YtonblegbnkfhbaaDoor
set_option linter.unusedSimpArgs false
set_option linter.unusedVariables false
open Go Go.RowKit

/-- A slice of strings that came in. -/
def Strs (w : World) (v : Value) (ls : List ByteArray) : Prop :=
  ∃ a cap, v = .slice a ls.length cap ∧ ∀ (i : Nat) s, ls[i]? = some s → ∃ b off, a = some ⟨b, off, none⟩ ∧ b < w.heap.size ∧ w.cell? ⟨b, off + i, none⟩ = some (.string s)
theorem Strs.below {w w' : World} {v : Value} {ls : List ByteArray} (h : Strs w v ls) (hb : Below w.heap.size w w') : Strs w' v ls := by
  obtain ⟨a, cap, h1, h2⟩ := h
  refine ⟨a, cap, h1, fun i s hi => ?_⟩
  obtain ⟨b, off, e, h3, h4⟩ := h2 i s hi
  exact ⟨b, off, e, Nat.lt_of_lt_of_le h3 hb.size, by rw [hb.cell h3]; exact h4⟩
theorem Strs.form {w : World} {v : Value} {ls : List ByteArray} (h : Strs w v ls) : ∃ a cap, v = .slice a ls.length cap := by
  obtain ⟨a, cap, h1, h2⟩ := h
  exact ⟨a, cap, h1⟩
theorem Strs.at {w : World} {a : Option Addr} {n cap : Nat} {ls : List ByteArray} (h : Strs w (.slice a n cap) ls) {i : Nat} {s : ByteArray} (hi : ls[i]? = some s) :
    ∃ b off, a = some ⟨b, off, none⟩ ∧ w.cell? ⟨b, off + i, none⟩ = some (.string s) := by
  obtain ⟨a', cap', h1, h2⟩ := h
  obtain ⟨b, off, e, h3, h4⟩ := h2 i s hi
  simp only [Value.slice.injEq] at h1
  exact ⟨b, off, by rw [h1.1, e], h4⟩

theorem app_list (a b : ByteArray) : (a ++ b).data.toList = a.data.toList ++ b.data.toList := by simp
theorem size_list (a : ByteArray) : a.size = a.data.toList.length := by simp
theorem blank_cut (D : Nat) (h : D < 6) : (⟨#[32, 32, 32, 32, 32, 32, 32, 32]⟩ : ByteArray).extract 0 D = ⟨(List.replicate D 32).toArray⟩ := by
  have : D = 0 ∨ D = 1 ∨ D = 2 ∨ D = 3 ∨ D = 4 ∨ D = 5 := by omega
  rcases this with rfl | rfl | rfl | rfl | rfl | rfl <;> rfl
theorem joinTail_le : ∀ r : List (List UInt8), (∀ x ∈ r, x.length ≤ 65) → (Lib.joinTail [10] r).length ≤ 66 * r.length
  | [], _ => by simp [Lib.joinTail]
  | x :: r, h => by
    have h1 := joinTail_le r (fun y hy => h y (by simp [hy]))
    have h2 := h x (by simp)
    have e : Lib.joinTail [10] (x :: r) = [10] ++ x ++ Lib.joinTail [10] r := by simp [Lib.joinTail]
    rw [e, List.length_append, List.length_append]
    simp only [List.length_cons, List.length_nil]
    omega
theorem blkText_le (d k : Nat) (L : List (List UInt8)) (hd : d < 6) (hL : ∀ x ∈ L, x.length ≤ 60) : (blkText d k L).length ≤ 3 + 66 * (k + L.length) := by
  unfold blkText
  rw [List.length_append]
  have := joinTail_le (List.replicate k (List.replicate d 32) ++ L.map (List.replicate d 32 ++ ·)) (fun x hx => by
    rw [List.mem_append] at hx
    rcases hx with hx | hx
    · rw [List.eq_of_mem_replicate hx, List.length_replicate]; omega
    · obtain ⟨y, hy, rfl⟩ := List.mem_map.1 hx
      have := hL y hy
      rw [List.length_append, List.length_replicate]; omega)
  rw [List.length_append, List.length_replicate, List.length_map] at this
  simp only [List.length_cons, List.length_nil]
  omega
theorem blkText_ahead (d k : Nat) : blkText d (k + 1) [] = blkText d k [] ++ ([10] ++ List.replicate d 32) := by
  unfold blkText
  rw [List.replicate_succ', List.map_nil, List.append_nil, List.append_nil, joinTail_app]
  simp [Lib.joinTail]
theorem blkText_line (d k : Nat) (L : List (List UInt8)) (l : List UInt8) : blkText d k (L ++ [l]) = blkText d k L ++ ([10] ++ List.replicate d 32 ++ l) := by
  unfold blkText
  rw [List.map_append, ← List.append_assoc (List.replicate k _), joinTail_app _ _ (List.map _ [l])]
  simp [Lib.joinTail]
theorem join_snoc : ∀ (L : List (List UInt8)) (l : List UInt8), L ≠ [] → Lib.join (L ++ [l]) [10] = Lib.join L [10] ++ [10] ++ l
  | [], _, h => absurd rfl h
  | x :: r, l, _ => by
    rw [List.cons_append, Lib.join_cons, Lib.join_cons, joinTail_app]
    simp [Lib.joinTail]
theorem join_le60 : ∀ (L : List (List UInt8)), (∀ x ∈ L, x.length ≤ 60) → (Lib.join L [10]).length ≤ 66 * L.length
  | [], _ => by simp [Lib.join_nil]
  | x :: r, h => by
    rw [Lib.join_cons, List.length_append, List.length_cons]
    have := joinTail_le r (fun y hy => by have := h y (by simp [hy]); omega)
    have := h x (by simp)
    omega

set_option maxHeartbeats 2000000 in
set_option maxRecDepth 100000 in
theorem blocks_any (v : Value) (ls : List ByteArray) (n b : Int) (w : World) (hV : Strs w v ls) (hls : ∀ s ∈ ls, s.size ≤ 9223372036854775807) (hll : ls.length ≤ 9223372036854775807)
    (hE : Env w) (h3 : 3 ≤ w.heap.size) :
    Calls Tryd.prog 4 #[v, .int .i64 n, .int .i64 b] w (fun e w' => e = .returned (.bool true) ∧ Below w.heap.size w w') := by
  obtain ⟨va, vc, rfl⟩ := hV.form
  go_enter Tryd.func4, Tryd.ntmps4
  by_cases hbig : 20 < ls.length
  · have hbi : (20 : Int) < (ls.length : Int) := by omega
    go_wp2_with fail
    refine (awake_any w hE h3).mono ?_
    rintro e w1 ⟨rfl, hb1, hE1⟩
    go_wp2_with fail
    refine (awake_any w1 hE1 (by have := hb1.size; omega)).mono ?_
    rintro e w2 ⟨rfl, hb2, hE2⟩
    go_wp2_with fail
    refine bodyPost_ret (v := .bool true) (by simp [results, Tryd.results4, go_sem]) rfl ?_
    exact ⟨rfl, hb1.trans (hb2.mono hb1.size)⟩
  · have hbi : (ls.length : Int) ≤ 20 := by omega
    go_wp2_with fail
    refine (awake_any w hE h3).mono ?_
    rintro e w1 ⟨rfl, hb1, hE1⟩
    have hV1 := hV.below hb1
    obtain ⟨D, hD, hD2⟩ := u_mod n 6 (by decide) (by decide)
    obtain ⟨A, hA, hA2⟩ := u_mod b 4 (by decide) (by decide)
    have HBL := Lib.hid (blank_cut D (by omega))
    clear hV
    go_wp2_with fail
    rw [hA, hD, HBL.out]
    clear hA hD HBL
    have HA2 := Lib.hid hA2
    go_loopg [8, 10] A (fun k s8 s10 wr => ∃ j b, j ≤ A ∧ k = A - j ∧ s10 = .int .i64 (j : Nat) ∧ s8 = .string b ∧ b.data.toList = blkText D j [] ∧ wr = w1)
    case atStart => exact ⟨0, ⟨#[34, 34, 34]⟩, Nat.zero_le _, by omega, rfl, rfl, rfl, rfl⟩
    case round =>
      obtain ⟨j, b, hj, hk, rfl, rfl, hb, rfl⟩ := hrel
      have HB := Lib.hid hb
      have HK := Lib.hid hk
      have hbs : b.size ≤ 3 + 66 * j := by
        rw [size_list, hb]
        exact blkText_le D j [] (by omega) (fun x hx => by simp at hx)
      clear hb hk
      by_cases hjn : j < A
      · have hjn1 : (j : Int) < (A : Int) := by omega
        go_wp2
        go_roundg (A - (j + 1))
        case measure => rw [HK.out]; omega
        case rel => exact ⟨j + 1, _, hjn, rfl, by simp, rfl, by rw [blkText_ahead, app_list, HB.out, app_list]; rfl, rfl⟩
      · have hjn1 : (A : Int) ≤ (j : Int) := by omega
        obtain rfl : j = A := by omega
        have HB0 := HB
        clear HK HB
        go_wp2_with fail
        go_loopg [8, 9, 11, 46] ls.length (fun k s8 s9 s11 s46 wq => ∃ (i : Nat) (tb wb : ByteArray) (L : List (List UInt8)), i ≤ ls.length ∧ k = ls.length - i ∧ s46 = .int .i64 (i : Nat) ∧ s8 = .string tb ∧ s9 = .string wb ∧ s11 = .int .i64 (L.length : Nat) ∧
          tb.data.toList = blkText D j L ∧ wb.data.toList = Lib.join L [10] ∧ (∀ x ∈ L, Lx.plain x = true ∧ x.length ≤ 60) ∧ L.length ≤ i ∧ wq = wr)
        case atStart => exact ⟨0, b, ⟨#[]⟩, [], Nat.zero_le _, by omega, rfl, rfl, rfl, rfl, HB0.out, rfl, by simp, by simp, rfl⟩
        case round =>
          obtain ⟨i, tb, wb, L, hi, hk, rfl, rfl, rfl, rfl, htb, hwb, hL, hLi, rfl⟩ := hrel
          have HTB := Lib.hid htb
          have HWB := Lib.hid hwb
          have HL := Lib.hid hL
          have HK := Lib.hid hk
          have htl : tb.size ≤ 3 + 66 * (j + L.length) := by
            rw [size_list, htb]
            exact blkText_le D j L (by omega) (fun x hx => (hL x hx).2)
          have hwl : wb.size ≤ 66 * L.length := by
            rw [size_list, hwb]
            exact join_le60 L (fun x hx => (hL x hx).2)
          clear htb hwb hL hk HB0
          by_cases hin : i < ls.length
          · have hin1 : (i : Int) < (ls.length : Int) := by omega
            have hi0 : (0 : Int) ≤ (i : Int) := Int.natCast_nonneg _
            obtain ⟨x, hx⟩ : ∃ x, ls[i]? = some x := ⟨ls[i], List.getElem?_eq_getElem hin⟩
            have hxs := hls x (List.mem_of_getElem? hx)
            obtain ⟨g, o, rfl, hcell⟩ := hV1.at hx
            have HX := Lib.hid hx
            clear hx
            by_cases h60 : 60 < x.size
            · have h601 : (60 : Int) < (x.size : Int) := by omega
              go_wp2_with fail
              go_roundg (ls.length - (i + 1))
              case measure => rw [HK.out]; omega
              case rel => exact ⟨i + 1, tb, wb, L, hin, rfl, by simp, rfl, rfl, rfl, HTB.out, HWB.out, HL.out, by omega, rfl⟩
            · have h601 : (x.size : Int) ≤ 60 := by omega
              cases hp : Lx.plain x.data.toList
              · have HP := Lib.hid hp
                clear hp
                go_wp2_with (first | (go_at_call 11; refine (plain_any _ _ (by omega)).mono ?_; rintro e w' ⟨rfl, hw'⟩; obtain rfl := hw'.symm; rw [HP.out]) | fail)
                go_roundg (ls.length - (i + 1))
                case measure => rw [HK.out]; omega
                case rel => exact ⟨i + 1, tb, wb, L, hin, rfl, by simp, rfl, rfl, rfl, HTB.out, HWB.out, HL.out, by omega, rfl⟩
              · have HP := Lib.hid hp
                clear hp
                have HLN : Hid (∀ y ∈ L ++ [x.data.toList], Lx.plain y = true ∧ y.length ≤ 60) := Lib.hid (fun y hy => by
                  rw [List.mem_append] at hy
                  rcases hy with hy | hy
                  · exact HL.out y hy
                  · obtain rfl := List.mem_singleton.1 hy
                    exact ⟨HP.out, by rw [← size_list]; omega⟩)
                by_cases hL0 : 0 < L.length
                · have hL1 : (0 : Int) < (L.length : Int) := by omega
                  go_wp2_with (first | (go_at_call 11; refine (plain_any _ _ (by omega)).mono ?_; rintro e w' ⟨rfl, hw'⟩; obtain rfl := hw'.symm; rw [HP.out]) | fail)
                  go_roundg (ls.length - (i + 1))
                  case measure => rw [HK.out]; omega
                  case rel =>
                    refine ⟨i + 1, _, _, L ++ [x.data.toList], hin, rfl, by simp, rfl, rfl, by simp, ?_, ?_, HLN.out, by simp; omega, rfl⟩
                    · rw [blkText_line, app_list, HTB.out, app_list, app_list]; rfl
                    · rw [join_snoc L _ (fun e => by rw [e] at hL0; simp at hL0), app_list, app_list, HWB.out]
                · obtain rfl : L = [] := List.length_eq_zero_iff.1 (by omega)
                  go_wp2_with (first | (go_at_call 11; refine (plain_any _ _ (by omega)).mono ?_; rintro e w' ⟨rfl, hw'⟩; obtain rfl := hw'.symm; rw [HP.out]) | fail)
                  go_roundg (ls.length - (i + 1))
                  case measure => rw [HK.out]; omega
                  case rel =>
                    refine ⟨i + 1, _, _, [x.data.toList], hin, rfl, by simp, rfl, rfl, by simp, ?_, ?_, HLN.out, by simp, rfl⟩
                    · rw [show [x.data.toList] = [] ++ [x.data.toList] from rfl, blkText_line, app_list, HTB.out, app_list, app_list]; rfl
                    · rw [app_list, HWB.out, Lib.join_one]; rfl
          · have hin1 : (ls.length : Int) ≤ (i : Int) := by omega
            by_cases hL0 : 0 < L.length
            · have hL1 := eqF (n := L.length) (k := 0) (by omega)
              have hT : (tb ++ ⟨#[10, 32, 32, 10, 34, 34, 34]⟩).data.toList = blkText D j L ++ [10, 32, 32, 10, 34, 34, 34] := by rw [app_list, HTB.out]
              have hlex := blocks_lex D j L (fun e => by rw [e] at hL0; simp at hL0) (fun y hy => (HL.out y hy).1) (by rw [← HTB.out, ← size_list]; omega)
              rw [← hT] at hlex
              have hsz : (tb ++ ⟨#[10, 32, 32, 10, 34, 34, 34]⟩ : ByteArray).size = tb.size + 7 := by rw [ByteArray.size_append]; rfl
              have HT := Lib.hid hlex
              have HSZ := Lib.hid hsz
              clear hlex hT hsz
              have hwb : (⟨(Lib.join L [10]).toArray⟩ : ByteArray) = wb := by rw [← HWB.out]
              go_wp2_with fail
              refine (lex_any _ _ (by rw [HSZ.out]; omega) hE1 (by have := hb1.size; omega)).mono ?_
              rintro e w2 ⟨hb2, hres⟩
              have hbel := hb1.trans (hb2.mono hb1.size)
              rcases hres with ⟨ts, v, hl, rfl, ht, -⟩ | ⟨a, c, hl, rfl, -⟩
              · rw [HT.out] at hl
                obtain rfl := (Lx.Res.ok.inj hl).symm
                obtain ⟨g, cap, rfl, hg, hrow⟩ := ht.openRow (by simp)
                have k0 := hrow.kind 0 _ rfl
                have k1 : w2.cell? ⟨g, 3 * 0 + 1, none⟩ = some (.string wb) := by rw [← hwb]; exact hrow.text 0 _ rfl
                simp only [List.length_cons, List.length_nil] at k0 k1 ⊢
                clear hl ht hwb
                go_wp2_with fail
                refine bodyPost_ret (v := .bool true) (by simp [results, Tryd.results4, go_sem]) rfl ?_
                exact ⟨rfl, hbel⟩
              · rw [HT.out] at hl
                cases hl
            · have hL1 := eqT (n := L.length) (k := 0) (by omega)
              go_wp2_with fail
              refine bodyPost_ret (v := .bool true) (by simp [results, Tryd.results4, go_sem]) rfl ?_
              exact ⟨rfl, hb1⟩
end Go.Proofs.YtonblegbnkfhbaaDoor
