/-
  'LexMany', walked.
-/
import Derived.Test.YtonblegbnkfhbaaDoorL7many
namespace Go.Proofs.YtonblegbnkfhbaaDoor
set_option linter.unusedSimpArgs false
set_option linter.unusedVariables false
open Go Go.RowKit

theorem infoByte : (Tryd.prog.info? 5).map (fun i => (i.zero, i.size, i.bytes)) = some (some (.int .u8 0), 1, 1) := by kernel_rfl
/-- The cells of bytes. -/
def byteCells (l : List UInt8) : List Value := l.map fun c => .int .u8 c.toNat

/-- A row of bytes that is being written. -/
structure BS (w1 : World) (cap : Nat) (l : List UInt8) (n : Nat) (wr : World) : Prop where
  own : wr.ownsRow w1.heap.size 5 1 (.slice (some ⟨w1.heap.size, 0, none⟩) n cap) n (byteCells l)
  bel : Below w1.heap.size w1 wr
theorem BS.alloc {w1 wr : World} {cap n : Nat} {l : List UInt8} (h : BS w1 cap l n wr) (o : Obj) : BS w1 cap l n (wr.alloc o) := ⟨h.own.alloc _, h.bel.alloc h.bel.size _⟩
theorem BS.grown {w1 wr w' : World} {cap n : Nat} {l : List UInt8} {c : UInt8} (h : BS w1 cap l n wr)
    (ho : w'.ownsRow w1.heap.size 5 1 (.slice (some ⟨w1.heap.size, 0, none⟩) (n + 1) cap) (n + 1) (byteCells l ++ [.int .u8 c.toNat])) (hg : wr.grownBy w' (some w1.heap.size)) : BS w1 cap (l ++ [c]) (n + 1) w' := by
  refine ⟨?_, h.bel.trans ⟨hg.os, hg.tape, hg.output, hg.size, fun k hk => hg.block k (Nat.lt_of_lt_of_le hk h.bel.size) (by simp; omega)⟩⟩
  rw [show byteCells (l ++ [c]) = byteCells l ++ [.int .u8 c.toNat] by simp [byteCells]]
  exact ho
theorem u_mod (n : Int) (k : Int) (h : 0 < k) (h2 : k < 100000) : ∃ N : Nat, wrap64 ((IntKind.u64.wrap n).tmod k) = N ∧ (N : Int) < k := by
  have h0 : 0 ≤ IntKind.u64.wrap n := by
    unfold IntKind.wrap IntKind.bits IntKind.signed
    simp
    omega
  refine ⟨((IntKind.u64.wrap n).tmod k).toNat, ?_, ?_⟩
  · rw [Int.tmod_eq_emod_of_nonneg h0]
    have h1 := Int.emod_nonneg (IntKind.u64.wrap n) (by omega : k ≠ 0)
    have h3 := Int.emod_lt_of_pos (IntKind.u64.wrap n) h
    rw [Int.toNat_of_nonneg h1]
    unfold wrap64
    omega
  · rw [Int.tmod_eq_emod_of_nonneg h0]
    have h1 := Int.emod_nonneg (IntKind.u64.wrap n) (by omega : k ≠ 0)
    have h3 := Int.emod_lt_of_pos (IntKind.u64.wrap n) h
    omega

set_option maxHeartbeats 1000000 in
set_option maxRecDepth 100000 in
theorem many_any (n b : Int) (w : World) (hn0 : -9223372036854775808 ≤ n) (hn1 : n ≤ 9223372036854775807) (hb0 : -9223372036854775808 ≤ b) (hb1 : b ≤ 9223372036854775807) (hE : Env w) (h3 : 3 ≤ w.heap.size) :
    Calls Tryd.prog 5 #[.int .i64 n, .int .i64 b] w (fun e w' => e = .returned (.bool true) ∧ Below w.heap.size w w') := by
  obtain ⟨i0, hi, hz0, hz1, hz2⟩ := info_parts infoByte
  go_enter Tryd.func5, Tryd.ntmps5
  go_wp2_with fail
  refine (awake_any w hE h3).mono ?_
  rintro e w1 ⟨rfl, hw1, hE1⟩
  obtain ⟨N, hN, hN2⟩ := u_mod n 1510 (by decide) (by decide)
  obtain ⟨B, hB, hB2⟩ := u_mod b 4100 (by decide) (by decide)
  go_wp2_with (first | (at_make; refine wpList_make_own _ rfl _ _ 33 rfl w1.heap.size 5 i0 (.int .u8 0) 1 Tryd.underlying33 hi hz0 hz1 .i64 .i64 ((N : Int) + (B : Int)) (N + B) rfl rfl ?m0 ?m1 ?m2 ?m3 ?_) | fail)
  case m0 => omega
  case m1 => rw [hz2]; omega
  case m2 => unfold maxLen; omega
  case m3 => omega
  intro w2 hown hgrow
  clear hN hB
  have hS0 : BS w1 (N + B) [] 0 w2 := ⟨hown, ⟨hgrow.os, hgrow.tape, hgrow.output, hgrow.size, fun k hk => hgrow.block k hk (by simp)⟩⟩
  have HS0 := Lib.hid hS0
  clear hown hgrow hS0
  go_wp2_with fail
  go_loopg [5, 6] N (fun k s i wr => ∃ j, k = N - j ∧ j ≤ N ∧ s = .slice (some ⟨w1.heap.size, 0, none⟩) j (N + B) ∧ i = .int .i64 j ∧ BS w1 (N + B) (List.replicate j 33) j wr)
  case atStart => exact ⟨0, by omega, Nat.zero_le _, rfl, rfl, HS0.out⟩
  case round =>
    obtain ⟨j, hk, hj, rfl, rfl, hS⟩ := hrel
    have HK := Lib.hid hk
    clear hk HS0
    by_cases hjn : j < N
    · go_wp2_with (first | (at_builtin; refine wpList_append_fits _ rfl _ _ 33 rfl w1.heap.size 5 i0 1 Tryd.underlying33 hi hz1 w1.heap.size j (N + B) (byteCells (List.replicate j 33)) rfl (hS.alloc _).own ⟨wr.heap.size, 0, none⟩ 1 1 [.int .u8 33] rfl rfl ?c1 ?c2 ?c3 ?_) | fail)
      case c1 =>
        intro j u hj
        match j, hj with
        | 0, hj => simp at hj; subst hj; simp [Addr.add]
        | (j + 1), hj => simp at hj
      case c2 => intro u hu; simp at hu; subst hu; rfl
      case c3 => omega
      intro w3 hown' hgrow
      have hS2 := (hS.alloc _).grown (c := 33) hown' hgrow
      rw [← List.replicate_succ'] at hS2
      clear hown' hgrow hS
      go_wp2
      go_roundg (N - (j + 1))
      case measure => have := HK.out; omega
      case rel => exact ⟨j + 1, rfl, hjn, rfl, rfl, hS2⟩
    · have hjN : N = j := by omega
      subst hjN
      have HS := Lib.hid hS
      clear hS HK
      go_wp2_with fail
      go_loopg [5, 7] B (fun k s i wr => ∃ j, k = B - j ∧ j ≤ B ∧ s = .slice (some ⟨w1.heap.size, 0, none⟩) (N + j) (N + B) ∧ i = .int .i64 j ∧ BS w1 (N + B) (List.replicate N 33 ++ List.replicate j 32) (N + j) wr)
      case atStart => exact ⟨0, by omega, Nat.zero_le _, rfl, rfl, by simpa using HS.out⟩
      case round =>
        obtain ⟨j, hk, hj, rfl, rfl, hS⟩ := hrel
        have HK := Lib.hid hk
        clear hk HS
        by_cases hjn : j < B
        · go_wp2_with (first | (at_builtin; refine wpList_append_fits _ rfl _ _ 33 rfl w1.heap.size 5 i0 1 Tryd.underlying33 hi hz1 w1.heap.size (N + j) (N + B) (byteCells (List.replicate N 33 ++ List.replicate j 32)) rfl (hS.alloc _).own ⟨wr.heap.size, 0, none⟩ 1 1 [.int .u8 32] rfl rfl ?c1 ?c2 ?c3 ?_) | fail)
          case c1 =>
            intro j u hj
            match j, hj with
            | 0, hj => simp at hj; subst hj; simp [Addr.add]
            | (j + 1), hj => simp at hj
          case c2 => intro u hu; simp at hu; subst hu; rfl
          case c3 => omega
          intro w3 hown' hgrow
          have hS2 := (hS.alloc _).grown (c := 32) hown' hgrow
          rw [List.append_assoc, ← List.replicate_succ'] at hS2
          clear hown' hgrow hS
          go_wp2
          go_roundg (B - (j + 1))
          case measure => have := HK.out; omega
          case rel => exact ⟨j + 1, rfl, hjn, rfl, rfl, hS2⟩
        · have hjN : B = j := by omega
          subst hjN
          have HS := Lib.hid hS
          have hE2 := hE1.below hS.bel
          have hcv := run_convert_bytes_back (P := Tryd.prog) wr 33 9 5 ⟨w1.heap.size, 0, none⟩ (N + B) (List.replicate N 33 ++ List.replicate B 32) Tryd.underlying33 Tryd.underlying5 Tryd.underlying9 (by
            intro i hi
            refine World.ownsRow.cells hS.own rfl _ _ ?_
            unfold byteCells
            rw [List.getElem?_map, List.getElem?_eq_getElem hi]
            rfl)
          have hrl : (List.replicate N (33 : UInt8) ++ List.replicate B 32).length = N + B := by simp
          rw [hrl] at hcv
          clear hrl
          have hL := many_lex N B
          obtain ⟨tx, htx⟩ : ∃ tx, tx = List.replicate N (33 : UInt8) ++ List.replicate B 32 := ⟨_, rfl⟩
          rw [← htx] at hcv hL
          have HTX := Lib.hid htx
          have hsz : tx.length = N + B := by rw [htx]; simp
          have HL := Lib.hid hL
          have HH1 := Lib.hid hsz
          clear hS HK hL htx hsz
          go_wp2_with fail
          refine (lex_any ⟨tx.toArray⟩ _ (by show tx.length ≤ _; rw [HH1.out]; omega) hE2 (by have := hw1.size; have := HS.out.bel.size; omega)).mono ?_
          rintro e w4 ⟨hb4, hres⟩
          have hbel : Below w.heap.size w w4 := (hw1.trans (HS.out.bel.mono hw1.size)).trans (hb4.mono (Nat.le_trans hw1.size HS.out.bel.size))
          clear hcv
          rcases hres with ⟨ts, v, hl, rfl, ht, hcnt⟩ | ⟨a, c, hl, rfl, -⟩
          · have hl' : Lx.lex tx = .ok ts := hl
            clear hl
            have h1 : ¬ 4096 < N + B := fun h => by rw [HL.out.1 h] at hl'; cases hl'
            have h2 : ¬ 1500 < N := fun h => by rw [HL.out.2.1 (by omega) h] at hl'; cases hl'
            obtain ⟨ts', h4, h5⟩ := HL.out.2.2 (by omega) (by omega)
            rw [hl'] at h4
            obtain rfl := Lx.Res.ok.inj h4
            obtain ⟨oa, oc, rfl⟩ := ht.form
            rw [h5] at *
            clear hl' h4 hcnt ht
            go_wp2_with fail
            all_goals refine bodyPost_ret (v := .bool true) (by simp [results, Tryd.results5, go_sem]) rfl ?_
            exact ⟨rfl, hbel⟩
          · have hl' : Lx.lex tx = .err a c := hl
            clear hl
            by_cases h1 : 4096 < N + B
            · rw [HL.out.1 h1] at hl'
              obtain ⟨rfl, rfl⟩ := Lx.Res.err.inj hl'
              clear hl'
              go_wp2_with fail
              all_goals refine bodyPost_ret (v := .bool true) (by simp [results, Tryd.results5, go_sem]) rfl ?_
              exact ⟨rfl, hbel⟩
            · by_cases h2 : 1500 < N
              · rw [HL.out.2.1 (by omega) h2] at hl'
                obtain ⟨rfl, rfl⟩ := Lx.Res.err.inj hl'
                clear hl'
                go_wp2_with fail
                all_goals refine bodyPost_ret (v := .bool true) (by simp [results, Tryd.results5, go_sem]) rfl ?_
                exact ⟨rfl, hbel⟩
              · obtain ⟨ts', h4, h5⟩ := HL.out.2.2 (by omega) (by omega)
                rw [hl'] at h4
                cases h4
end Go.Proofs.YtonblegbnkfhbaaDoor
