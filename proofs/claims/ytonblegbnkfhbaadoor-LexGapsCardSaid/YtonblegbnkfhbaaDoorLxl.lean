/-
  The lexer's 'Lex', walked.
-/
import Derived.Test.YtonblegbnkfhbaaDoorLxlm
import Derived.Test.YtonblegbnkfhbaaDoorLxch
import Derived.Test.YtonblegbnkfhbaaDoorLxw10
import Derived.Test.YtonblegbnkfhbaaDoorLxw3
import Derived.OwnWalk
import Derived.Deep.LoopGhost
namespace Go.Proofs.YtonblegbnkfhbaaDoor
set_option linter.unusedSimpArgs false
set_option linter.unusedVariables false
open Go Go.RowKit

/-- The tokens' cells. -/
def tokCells (ts : List Lx.Tok) : List Value := ts.flatMap fun t => [.int .i64 t.kind, .string ⟨t.text.toArray⟩, .int .i64 t.at_]
/-- The slice that 'Lex' answers with holds these tokens, in blocks from 'base' on. -/
def Toks (w : World) (base : Nat) (v : Value) (ts : List Lx.Tok) : Prop := w.ownsRow base 28 3 v ts.length (tokCells ts)

theorem Toks.but {w w' : World} {base : Nat} {v : Value} {ts : List Lx.Tok} {X : Nat → Prop} (h : Toks w base v ts) (hb : But X w w') (hX : ∀ k, X k → k < base) : Toks w' base v ts := by
  refine ⟨h.1, ?_⟩
  rcases h.2 with h2 | ⟨g, cap, cur, hv, hg, hc, h3⟩
  · exact .inl h2
  · refine .inr ⟨g, cap, cur, hv, hg, ?_, h3⟩
    rw [hb.block g (heap_lt hc) (fun x => by have := hX _ x; omega)]
    exact hc
theorem Toks.below {w w' : World} {base : Nat} {v : Value} {ts : List Lx.Tok} (h : Toks w base v ts) (hb : Below w.heap.size w w') : Toks w' base v ts := h.but (X := fun _ => False) (But.of_below hb) (fun _ f => f.elim)
theorem tokCells_snoc (ts : List Lx.Tok) (t : Lx.Tok) : tokCells (ts ++ [t]) = tokCells ts ++ [.int .i64 t.kind, .string ⟨t.text.toArray⟩, .int .i64 t.at_] := by simp [tokCells]

theorem infoTok : (Tryd.prog.info? 28).map (fun i => (i.zero, i.size, i.bytes)) = some (some (.agg #[.int .i64 0, .string ⟨#[]⟩, .int .i64 0]), 3, 32) := by kernel_rfl

/-- What 'Lex' leaves. -/
def LexPost (s : ByteArray) (w : World) (e : Ending) (w' : World) : Prop :=
  Below w.heap.size w w' ∧
  ((∃ ts v, Lx.lex s.data.toList = .ok ts ∧ e = .returned (.tuple #[v, .int .i64 0, .int .i64 0]) ∧ Toks w' (w.heap.size + 1) v ts ∧ Std s ts) ∨
   (∃ a c : Nat, Lx.lex s.data.toList = .err a c ∧ e = .returned (.tuple #[.slice none 0 0, .int .i64 a, .int .i64 c]) ∧ (c = 5 ∨ c = 8 ∨ c = 40)))

/-- A round's world. -/
structure LS (w0 : World) (s : ByteArray) (a : Nat) (v : Value) (out : List Lx.Tok) (w : World) : Prop where
  scan : Scan w w0.heap.size s a
  env : Env w
  own : Toks w (w0.heap.size + 1) v out
  bel : Below w0.heap.size w0 w
  hi : w0.heap.size + 1 ≤ w.heap.size
theorem LS.call {w0 w w' : World} {s : ByteArray} {a b : Nat} {v : Value} {out : List Lx.Tok} (h : LS w0 s a v out w) (h3 : 3 ≤ w0.heap.size) (hs : Scan w' w0.heap.size s b) (hf : Fr w0.heap.size w w') : LS w0 s b v out w' := by
  refine ⟨hs, h.env.fr hf h3, h.own.but hf (fun k hk => by omega), ?_, Nat.le_trans h.hi hf.size⟩
  exact h.bel.trans ⟨hf.os, hf.tape, hf.output, Nat.le_trans (by have := h.hi; omega) hf.size, fun k hk => hf.block k (by have := h.hi; omega) (by omega)⟩
theorem LS.drewN {w0 w : World} {s : ByteArray} {a : Nat} {v : Value} {out : List Lx.Tok} (h : LS w0 s a v out w) (n : Nat) : LS w0 s a v out (w.drewN n) :=
  ⟨h.scan.drewN n, h.env.drewN n, h.own, Below.drewN h.bel n, h.hi⟩
theorem LS.alloc {w0 w : World} {s : ByteArray} {a : Nat} {v : Value} {out : List Lx.Tok} (h : LS w0 s a v out w) (o : Obj) : LS w0 s a v out (w.alloc o) := by
  have hb : Below w.heap.size w (w.alloc o) := (Below.refl _ _).alloc (Nat.le_refl _) _
  exact ⟨h.scan.below hb, h.env.below hb, h.own.below hb, h.bel.trans (hb.mono (by have := h.hi; omega)), Nat.le_trans h.hi hb.size⟩
theorem LS.grown {w0 w w' : World} {s : ByteArray} {a : Nat} {v v' : Value} {out out' : List Lx.Tok} (h : LS w0 s a v out w) (h3 : 3 ≤ w0.heap.size) (ho : Toks w' (w0.heap.size + 1) v' out') (hg : w.grownBy w' v.ownBlock) : LS w0 s a v' out' w' := by
  have hlt : ∀ k, v.ownBlock = some k → w0.heap.size + 1 ≤ k := fun k hk => (World.ownsRow.lt h.own k hk).1
  have hb : But (fun k => v.ownBlock = some k) w w' := ⟨hg.os, hg.tape, hg.output, hg.size, fun k hk hx => hg.block k hk (fun e => hx e.symm)⟩
  refine ⟨h.scan.but hb (fun x => by have := hlt _ x; omega), ?_, ho, ?_, Nat.le_trans h.hi hg.size⟩
  · have hE := h.env
    obtain ⟨⟨h1, h2⟩, m, h4⟩ := hE
    refine Env.but ⟨⟨h1, h2⟩, m, h4⟩ hb (fun k hk => by have := hlt _ hk; omega)
  · exact h.bel.trans ⟨hg.os, hg.tape, hg.output, Nat.le_trans (by have := h.hi; omega) hg.size, fun k hk => hb.block k (by have := h.hi; omega) (fun x => by have := hlt _ x; omega)⟩

theorem Toks.form {w : World} {base : Nat} {v : Value} {ts : List Lx.Tok} (h : Toks w base v ts) : ∃ a c, v = .slice a ts.length c := by
  rcases h.2 with ⟨h2, h3⟩ | ⟨g, cap, cur, hv, hg, hc, h3⟩
  · exact ⟨none, 0, by rw [h3]; exact h2⟩
  · exact ⟨_, _, hv⟩

set_option maxHeartbeats 1000000 in
set_option maxRecDepth 100000 in
theorem lex_any (s : ByteArray) (w : World) (hs : s.size ≤ 9223372036854775807) (hE : Env w) (h3 : 3 ≤ w.heap.size) :
    Calls Tryd.prog 10 #[.string s] w (LexPost s w) := by
  obtain ⟨i0, hi, hz0, hz1, hz2⟩ := info_parts infoTok
  go_enter Tryd.func10, Tryd.ntmps10
  have hi0 : (0 : Int) ≤ (s.size : Int) := Int.natCast_nonneg _
  have hlen : s.data.toList.length = s.size := rfl
  by_cases hbig : 4096 < s.size
  · go_wp2_with fail
    refine bodyPost_ret (v := .tuple #[.slice none 0 0, .int .i64 0, .int .i64 5]) (by simp [results, Tryd.results10, go_sem]) rfl ?_
    exact ⟨Below.refl _ _, .inr ⟨0, 5, by unfold Lx.lex; rw [if_pos (by omega)], rfl, .inl rfl⟩⟩
  · have hst : LS w s 0 (.slice none 0 0) [] (w.alloc (.cells #[.string s, .int .i64 0] 43)) := by
      have hb : Below w.heap.size w (w.alloc (.cells #[.string s, .int .i64 0] 43)) := (Below.refl _ _).alloc (Nat.le_refl _) _
      refine ⟨?_, hE.below hb, World.ownsRow_nil _ _ _ _, hb, by simp⟩
      show (w.heap.push _)[w.heap.size]? = _
      simp
    have hR : Lx.lexGo s.size (s.size + 1) (sfx s 0) [] = Lx.lex s.data.toList := by
      unfold Lx.lex; rw [if_neg (by omega), sfx_all, hlen]
    have HST := Lib.hid hst
    have HR := Lib.hid hR
    clear hst hR hlen
    go_wp2_with fail
    go_loopg [6, 7, 8] (s.size + 1) (fun k s6 _ _ wr => ∃ a out, a ≤ s.size ∧ s.size < k + a ∧ Lx.lexGo s.size k (sfx s a) out = Lx.lex s.data.toList ∧ out.length ≤ 1500 ∧ Chain s 0 out a ∧ LS w s a s6 out wr)
    case atStart => exact ⟨0, [], Nat.zero_le _, by omega, HR.out, by simp, Nat.le_refl _, HST.out⟩
    case round =>
      obtain ⟨a, out, ha, hk, hR, hol, hch, hL⟩ := hrel
      have HCH := Lib.hid hch
      have HR := Lib.hid hR
      clear hR HST hch
      go_wp2_with fail
      refine (gap_any w.heap.size s a wr (by omega) ha hL.scan hL.env h3).mono ?_
      rintro e w2 ⟨b, r, hab, hb, hgap, rfl, hS2, hF2⟩
      have hL2 := hL.call h3 hS2 hF2
      clear hL
      obtain ⟨n, rfl⟩ : ∃ n, gk = n + 1 := ⟨gk - 1, by omega⟩
      have hd0 : decide ((sfx s a).length = s.size) = decide (a = 0) := by
        rw [sfx_len]; by_cases h0 : a = 0 <;> simp [h0]; omega
      have c1 := hL2.scan.c1
      have hr1 := HR.out
      rw [Lx.lexGo, hd0, hgap, sfx_len] at hr1
      clear HR hd0 hgap hS2 hF2
      cases r
      · rw [if_pos rfl, show s.size - (s.size - b) = b by omega] at hr1
        have HRR := Lib.hid hr1
        clear hr1
        go_wp2_with fail
        refine wp_region_cuts [] (by kernel_rfl) (by kernel_rfl) ?_; simp only [wpMix, List.take_succ_cons, List.take_zero, List.drop_succ_cons, List.drop_zero, Nat.sub_zero, Nat.reduceSub, Nat.reduceAdd]
        repeat (go_big_quiet_step (fail))
        refine wpQuiet_nil ?_; rintro _ ⟨nq, rfl⟩
        go_wp2
        refine bodyPost_ret (v := .tuple #[.slice none 0 0, .int .i64 b, .int .i64 40]) (by simp [results, Tryd.results10, go_sem]) rfl ?_
        exact ⟨Below.drewN hL2.bel _, .inr ⟨b, 40, HRR.out.symm, rfl, .inr (.inr rfl)⟩⟩
      · rw [if_neg (by simp)] at hr1
        by_cases hbe : b = s.size
        · rw [if_pos (by omega)] at hr1
          have HRR := Lib.hid hr1
          have e1 := eqT (n := b) (k := s.size) (by omega)
          clear hr1
          go_wp2_with (first | (at_builtin; refine wpList_append_own _ rfl _ _ 23 rfl (w.heap.size + 1) 28 i0 (.agg #[.int .i64 0, .string ⟨#[]⟩, .int .i64 0]) 3 32 Tryd.underlying23 hi hz0 hz1 hz2 rfl (by decide) _ _ _ rfl (hL2.alloc _).own ⟨w2.heap.size, 0, none⟩ 1 1 [.int .i64 0, .string ⟨#[]⟩, .int .i64 s.size] rfl rfl ?c1 ?c2 ?c3 ?c4 ?c5 ?_) | fail)
          case c1 =>
            intro j u hj
            match j, hj with
            | 0, hj => simp at hj; subst hj; simp [Addr.add]
            | 1, hj => simp at hj; subst hj; simp [Addr.add]
            | 2, hj => simp at hj; subst hj; simp [Addr.add]
            | (j + 3), hj => simp at hj
          case c2 => intro u hu; simp at hu; rcases hu with rfl | rfl | rfl <;> rfl
          case c3 => unfold maxLen; omega
          case c4 => omega
          case c5 => have := hL2.hi; simp; omega
          intro v' w3 hown' hgrow _
          have hL3 := (hL2.alloc _).grown (out' := out ++ [⟨0, [], s.size⟩]) h3 (by unfold Toks; rw [tokCells_snoc, List.length_append]; exact hown') hgrow
          clear hown' hgrow hL2 c1
          go_wp2
          refine bodyPost_ret (v := .tuple #[v', .int .i64 0, .int .i64 0]) (by simp [results, Tryd.results10, go_sem]) rfl ?_
          exact ⟨hL3.bel, .inl ⟨_, v', HRR.out.symm, rfl, hL3.own, ⟨by simp; omega, out, rfl, HCH.out.mono (by omega)⟩⟩⟩
        · rw [if_neg (by omega)] at hr1
          have HRR := Lib.hid hr1
          have e1 := eqF (n := b) (k := s.size) (by omega)
          clear hr1
          go_wp2_with fail
          refine (token_any w.heap.size s b _ (by omega) (by omega) hL2.scan hL2.env h3).mono ?_
          rintro e w3 ⟨c, hbc, hc, hS3, hF3, hE3, hres⟩
          have hL3 := hL2.call h3 hS3 hF3
          clear hL2 hS3 hF3 c1
          rcases hres with ⟨k, T, htk, hbc2, hk1, hk5, hTl, rfl⟩ | ⟨htk, K, T, rfl⟩
          · have hr1 := HRR.out
            rw [htk, show s.size - (s.size - b) = b by omega] at hr1
            replace hr1 : (if out.length = 1500 then Lx.Res.err b 8 else Lx.lexGo s.size n (sfx s c) (out ++ [⟨k, T, b⟩])) = Lx.lex s.data.toList := hr1
            have HTO := Lib.hid (tokOk_of htk hbc2 hc hk1 hk5)
            clear HRR htk
            have hL4 := hL3.alloc (.cells #[.int .i64 k, .string ⟨T.toArray⟩, .int .i64 b] 28)
            obtain ⟨oa, oc, rfl⟩ := hL4.own.form
            by_cases h15 : out.length = 1500
            · rw [if_pos h15] at hr1
              have HRR := Lib.hid hr1
              have e2 := eqT (n := out.length) (k := 1500) (by omega)
              clear hr1 hL3
              go_wp2_with fail
              refine wp_region_cuts [] (by kernel_rfl) (by kernel_rfl) ?_; simp only [wpMix, List.take_succ_cons, List.take_zero, List.drop_succ_cons, List.drop_zero, Nat.sub_zero, Nat.reduceSub, Nat.reduceAdd]
              repeat (go_big_quiet_step (fail))
              refine wpQuiet_nil ?_; rintro _ ⟨nq, rfl⟩
              go_wp2
              refine bodyPost_ret (v := .tuple #[.slice none 0 0, .int .i64 b, .int .i64 8]) (by simp [results, Tryd.results10, go_sem]) rfl ?_
              exact ⟨Below.drewN hL4.bel _, .inr ⟨b, 8, HRR.out.symm, rfl, .inr (.inl rfl)⟩⟩
            · rw [if_neg h15] at hr1
              have HRR := Lib.hid hr1
              have e2 := eqF (n := out.length) (k := 1500) (by omega)
              clear hr1
              go_wp2_with (first | (at_builtin; refine wpList_append_own _ rfl _ _ 23 rfl (w.heap.size + 1) 28 i0 (.agg #[.int .i64 0, .string ⟨#[]⟩, .int .i64 0]) 3 32 Tryd.underlying23 hi hz0 hz1 hz2 rfl (by decide) _ _ _ rfl (hL4.alloc _).own ⟨w3.heap.size + 1, 0, none⟩ 1 1 [.int .i64 k, .string ⟨T.toArray⟩, .int .i64 b] rfl rfl ?d1 ?d2 ?d3 ?d4 ?d5 ?_) | fail)
              case d1 =>
                intro j u hj
                match j, hj with
                | 0, hj => simp at hj; subst hj; simp [Addr.add]
                | 1, hj => simp at hj; subst hj; simp [Addr.add]
                | 2, hj => simp at hj; subst hj; simp [Addr.add]
                | (j + 3), hj => simp at hj
              case d2 => intro u hu; simp at hu; rcases hu with rfl | rfl | rfl <;> rfl
              case d3 => unfold maxLen; omega
              case d4 => omega
              case d5 => have := hL4.hi; simp at this; simp; omega
              intro v' w5 hown' hgrow _
              have hL5 := (hL4.alloc _).grown (out' := out ++ [⟨k, T, b⟩]) h3 (by unfold Toks; rw [tokCells_snoc, List.length_append]; exact hown') hgrow
              clear hown' hgrow hL4 hL3
              go_wp2
              go_roundg n
              case measure => omega
              case rel => exact ⟨c, _, hc, by omega, HRR.out, by rw [List.length_append]; simp; omega, (HCH.out.mono hab).snoc HTO.out.1 HTO.out.2, hL5⟩
          · have hr1 := HRR.out
            rw [htk, show s.size - (s.size - b) = b by omega] at hr1
            have HRR := Lib.hid hr1
            clear hr1 htk
            go_wp2_with fail
            refine wp_region_cuts [] (by kernel_rfl) (by kernel_rfl) ?_; simp only [wpMix, List.take_succ_cons, List.take_zero, List.drop_succ_cons, List.drop_zero, Nat.sub_zero, Nat.reduceSub, Nat.reduceAdd]
            repeat (go_big_quiet_step (fail))
            refine wpQuiet_nil ?_; rintro _ ⟨nq, rfl⟩
            go_wp2
            refine bodyPost_ret (v := .tuple #[.slice none 0 0, .int .i64 b, .int .i64 40]) (by simp [results, Tryd.results10, go_sem]) rfl ?_
            exact ⟨Below.drewN (hL3.alloc _).bel _, .inr ⟨b, 40, HRR.out.symm, rfl, .inr (.inr rfl)⟩⟩
end Go.Proofs.YtonblegbnkfhbaaDoor
