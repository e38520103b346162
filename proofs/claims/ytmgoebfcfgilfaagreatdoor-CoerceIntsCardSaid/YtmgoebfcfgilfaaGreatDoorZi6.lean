/-
  Base words of our own: bytes of a string, endings, the frame of a call that writes one old block alone. Where the tokens stand in the text. A token stands by itself: laid between other gaps it is the same token (no program in sight). Tokens with other gaps between are the same tokens (no program in sight). A text of words and blanks: its tokens (no program in sight). Selection sets and lists in one another, plain: what 'Parse' answers (no program in sight). The reader, plain: which tokens are eaten, and where what is read stands (no program in sight). The reader of types, plain: where what is read stands, and what is so of it (no program in sight). The reader on tokens that go on behind an end: it reads the same (no program in sight). Values and types in a text, as plain functions; names alone; what is deep (no program in sight).
-/
import Derived.Test.YtmgoebfcfgilfaaGreatDoorProg
import Derived.WalkKit
import Derived.WalkLawsBesides
import Derived.WalkSpells
import Derived.BigQuiet
import Derived.Deep.QuietTactic
import Derived.StillTailTactics
import Derived.Lib.Hide
import Derived.Test.YtmgoebfcfgilfaaGreatDoorZi3
import Derived.Test.YtmgoebfcfgilfaaGreatDoorZi5
import Derived.Test.YtmgoebfcfgilfaaGreatDoorZi4
namespace Go.Proofs.YtmgoebfcfgilfaaGreatDoor
set_option linter.unusedSimpArgs false
set_option linter.unusedVariables false
open Go Go.RowKit

theorem ret_bool {a b : Bool} (h : a = b) : Ending.returned (.bool a) = .returned (.bool b) := by rw [h]
theorem ret_int {k : IntKind} {a b : Int} (h : a = b) : Ending.returned (.int k a) = .returned (.int k b) := by rw [h]

/-- The byte at a place; 0 behind the end. -/
def bt (s : ByteArray) (n : Nat) : UInt8 := s.data.toList.getD n 0
/-- What stands from a place on. -/
def sfx (s : ByteArray) (n : Nat) : List UInt8 := s.data.toList.drop n

theorem getElem_bt (s : ByteArray) (n : Nat) (h : n < s.size) : s[n]'h = bt s n := by
  have h' : n < s.data.toList.length := by simpa using h
  show s.data[n]'h = _
  unfold bt
  rw [List.getD_eq_getElem?_getD, List.getElem?_eq_getElem h']
  simp

theorem sfx_len (s : ByteArray) (n : Nat) : (sfx s n).length = s.size - n := by unfold sfx; simp
theorem sfx_all (s : ByteArray) : sfx s 0 = s.data.toList := by simp [sfx]
theorem sfx_end (s : ByteArray) (n : Nat) (h : s.size ≤ n) : sfx s n = [] := by
  have := sfx_len s n; exact List.eq_nil_of_length_eq_zero (by omega)
theorem sfx_cons (s : ByteArray) (n : Nat) (h : n < s.size) : sfx s n = bt s n :: sfx s (n + 1) := by
  unfold sfx bt
  have h' : n < s.data.toList.length := by simpa using h
  rw [List.drop_eq_getElem_cons h', List.getD_eq_getElem?_getD, List.getElem?_eq_getElem h']
  simp
theorem sfx_drop (s : ByteArray) (n k : Nat) : (sfx s n).drop k = sfx s (n + k) := by simp [sfx, List.drop_drop]
theorem bt_end (s : ByteArray) (n : Nat) (h : s.size ≤ n) : bt s n = 0 := by
  unfold bt; rw [List.getD_eq_getElem?_getD, List.getElem?_eq_none (by simpa using h)]; rfl
theorem sfx_getD (s : ByteArray) (n k : Nat) : (sfx s n).getD k 0 = bt s (n + k) := by
  unfold sfx bt; simp [List.getD_eq_getElem?_getD, List.getElem?_drop]

@[go_sem high] theorem run_index_bt {P : Program} (w : World) (t : TypeId) (s : ByteArray) (k : IntKind) (i : Int) (h : P.underlying t = some .string) :
    (Instr.index t (.string s) (.int k i)).run P w = if 0 ≤ i ∧ i < s.size then .ok (.int .u8 (bt s i.toNat).toNat) w else (boundsPanic k i s.size .index).run P w := by
  rw [run_index_string w t s k i h]
  by_cases hi : 0 ≤ i ∧ i < s.size
  · rw [dif_pos hi, if_pos hi, getElem_bt]
  · rw [dif_neg hi, if_neg hi]

/-- w' is w, but for the blocks that X names, and for new ones. -/
structure But (X : Nat → Prop) (w w' : World) : Prop where
  os : w'.os = w.os
  tape : w'.tape = w.tape
  output : w'.output = w.output
  size : w.heap.size ≤ w'.heap.size
  block : ∀ k, k < w.heap.size → ¬ X k → w'.heap[k]? = w.heap[k]?

theorem But.refl (X : Nat → Prop) (w : World) : But X w w := ⟨rfl, rfl, rfl, Nat.le_refl _, fun _ _ _ => rfl⟩
theorem But.trans {X : Nat → Prop} {a b c : World} (h : But X a b) (k : But X b c) : But X a c :=
  ⟨k.os.trans h.os, k.tape.trans h.tape, k.output.trans h.output, Nat.le_trans h.size k.size,
   fun i hi hx => (k.block i (Nat.lt_of_lt_of_le hi h.size) hx).trans (h.block i hi hx)⟩
theorem But.mono {X Y : Nat → Prop} {w w' : World} (h : But X w w') (hxy : ∀ k, k < w.heap.size → X k → Y k) : But Y w w' :=
  ⟨h.os, h.tape, h.output, h.size, fun k hk hy => h.block k hk (fun hx => hy (hxy k hk hx))⟩
theorem But.drewN {X : Nat → Prop} {a w : World} (h : But X a w) (n : Nat) : But X a (w.drewN n) :=
  h.trans ⟨rfl, rfl, rfl, Nat.le_refl _, fun _ _ _ => rfl⟩
theorem But.drew {X : Nat → Prop} {a w : World} (h : But X a w) : But X a w.drew :=
  h.trans ⟨rfl, rfl, rfl, Nat.le_refl _, fun _ _ _ => rfl⟩
theorem But.alloc {X : Nat → Prop} {a w : World} (h : But X a w) (o : Obj) : But X a (w.alloc o) :=
  h.trans ⟨rfl, rfl, rfl, by simp, fun k hk _ => Below.heap_alloc _ _ _ hk⟩
theorem But.setCell {X : Nat → Prop} {a w : World} (h : But X a w) {p : Addr} (hp : X p.block ∨ a.heap.size ≤ p.block) (u : Value) : But X a (w.setCell p u) :=
  ⟨h.os, h.tape, h.output, by have := h.size; simpa [World.setCell] using this,
   fun k hk hx => by rw [Below.heap_setCell _ _ _ _ (fun e => by subst e; rcases hp with hp | hp; exact hx hp; omega)]; exact h.block k hk hx⟩
theorem But.of_below {X : Nat → Prop} {w w' : World} (h : Below w.heap.size w w') : But X w w' :=
  ⟨h.os, h.tape, h.output, h.size, fun k hk _ => h.block k hk⟩
theorem But.below {w w' : World} (h : But (fun _ => False) w w') : Below w.heap.size w w' :=
  ⟨h.os, h.tape, h.output, h.size, fun k hk => h.block k hk (fun hf => hf)⟩
theorem But.cell {X : Nat → Prop} {w w' : World} (h : But X w w') {p : Addr} (hp : p.block < w.heap.size) (hx : ¬ X p.block) : w'.cell? p = w.cell? p :=
  World.cell?_of_block (w := w) (h.block p.block hp hx)
theorem But.frozen {X : Nat → Prop} {w w' : World} (h : But X w w') {p : Addr} (hp : p.block < w.heap.size) (hx : ¬ X p.block) : w'.frozen? p = w.frozen? p :=
  World.frozen?_of_block (w := w) (h.block p.block hp hx)

theorem Below.drewN {B : Nat} {a w : World} (h : Below B a w) (n : Nat) : Below B a (w.drewN n) := h.trans ⟨rfl, rfl, rfl, Nat.le_refl _, fun _ _ => rfl⟩
theorem Below.undrew {w w' : World} {n : Nat} (h : Below (w.drewN n).heap.size (w.drewN n) w') : Below w.heap.size w w' := ⟨h.os, h.tape, h.output, h.size, h.block⟩
theorem But.undrew {X : Nat → Prop} {w w' : World} {n : Nat} (h : But X (w.drewN n) w') : But X w w' := ⟨h.os, h.tape, h.output, h.size, h.block⟩

theorem eqF {n : Nat} {k : Int} (h : (n : Int) ≠ k) : ((n : Int) == k) = false := by rw [beq_eq_false_iff_ne]; exact h
theorem eqT {n : Nat} {k : Int} (h : (n : Int) = k) : ((n : Int) == k) = true := by rw [beq_iff_eq]; exact h
theorem neF {n : Nat} {k : Int} (h : (n : Int) = k) : ((n : Int) != k) = false := by simp [h]
theorem neT {n : Nat} {k : Int} (h : (n : Int) ≠ k) : ((n : Int) != k) = true := by simp [h]
end Go.Proofs.YtmgoebfcfgilfaaGreatDoor
namespace Go.Proofs.YtmgoebfcfgilfaaGreatDoor
set_option linter.unusedSimpArgs false
set_option linter.unusedVariables false
open Go Go.RowKit

/-- Behind a token, as far as its text tells. -/
def endOf (t : Lx.Tok) : Nat := if t.kind = 4 then t.at_ + 1 else t.at_ + t.text.length
/-- A token that stands in the text at its place, not before p. -/
structure TokOk (s : ByteArray) (p : Nat) (t : Lx.Tok) : Prop where
  k1 : 1 ≤ t.kind
  k5 : t.kind ≤ 5
  lo : p ≤ t.at_
  hi : t.at_ < s.size
  quote : t.kind = 4 → bt s t.at_ = 34
  pos : t.kind ≠ 4 → 0 < t.text.length
  fits : t.kind ≠ 4 → t.at_ + t.text.length ≤ s.size
  same : t.kind ≠ 4 → t.text = (sfx s t.at_).take t.text.length
/-- One behind the other, from p on, no further than q. -/
def Chain (s : ByteArray) : Nat → List Lx.Tok → Nat → Prop
  | p, [], q => p ≤ q
  | p, t :: ts, q => TokOk s p t ∧ Chain s (endOf t) ts q
theorem Chain.mono {s : ByteArray} : ∀ {ts : List Lx.Tok} {p q q' : Nat}, Chain s p ts q → q ≤ q' → Chain s p ts q'
  | [], _, _, _, h, hq => Nat.le_trans h hq
  | _ :: ts, _, _, _, h, hq => ⟨h.1, Chain.mono h.2 hq⟩
theorem TokOk.mono {s : ByteArray} {p p' : Nat} {t : Lx.Tok} (h : TokOk s p t) (hp : p' ≤ p) : TokOk s p' t := { h with lo := Nat.le_trans hp h.lo }
theorem Chain.snoc {s : ByteArray} : ∀ {ts : List Lx.Tok} {p q q' : Nat} {t : Lx.Tok}, Chain s p ts q → TokOk s q t → endOf t ≤ q' → Chain s p (ts ++ [t]) q'
  | [], _, _, _, _, h, ht, hq => ⟨ht.mono h, hq⟩
  | _ :: ts, _, _, _, _, h, ht, hq => ⟨h.1, Chain.snoc h.2 ht hq⟩

theorem number_kind {l : List UInt8} {r : Nat × List UInt8} (h : Lx.number l = some r) : r.1 = 2 ∨ r.1 = 3 := by
  have h1 : ∀ (x y : Nat × List UInt8), Lx.numEnd x = some y → y = x := by
    intro x y h
    unfold Lx.numEnd at h
    split at h
    · cases h
    · exact (Option.some.inj h).symm
  have h2 : ∀ (x y : Nat × List UInt8), Lx.numExp x = some y → y.1 = x.1 ∨ y.1 = 3 := by
    intro x y h
    unfold Lx.numExp at h
    split at h
    · dsimp only at h
      repeat' split at h
      all_goals first | exact .inr (by rw [h1 _ _ h]) | cases h
    · exact .inl (by rw [h1 _ _ h])
  have h3 : ∀ (x : List UInt8) (y : Nat × List UInt8), Lx.numFrac x = some y → y.1 = 2 ∨ y.1 = 3 := by
    intro x y h
    unfold Lx.numFrac at h
    split at h
    · split at h
      · cases h
      · rcases h2 _ _ h with e | e
        · exact .inr e
        · exact .inr e
    · rcases h2 _ _ h with e | e
      · exact .inl e
      · exact .inr e
  unfold Lx.number at h
  dsimp only at h
  repeat' split at h
  all_goals first | exact h3 _ _ h | cases h

theorem token_shape {l : List UInt8} {k : Nat} {T r : List UInt8} (h : Lx.token l = some (k, T, r)) (hl : 0 < l.length) :
    (k = 4 ∧ Lx.hd l = 34) ∨ (k ≠ 4 ∧ T = l.take (l.length - r.length)) := by
  unfold Lx.token at h
  split at h
  · simp only [Option.some.injEq, Prod.mk.injEq] at h
    obtain ⟨rfl, rfl, rfl⟩ := h
    exact .inr ⟨by decide, rfl⟩
  split at h
  · obtain ⟨p, hp, he⟩ := Option.map_eq_some_iff.1 h
    simp only [Prod.mk.injEq] at he
    obtain ⟨rfl, rfl, rfl⟩ := he
    refine .inr ⟨?_, rfl⟩
    rcases number_kind hp with e | e <;> rw [e] <;> decide
  split at h
  · rename_i hq
    obtain ⟨p, hp, he⟩ := Option.map_eq_some_iff.1 h
    simp only [Prod.mk.injEq] at he
    refine .inl ⟨he.1.symm, ?_⟩
    cases l with
    | nil => simp at hl
    | cons c t =>
      unfold Lx.quotes3 at hq
      have := of_decide_eq_true hq
      simp at this
      exact this.1
  split at h
  · rename_i hq
    obtain ⟨p, hp, he⟩ := Option.map_eq_some_iff.1 h
    simp only [Prod.mk.injEq] at he
    exact .inl ⟨he.1.symm, UInt8.toNat_inj.1 hq⟩
  split at h
  · rename_i hq
    simp only [Option.some.injEq, Prod.mk.injEq] at h
    obtain ⟨rfl, rfl, rfl⟩ := h
    refine .inr ⟨by decide, ?_⟩
    have h3 : 3 ≤ l.length := by
      unfold Lx.dots3 at hq
      have h1 := congrArg List.length (of_decide_eq_true hq)
      rw [List.length_take] at h1
      simp at h1; omega
    rw [List.length_drop]
    congr 1
    omega
  split at h
  · simp only [Option.some.injEq, Prod.mk.injEq] at h
    obtain ⟨rfl, rfl, rfl⟩ := h
    refine .inr ⟨by decide, ?_⟩
    rw [List.length_drop]
    congr 1
    omega
  · cases h

/-- What the lexer's token is, in the chain. -/
theorem tokOk_of {s : ByteArray} {b c k : Nat} {T : List UInt8} (h : Lx.token (sfx s b) = some (k, T, sfx s c)) (hbc : b < c) (hc : c ≤ s.size) (k1 : 1 ≤ k) (k5 : k ≤ 5) :
    TokOk s b ⟨k, T, b⟩ ∧ endOf ⟨k, T, b⟩ ≤ c := by
  have hl : 0 < (sfx s b).length := by rw [sfx_len]; omega
  have hlen : (sfx s b).length - (sfx s c).length = c - b := by rw [sfx_len, sfx_len]; omega
  rcases token_shape h hl with ⟨rfl, hq⟩ | ⟨hk, hT⟩
  · refine ⟨⟨k1, k5, Nat.le_refl _, by show b < s.size; omega, fun _ => ?_, fun h => absurd rfl h, fun h => absurd rfl h, fun h => absurd rfl h⟩, ?_⟩
    · rw [sfx_cons s b (by omega)] at hq
      exact hq
    · unfold endOf
      rw [if_pos rfl]
      exact hbc
  · rw [hlen] at hT
    have hTl : T.length = c - b := by rw [hT, List.length_take, sfx_len]; omega
    refine ⟨⟨k1, k5, Nat.le_refl _, by show b < s.size; omega, fun h => absurd h hk, fun _ => ?_, fun _ => ?_, fun _ => ?_⟩, ?_⟩
    · show 0 < T.length; omega
    · show b + T.length ≤ s.size; omega
    · show T = (sfx s b).take T.length; rw [hTl]; exact hT
    · unfold endOf
      rw [if_neg hk]
      show b + T.length ≤ c
      omega

/-- What the tokens of a text are. -/
structure Std (s : ByteArray) (all : List Lx.Tok) : Prop where
  len : all.length ≤ 1501
  chain : ∃ ts, all = ts ++ [⟨0, [], s.size⟩] ∧ Chain s 0 ts s.size
end Go.Proofs.YtmgoebfcfgilfaaGreatDoor
namespace Go.Proofs.YtmgoebfcfgilfaaGreatDoor
set_option linter.unusedSimpArgs false
set_option linter.unusedVariables false
namespace Lx

/-- A byte that a gap begins with. -/
def gapB (c : UInt8) : Bool := isBlank c || decide (c.toNat = 35)
def gapOk (c : UInt8) : Bool := !gapB c || (!isLetter c && !isDigit c && !isWord c && decide (c.toNat ≠ 46) && decide ((c ||| 32).toNat ≠ 101) && decide (c.toNat ≠ 34))
set_option maxRecDepth 100000 in
theorem gapOk_fin : ∀ n : Fin 256, gapOk (UInt8.ofNat n.val) = true := by decide +kernel
theorem gap_of {c : UInt8} (h : gapB c = true) : isLetter c = false ∧ isDigit c = false ∧ isWord c = false ∧ c.toNat ≠ 46 ∧ (c ||| 32).toNat ≠ 101 ∧ c.toNat ≠ 34 := by
  have := gapOk_fin ⟨c.toNat, UInt8.toNat_lt c⟩
  have hk : gapOk c = true := by simpa using this
  unfold gapOk at hk
  rw [h] at hk
  simp only [Bool.not_true, Bool.false_or, Bool.and_eq_true, decide_eq_true_eq, Bool.not_eq_true'] at hk
  obtain ⟨⟨⟨⟨⟨h1, h2⟩, h3⟩, h4⟩, h5⟩, h6⟩ := hk
  exact ⟨h1, h2, h3, h4, h5, h6⟩

theorem hd_app {a x y : List UInt8} (p : UInt8 → Prop) (h1 : p (hd (a ++ x))) (h2 : p (hd y)) : p (hd (a ++ y)) := by
  cases a with
  | nil => exact h2
  | cons c a => exact h1
theorem hd_cons (c : UInt8) (l : List UInt8) : hd (c :: l) = c := rfl
theorem dw_app (p : UInt8 → Bool) : ∀ (a x : List UInt8), (∀ c ∈ a, p c = true) → p (hd x) = false ∨ x = [] → (a ++ x).dropWhile p = x
  | [], x, _, h => by
    rw [List.nil_append]
    cases x with
    | nil => rfl
    | cons c x =>
      rcases h with h | h
      · rw [List.dropWhile_cons, if_neg (by rw [hd_cons] at h; rw [h]; simp)]
      · cases h
  | c :: a, x, ha, h => by
    rw [List.cons_append, List.dropWhile_cons, if_pos (ha c (by simp))]
    exact dw_app p a x (fun d hd => ha d (by simp [hd])) h
theorem dw_hd (p : UInt8 → Bool) (h0 : p 0 = false) : ∀ l : List UInt8, p (hd (l.dropWhile p)) = false
  | [] => h0
  | c :: l => by
    rw [List.dropWhile_cons]
    split
    · exact dw_hd p h0 l
    · rename_i h; rw [hd_cons]; simpa using h
theorem digits_app {a x : List UInt8} (ha : ∀ c ∈ a, isDigit c = true) (h : isDigit (hd x) = false) : digits (a ++ x) = x := dw_app isDigit a x ha (.inl h)
theorem digits_hd (l : List UInt8) : isDigit (hd (digits l)) = false := dw_hd isDigit (by decide) l
theorem digits_split (l : List UInt8) : ∃ a, l = a ++ digits l ∧ ∀ c ∈ a, isDigit c = true := dw_split isDigit l

/-- What may stand behind a token. -/
def okG (x : List UInt8) : Prop := gapB (hd x) = true

theorem numEnd_some {r r' : Nat × List UInt8} (h : numEnd r = some r') : r' = r := by
  unfold numEnd at h
  split at h
  · cases h
  · simpa using h.symm
theorem numEnd_gap (k : Nat) {x : List UInt8} (h : okG x) : numEnd (k, x) = some (k, x) := by
  obtain ⟨h1, h2, h3, h4, h5, h6⟩ := gap_of h
  unfold numEnd
  rw [if_neg (by simp [h1, h2, h4])]

theorem numExp_pre {k k' : Nat} {l rest : List UInt8} (h : numExp (k, l) = some (k', rest)) : ∃ pre, l = pre ++ rest ∧ ∀ x, okG x → numExp (k, pre ++ x) = some (k', x) := by
  unfold numExp at h
  split at h
  · rename_i he
    simp only [] at h he
    obtain ⟨c, l1, rfl⟩ : ∃ c l1, l = c :: l1 := by
      cases l with
      | nil => exact absurd he (by decide)
      | cons c l1 => exact ⟨c, l1, rfl⟩
    rw [List.drop_one, List.tail_cons] at h
    rw [hd_cons] at he
    by_cases hs : (hd l1).toNat = 43 ∨ (hd l1).toNat = 45
    · rw [if_pos hs] at h
      obtain ⟨d, l2, rfl⟩ : ∃ d l2, l1 = d :: l2 := by
        cases l1 with
        | nil => exact absurd hs (by decide)
        | cons d l2 => exact ⟨d, l2, rfl⟩
      rw [List.drop_one, List.tail_cons] at h
      rw [hd_cons] at hs
      obtain ⟨ds, e1, e2⟩ := digits_split l2
      split at h
      · cases h
      · rename_i hne
        have := numEnd_some h
        simp only [Prod.mk.injEq] at this
        obtain ⟨rfl, rfl⟩ := this
        refine ⟨c :: d :: ds, by rw [List.cons_append, List.cons_append, ← e1], fun x hx => ?_⟩
        have hdg : digits (ds ++ x) = x := digits_app e2 (gap_of hx).2.1
        have hds : ds.length ≠ 0 := fun e => hne (by
          have := congrArg List.length e1
          rw [List.length_append, e] at this
          omega)
        unfold numExp
        rw [if_pos (by exact he)]
        simp only [List.cons_append, List.drop_one, List.tail_cons, hd_cons]
        rw [if_pos hs, hdg, if_neg (by rw [List.length_append]; omega)]
        exact numEnd_gap 3 hx
    · rw [if_neg hs] at h
      obtain ⟨ds, e1, e2⟩ := digits_split l1
      split at h
      · cases h
      · rename_i hne
        have := numEnd_some h
        simp only [Prod.mk.injEq] at this
        obtain ⟨rfl, rfl⟩ := this
        refine ⟨c :: ds, by rw [List.cons_append, ← e1], fun x hx => ?_⟩
        have hdg : digits (ds ++ x) = x := digits_app e2 (gap_of hx).2.1
        have hds : ds.length ≠ 0 := fun e => hne (by
          have := congrArg List.length e1
          rw [List.length_append, e] at this
          omega)
        have hs2 : ¬ ((hd (ds ++ x)).toNat = 43 ∨ (hd (ds ++ x)).toNat = 45) := by
          cases ds with
          | nil => exact absurd rfl hds
          | cons q ds =>
            rw [e1] at hs
            exact hs
        unfold numExp
        rw [if_pos (by exact he)]
        simp only [List.cons_append, List.drop_one, List.tail_cons]
        rw [if_neg hs2, hdg, if_neg (by rw [List.length_append]; omega)]
        exact numEnd_gap 3 hx
  · rename_i he
    have := numEnd_some h
    simp only [Prod.mk.injEq] at this
    obtain ⟨rfl, rfl⟩ := this
    refine ⟨[], rfl, fun x hx => ?_⟩
    unfold numExp
    rw [List.nil_append, if_neg (gap_of hx).2.2.2.2.1]
    exact numEnd_gap _ hx

theorem numFrac_pre {k' : Nat} {l rest : List UInt8} (h : numFrac l = some (k', rest)) : ∃ pre, l = pre ++ rest ∧ ∀ x, okG x → numFrac (pre ++ x) = some (k', x) := by
  unfold numFrac at h
  split at h
  · rename_i he
    obtain ⟨c, l1, rfl⟩ : ∃ c l1, l = c :: l1 := by
      cases l with
      | nil => exact absurd he (by decide)
      | cons c l1 => exact ⟨c, l1, rfl⟩
    rw [List.drop_one, List.tail_cons] at h
    rw [hd_cons] at he
    obtain ⟨ds, e1, e2⟩ := digits_split l1
    split at h
    · cases h
    · rename_i hne
      obtain ⟨pre, e3, e4⟩ := numExp_pre h
      refine ⟨c :: (ds ++ pre), by rw [List.cons_append, List.append_assoc, ← e3, ← e1], fun x hx => ?_⟩
      have hd0 : isDigit (hd (pre ++ x)) = false := hd_app (x := rest) (fun c => isDigit c = false) (by rw [← e3]; exact digits_hd l1) (gap_of hx).2.1
      have hdg : digits (ds ++ (pre ++ x)) = pre ++ x := digits_app e2 hd0
      have hds : ds.length ≠ 0 := fun e => hne (by
        have := congrArg List.length e1
        rw [List.length_append, e] at this
        omega)
      unfold numFrac
      have hap : (ds ++ (pre ++ x)).length = ds.length + (pre ++ x).length := List.length_append
      rw [List.cons_append, hd_cons, if_pos he, List.drop_one, List.tail_cons, List.append_assoc, hdg, if_neg (by omega)]
      exact e4 x hx
  · rename_i he
    obtain ⟨pre, e3, e4⟩ := numExp_pre h
    refine ⟨pre, e3, fun x hx => ?_⟩
    unfold numFrac
    rw [if_neg (hd_app (x := rest) (fun c => ¬ c.toNat = 46) (by rw [← e3]; exact he) (gap_of hx).2.2.2.1)]
    exact e4 x hx

theorem number_pre {k' : Nat} {l rest : List UInt8} (h : number l = some (k', rest)) : ∃ pre, l = pre ++ rest ∧ ∀ x, okG x → number (pre ++ x) = some (k', x) := by
  have key : ∀ l1 : List UInt8, (if (digits l1).length = l1.length ∨ ((hd l1).toNat = 48 ∧ 1 < l1.length - (digits l1).length) then none else numFrac (digits l1)) = some (k', rest) →
      ∃ ds pre, l1 = ds ++ (pre ++ rest) ∧ ds ≠ [] ∧ ∀ x, okG x → (if (digits (ds ++ (pre ++ x))).length = (ds ++ (pre ++ x)).length ∨ ((hd (ds ++ (pre ++ x))).toNat = 48 ∧ 1 < (ds ++ (pre ++ x)).length - (digits (ds ++ (pre ++ x))).length) then none else numFrac (digits (ds ++ (pre ++ x)))) = some (k', x) := by
    intro l1 h
    split at h
    · cases h
    · rename_i hne
      obtain ⟨ds, e1, e2⟩ := digits_split l1
      obtain ⟨pre, e3, e4⟩ := numFrac_pre h
      have hds : ds ≠ [] := fun e => hne (.inl (by rw [e, List.nil_append] at e1; rw [← e1]))
      refine ⟨ds, pre, by rw [← e3, ← e1], hds, fun x hx => ?_⟩
      have hd0 : isDigit (hd (pre ++ x)) = false := hd_app (x := rest) (fun c => isDigit c = false) (by rw [← e3]; exact digits_hd l1) (gap_of hx).2.1
      have hdg : digits (ds ++ (pre ++ x)) = pre ++ x := digits_app e2 hd0
      have hdl : 0 < ds.length := List.length_pos_iff.2 hds
      have hh : hd (ds ++ (pre ++ x)) = hd l1 := by
        cases ds with
        | nil => exact absurd rfl hds
        | cons q ds => rw [e1]; rfl
      have hle : l1.length - (digits l1).length = ds.length := by
        have := congrArg List.length e1
        rw [List.length_append] at this
        omega
      rw [hdg, hh, if_neg]
      · exact e4 x hx
      · have hap : (ds ++ (pre ++ x)).length = ds.length + (pre ++ x).length := List.length_append
        rw [hap]
        intro hc
        rcases hc with hc | ⟨hc1, hc2⟩
        · omega
        · exact hne (.inr ⟨hc1, by omega⟩)
  unfold number at h
  by_cases hm : (hd l).toNat = 45
  · rw [if_pos hm] at h
    obtain ⟨c, l1, rfl⟩ : ∃ c l1, l = c :: l1 := by
      cases l with
      | nil => exact absurd hm (by decide)
      | cons c l1 => exact ⟨c, l1, rfl⟩
    rw [List.drop_one, List.tail_cons] at h
    obtain ⟨ds, pre, e1, e2, e3⟩ := key l1 h
    refine ⟨c :: (ds ++ pre), by rw [List.cons_append, List.append_assoc, ← e1], fun x hx => ?_⟩
    unfold number
    have hm2 : c.toNat = 45 := hm
    rw [List.cons_append, hd_cons, if_pos hm2, List.drop_one, List.tail_cons, List.append_assoc]
    exact e3 x hx
  · rw [if_neg hm] at h
    obtain ⟨ds, pre, e1, e2, e3⟩ := key l h
    refine ⟨ds ++ pre, by rw [List.append_assoc, ← e1], fun x hx => ?_⟩
    have hh : hd (ds ++ (pre ++ x)) = hd l := by
      cases ds with
      | nil => exact absurd rfl e2
      | cons q ds => rw [e1]; rfl
    unfold number
    rw [List.append_assoc, hh, if_neg hm]
    exact e3 x hx

/-- A token's word in the other text. -/
def word (k : Nat) (T : List UInt8) : List UInt8 := if k = 4 then quote T else T
/-- A byte that stops a gap. -/
def stopB (c : UInt8) : Bool := !isBlank c && decide (c.toNat ≠ 35) && decide (c.toNat ≠ 239)
/-- A token that stands by itself. -/
structure Good (k : Nat) (T : List UInt8) : Prop where
  tok : ∀ x, okG x → token (word k T ++ x) = some (k, T, x)
  stop : stopB (hd (word k T)) = true
  ne : word k T ≠ []
  val : k = 4 → valid T = true

def tokOk (c : UInt8) : Bool := (!isLetter c || (stopB c && isWord c)) && (!isDigit c || (stopB c)) && (!signs.contains c || (stopB c && !isLetter c && !isDigit c && decide (c.toNat ≠ 45) && decide (c.toNat ≠ 34) && decide (c.toNat ≠ 46) && decide (c.toNat ≠ 0)))
set_option maxRecDepth 100000 in
theorem tokOk_fin : ∀ n : Fin 256, tokOk (UInt8.ofNat n.val) = true := by decide +kernel
theorem tok_of (c : UInt8) : (isLetter c = true → stopB c = true ∧ isWord c = true) ∧ (isDigit c = true → stopB c = true) ∧ (signs.contains c = true → stopB c = true ∧ isLetter c = false ∧ isDigit c = false ∧ c.toNat ≠ 45 ∧ c.toNat ≠ 34 ∧ c.toNat ≠ 46 ∧ c.toNat ≠ 0) := by
  have := tokOk_fin ⟨c.toNat, UInt8.toNat_lt c⟩
  have hk : tokOk c = true := by simpa using this
  unfold tokOk at hk
  simp only [Bool.and_eq_true, Bool.or_eq_true, decide_eq_true_eq, Bool.not_eq_true'] at hk
  obtain ⟨⟨h1, h2⟩, h3⟩ := hk
  refine ⟨fun h => ?_, fun h => ?_, fun h => ?_⟩
  · rcases h1 with h1 | h1
    · rw [h] at h1; cases h1
    · exact h1
  · rcases h2 with h2 | h2
    · rw [h] at h2; cases h2
    · exact h2
  · rcases h3 with h3 | ⟨⟨⟨⟨⟨⟨a1, a2⟩, a3⟩, a4⟩, a5⟩, a6⟩, a7⟩
    · rw [h] at h3; cases h3
    · exact ⟨a1, a2, a3, a4, a5, a6, a7⟩

theorem take_pre (a b : List UInt8) : (a ++ b).take ((a ++ b).length - b.length) = a := by
  rw [List.length_append, show a.length + b.length - b.length = a.length by omega, List.take_left]
theorem word_not4 {k : Nat} (h : k ≠ 4) (T : List UInt8) : word k T = T := if_neg h

theorem good_of {l : List UInt8} {k : Nat} {T r : List UInt8} (h : token l = some (k, T, r)) : Good k T := by
  unfold token at h
  by_cases c1 : isLetter (hd l) = true
  · rw [if_pos c1] at h
    simp only [Option.some.injEq, Prod.mk.injEq] at h
    obtain ⟨rfl, rfl, rfl⟩ := h
    obtain ⟨a, e1, e2⟩ := dw_split isWord l
    generalize hr : l.dropWhile isWord = r at *
    subst e1
    rw [take_pre]
    have ht := (tok_of (hd (a ++ r))).1 c1
    have hne : a ≠ [] := fun e => by
      rw [e, List.nil_append] at hr ht
      have := dw_hd isWord (by decide) r
      rw [hr] at this
      rw [this] at ht
      cases ht.2
    have hh : ∀ x, hd (a ++ x) = hd (a ++ r) := fun x => by
      cases a with
      | nil => exact absurd rfl hne
      | cons q a => rfl
    refine ⟨fun x hx => ?_, ?_, by rw [word_not4 (by decide)]; exact hne, fun e => by cases e⟩
    · rw [word_not4 (by decide)]
      unfold token
      rw [hh x, if_pos c1, dw_app isWord a x e2 (.inl (gap_of hx).2.2.1), take_pre]
    · rw [word_not4 (by decide)]
      have := hh []
      rw [List.append_nil] at this
      rw [this]; exact ht.1
  rw [if_neg c1] at h
  by_cases c2 : (hd l).toNat = 45 ∨ isDigit (hd l) = true
  · rw [if_pos c2] at h
    cases hn : number l with
    | none => rw [hn] at h; cases h
    | some p =>
      obtain ⟨k', rest⟩ := p
      rw [hn] at h
      simp only [Option.map_some, Option.some.injEq, Prod.mk.injEq] at h
      obtain ⟨rfl, rfl, rfl⟩ := h
      have hk := number_kind hn
      simp only [] at hk
      obtain ⟨pre, e1, e2⟩ := number_pre hn
      subst e1
      rw [take_pre]
      have hne : pre ≠ [] := fun e => by
        have h0 := e2 [32] (by unfold okG; decide)
        rw [e, List.nil_append, show number [32] = none from by decide] at h0
        cases h0
      have hh : ∀ x, hd (pre ++ x) = hd (pre ++ rest) := fun x => by
        cases pre with
        | nil => exact absurd rfl hne
        | cons q a => rfl
      have hw : word k' pre = pre := word_not4 (by omega) pre
      refine ⟨fun x hx => ?_, ?_, by rw [hw]; exact hne, fun e => by omega⟩
      · rw [hw]
        unfold token
        rw [hh x, if_neg c1, if_pos c2, e2 x hx]
        simp only [Option.map_some]
        rw [take_pre]
      · rw [hw]
        have := hh []
        rw [List.append_nil] at this
        rw [this]
        rcases c2 with c2 | c2
        · have : hd (pre ++ rest) = 45 := UInt8.toNat_inj.1 (by rw [c2]; rfl)
          rw [this]; decide
        · exact (tok_of _).2.1 c2
  rw [if_neg c2] at h
  have strg : ∀ m : List UInt8, V m → Good 4 m := fun m hm => by
    have hv : valid m = true := V_valid hm _ (Nat.le_refl _)
    refine ⟨fun x hx => ?_, ?_, ?_, fun _ => hv⟩
    · show token (quote m ++ x) = _
      exact token_quote m x hv (gap_of hx).2.2.2.2.2
    · show stopB 34 = true
      decide
    · show quote m ≠ []
      unfold quote
      simp
  by_cases c3 : quotes3 l = true
  · rw [if_pos c3] at h
    cases hb : block [] (l.drop 3) with
    | none => rw [hb] at h; cases h
    | some p =>
      rw [hb] at h
      simp only [Option.map_some, Option.some.injEq, Prod.mk.injEq] at h
      obtain ⟨rfl, rfl, rfl⟩ := h
      exact strg _ (V_dedent (V_block _ _ _ _ _ (Nat.le_refl _) .nil hb))
  rw [if_neg c3] at h
  by_cases c4 : (hd l).toNat = 34
  · rw [if_pos c4] at h
    cases hb : text [] (l.drop 1) with
    | none => rw [hb] at h; cases h
    | some p =>
      rw [hb] at h
      simp only [Option.map_some, Option.some.injEq, Prod.mk.injEq] at h
      obtain ⟨rfl, rfl, rfl⟩ := h
      exact strg _ (V_text _ _ _ _ _ (Nat.le_refl _) .nil hb)
  rw [if_neg c4] at h
  by_cases c5 : dots3 l = true
  · rw [if_pos c5] at h
    simp only [Option.some.injEq, Prod.mk.injEq] at h
    obtain ⟨rfl, rfl, rfl⟩ := h
    have e : l.take 3 = [46, 46, 46] := by simpa [dots3] using c5
    rw [e]
    refine ⟨fun x hx => ?_, by decide, by decide, fun e => by cases e⟩
    show token (46 :: 46 :: 46 :: x) = _
    unfold token
    rw [if_neg (by rw [hd_cons]; decide), if_neg (by rw [hd_cons]; decide), if_neg (by simp [quotes3]), if_neg (by rw [hd_cons]; decide), if_pos (by simp [dots3])]
    rfl
  rw [if_neg c5] at h
  by_cases c6 : (hd l).toNat ≠ 0 ∧ signs.contains (hd l) = true
  · rw [if_pos c6] at h
    simp only [Option.some.injEq, Prod.mk.injEq] at h
    obtain ⟨rfl, rfl, rfl⟩ := h
    obtain ⟨c, t, rfl⟩ : ∃ c t, l = c :: t := by
      cases l with
      | nil => exact absurd rfl c6.1
      | cons c t => exact ⟨c, t, rfl⟩
    rw [hd_cons] at c6
    obtain ⟨a1, a2, a3, a4, a5, a6, a7⟩ := (tok_of c).2.2 c6.2
    show Good 5 [c]
    refine ⟨fun x hx => ?_, by rw [word_not4 (by decide)]; exact a1, by rw [word_not4 (by decide)]; simp, fun e => by cases e⟩
    rw [word_not4 (by decide)]
    show token (c :: x) = _
    unfold token
    rw [hd_cons, if_neg (by rw [a2]; simp), if_neg (by rw [a3]; simp [a4]), if_neg, if_neg a5, if_neg, if_pos ⟨a7, c6.2⟩]
    · rfl
    · unfold dots3
      rw [decide_eq_true_eq]
      intro e
      simp at e
      exact a6 (by rw [e.1]; rfl)
    · unfold quotes3
      rw [decide_eq_true_eq]
      intro e
      simp at e
      exact a5 (by rw [e.1]; rfl)
  · rw [if_neg c6] at h; cases h
end Lx
end Go.Proofs.YtmgoebfcfgilfaaGreatDoor
namespace Go.Proofs.YtmgoebfcfgilfaaGreatDoor
set_option linter.unusedSimpArgs false
set_option linter.unusedVariables false
namespace Lx

theorem gap_le : ∀ (n : Nat) (f : Bool) (l : List UInt8), l.length ≤ n → (gap f l).1.length ≤ l.length
  | _, f, [], _ => by rw [gap_nil]; exact Nat.zero_le _
  | 0, f, c :: t, h => by simp at h
  | n + 1, f, c :: t, h => by
    have hl : t.length ≤ n := by simpa using h
    cases hb : isBlank c
    · by_cases hbo : f = true ∧ bom (c :: t) = true
      · rw [hbo.1, gap_bom hb hbo.2]
        have := gap_le n false ((c :: t).drop 3) (by rw [List.length_drop]; simp; omega)
        rw [List.length_drop] at this
        omega
      · by_cases h35 : c.toNat = 35
        · rw [gap_rem h35]
          have hr := remark_le t
          have := gap_le n false (remark t).1 (by omega)
          rw [List.length_cons]
          split
          · omega
          · simp only []; omega
        · rw [gap_stop hb hbo h35]
          exact Nat.le_refl _
    · rw [gap_blank hb]
      have := gap_le n false t hl
      rw [List.length_cons]
      omega
theorem text_len : ∀ (n : Nat) (l out m r : List UInt8), l.length ≤ n → text out l = some (m, r) → m.length ≤ out.length + 4 * l.length ∧ r.length ≤ l.length
  | _, [], out, m, r, _, h => by rw [text_nil] at h; cases h
  | 0, c :: t, _, _, _, h, _ => by simp at h
  | n + 1, c :: t, out, m, r, hn, h => by
    rw [List.length_cons] at hn ⊢
    by_cases h0 : ctl (c :: t)
    · rw [text_bad h0] at h; cases h
    have hr : (rune (c :: t)).2 ≠ 0 := fun e => h0 (.inl e)
    by_cases h1 : (rune (c :: t)).1 = 34
    · rw [text_quote h0 h1] at h
      simp at h
      rw [← h.1, ← h.2]
      omega
    by_cases h2 : (rune (c :: t)).1 = 92
    · cases he : esc (hd t) with
      | some e =>
        rw [text_esc h0 h2 he] at h
        have := text_len n _ _ m r (by rw [List.length_drop]; omega) h
        rw [List.length_append, List.length_singleton, List.length_drop] at this
        omega
      | none =>
        by_cases hu : (hd t).toNat = 117
        · cases hx : hex (t.drop 1) with
          | none => rw [text_nohex h0 h2 he hu hx] at h; cases h
          | some v =>
            by_cases hs : 55296 ≤ v ∧ v < 57344
            · rw [text_sur h0 h2 he hu hx hs] at h; cases h
            · rw [text_uni h0 h2 he hu hx hs] at h
              have := text_len n _ _ m r (by rw [List.length_drop]; omega) h
              have h4 := enc_len v
              rw [List.length_append, List.length_drop] at this
              omega
        · rw [text_noesc h0 h2 he hu] at h; cases h
    · rw [text_plain h0 h1 h2] at h
      have := text_len n _ _ m r (by rw [List.length_drop, List.length_cons]; omega) h
      have h4 := rune_le4 (c :: t)
      rw [List.length_append, List.length_drop, List.length_take, List.length_cons] at this
      omega
theorem block_len : ∀ (n : Nat) (l out m r : List UInt8), l.length ≤ n → block out l = some (m, r) → m.length ≤ out.length + l.length ∧ r.length ≤ l.length
  | _, [], out, m, r, _, h => by rw [block_nil] at h; cases h
  | 0, c :: t, _, _, _, h, _ => by simp at h
  | n + 1, c :: t, out, m, r, hn, h => by
    rw [List.length_cons] at hn ⊢
    cases hq : quotes3 (c :: t)
    · by_cases he : c.toNat = 92 ∧ quotes3 t = true
      · rw [block_esc hq he] at h
        have h3 : 3 ≤ t.length := by
          have h1 := congrArg List.length (of_decide_eq_true he.2)
          rw [List.length_take] at h1
          simp at h1; omega
        have := block_len n _ _ m r (by rw [List.length_drop]; omega) h
        rw [List.length_append, List.length_drop] at this
        simp only [List.length_cons, List.length_nil] at this
        omega
      · by_cases hc : ctlB (c :: t)
        · rw [block_bad hq he hc] at h; cases h
        · rw [block_go hq he hc] at h
          have hr : (rune (c :: t)).2 ≠ 0 := fun e => hc (.inl e)
          have := block_len n _ _ m r (by rw [List.length_drop, List.length_cons]; omega) h
          have h5 := rune_len (c :: t)
          rw [List.length_append, List.length_drop, List.length_take, List.length_cons] at this
          rw [List.length_cons] at h5
          omega
    · rw [block_end hq] at h
      simp at h
      rw [← h.1, ← h.2]
      simp
      omega
theorem token_len {l : List UInt8} {k : Nat} {T r : List UInt8} (h : token l = some (k, T, r)) (hl : l.length ≤ 4096) : T.length ≤ 1000000000 ∧ r.length ≤ l.length := by
  have htk : ∀ j, (l.take j).length ≤ 4096 := fun j => by rw [List.length_take]; omega
  unfold token at h
  split at h
  · simp only [Option.some.injEq, Prod.mk.injEq] at h
    obtain ⟨rfl, rfl, rfl⟩ := h
    have := htk (l.length - (l.dropWhile isWord).length)
    exact ⟨by omega, dropWhile_le _ _⟩
  split at h
  · obtain ⟨p, hp, he⟩ := Option.map_eq_some_iff.1 h
    simp only [Prod.mk.injEq] at he
    obtain ⟨rfl, rfl, rfl⟩ := he
    have := htk (l.length - p.2.length)
    obtain ⟨pre, e, _⟩ := number_pre (k' := p.1) (rest := p.2) hp
    have e2 := congrArg List.length e
    rw [List.length_append] at e2
    exact ⟨by omega, by omega⟩
  split at h
  · obtain ⟨p, hp, he⟩ := Option.map_eq_some_iff.1 h
    simp only [Prod.mk.injEq] at he
    obtain ⟨rfl, rfl, rfl⟩ := he
    have := block_len _ _ _ p.1 p.2 (Nat.le_refl _) hp
    rw [List.length_drop, List.length_nil] at this
    exact ⟨dedent_len _ (by omega), by omega⟩
  split at h
  · obtain ⟨p, hp, he⟩ := Option.map_eq_some_iff.1 h
    simp only [Prod.mk.injEq] at he
    obtain ⟨rfl, rfl, rfl⟩ := he
    have := text_len _ _ _ p.1 p.2 (Nat.le_refl _) hp
    rw [List.length_drop, List.length_nil] at this
    exact ⟨by omega, by omega⟩
  split at h
  · simp only [Option.some.injEq, Prod.mk.injEq] at h
    obtain ⟨rfl, rfl, rfl⟩ := h
    have := htk 3
    exact ⟨by omega, by rw [List.length_drop]; omega⟩
  split at h
  · simp only [Option.some.injEq, Prod.mk.injEq] at h
    obtain ⟨rfl, rfl, rfl⟩ := h
    have := htk 1
    exact ⟨by omega, by rw [List.length_drop]; omega⟩
  · cases h

theorem lexGo_good : ∀ (n size : Nat) (l : List UInt8) (out ts : List Tok), l.length ≤ 4096 → lexGo size n l out = .ok ts → ∃ pre, ts = out ++ pre ++ [⟨0, [], size⟩] ∧ ∀ t ∈ pre, Good t.kind t.text ∧ t.text.length ≤ 1000000000
  | 0, size, l, out, ts, _, h => by simp [lexGo] at h
  | n + 1, size, l, out, ts, hl, h => by
    have hgl := gap_le l.length (decide (l.length = size)) l (Nat.le_refl _)
    rw [lexGo] at h
    split at h
    · cases h
    split at h
    · refine ⟨[], ?_, by simp⟩
      rw [List.append_nil]
      exact (Res.ok.inj h).symm
    split at h
    · cases h
    rename_i k T rest htok
    split at h
    · cases h
    obtain ⟨hT, hR⟩ := token_len htok (by omega)
    obtain ⟨pre, h1, h2⟩ := lexGo_good n size rest _ ts (by omega) h
    refine ⟨⟨k, T, size - (gap (decide (l.length = size)) l).1.length⟩ :: pre, by rw [h1]; simp, fun t ht => ?_⟩
    rcases List.mem_cons.1 ht with rfl | ht
    · exact ⟨good_of htok, hT⟩
    · exact h2 t ht

end Lx
end Go.Proofs.YtmgoebfcfgilfaaGreatDoor
namespace Go.Proofs.YtmgoebfcfgilfaaGreatDoor
set_option linter.unusedSimpArgs false
set_option linter.unusedVariables false
namespace Lx

/-- A word behind blanks: its token's kind, what it means, how it is spelled. -/
structure Wd where
  g : List UInt8
  k : Nat
  T : List UInt8
  w : List UInt8
/-- A word that is a token with this behind it. -/
structure StandsW (x : Wd) (l : List UInt8) : Prop where
  blank : ∀ c ∈ x.g, isBlank c = true
  stop : stopB (hd x.w) = true
  ne : x.w ≠ []
  tok : token (x.w ++ l) = some (x.k, x.T, l)
/-- A sign. -/
def sg (c : UInt8) : Wd := ⟨[], 5, [c], [c]⟩
end Lx
end Go.Proofs.YtmgoebfcfgilfaaGreatDoor
namespace Go.Proofs.YtmgoebfcfgilfaaGreatDoor
set_option linter.unusedSimpArgs false
set_option linter.unusedVariables false
namespace Qr
open Lx

end Qr
end Go.Proofs.YtmgoebfcfgilfaaGreatDoor
namespace Go.Proofs.YtmgoebfcfgilfaaGreatDoor
set_option linter.unusedSimpArgs false
set_option linter.unusedVariables false
open Go Go.RowKit
namespace Rd
open Lx (Tok)

/-- A place, and the text that stands there, if it is told. -/
abbrev Pl := Nat × Option (List UInt8)
def Fits (p : Pl) (t : Tok) : Prop := p.1 = t.at_ ∧ ∀ x, p.2 = some x → t.kind ≠ 4 ∧ t.text = x
/-- Places of tokens, in order. -/
def Match : List Pl → List Tok → Prop
  | [], _ => True
  | _ :: _, [] => False
  | p :: ps, t :: ts => (Fits p t ∧ Match ps ts) ∨ Match (p :: ps) ts
theorem match_nil (ts : List Tok) : Match [] ts := by unfold Match; trivial
theorem match_weak {t : Tok} {ts : List Tok} : ∀ {ps : List Pl}, Match ps ts → Match ps (t :: ts)
  | [], _ => match_nil _
  | p :: ps, h => by unfold Match; exact .inr h
theorem match_pre {ps : List Pl} {ts : List Tok} (h : Match ps ts) : ∀ l : List Tok, Match ps (l ++ ts)
  | [] => h
  | t :: l => match_weak (match_pre h l)
theorem match_app {qs : List Pl} {r : List Tok} (k : Match qs r) : ∀ {ts : List Tok} {ps : List Pl}, Match ps ts → Match (ps ++ qs) (ts ++ r)
  | ts, [], _ => match_pre k ts
  | [], p :: ps, h => by unfold Match at h; exact h.elim
  | t :: ts, p :: ps, h => by
    unfold Match at h
    show Match (p :: (ps ++ qs)) (t :: (ts ++ r))
    unfold Match
    rcases h with ⟨h1, h2⟩ | h
    · exact .inl ⟨h1, match_app k h2⟩
    · exact .inr (match_app k h)
theorem match_drop {ts : List Tok} {p : Pl} : ∀ {ps : List Pl}, Match (p :: ps) ts → Match ps ts := by
  induction ts with
  | nil => intro ps h; unfold Match at h; exact h.elim
  | cons t ts ih =>
    intro ps h
    unfold Match at h
    rcases h with ⟨_, h⟩ | h
    · exact match_weak h
    · exact match_weak (ih h)
theorem match_sub {ps qs : List Pl} (h : List.Sublist ps qs) : ∀ {ts : List Tok}, Match qs ts → Match ps ts := by
  induction h with
  | slnil => exact fun h => h
  | cons a _ ih => exact fun h => ih (match_drop h)
  | cons_cons a hs ih =>
    intro ts
    induction ts with
    | nil => intro h; unfold Match at h; exact h.elim
    | cons t ts it =>
      intro h
      unfold Match at h ⊢
      rcases h with ⟨h1, h2⟩ | h
      · exact .inl ⟨h1, ih h2⟩
      · exact .inr (it h)

/-- From s to s' tokens were eaten, if nothing is wrong; among them these places. -/
def Eats (s s' : St) (ps : List Pl) : Prop := s'.err = 0 → s.err = 0 ∧ ∃ pre, s.rest = pre ++ s'.rest ∧ (∀ t ∈ pre, t.kind ≠ 0) ∧ Match ps pre
section
variable {s s' a b c : St} {p q : List Pl}
theorem Eats.refl (s : St) : Eats s s [] := fun h => ⟨h, [], rfl, fun t ht => absurd ht (by simp), match_nil _⟩
theorem Eats.trans (h : Eats a b p) (k : Eats b c q) : Eats a c (p ++ q) := fun he => by
  obtain ⟨h1, x, h2, h3, h4⟩ := k he
  obtain ⟨k1, y, k2, k3, k4⟩ := h h1
  refine ⟨k1, y ++ x, by rw [k2, h2, List.append_assoc], fun t ht => ?_, match_app h4 k4⟩
  rcases List.mem_append.1 ht with ht | ht
  · exact k3 t ht
  · exact h3 t ht
theorem Eats.sub (h : Eats a b p) (k : List.Sublist q p) : Eats a b q := fun he => by
  obtain ⟨h1, x, h2, h3, h4⟩ := h he
  exact ⟨h1, x, h2, h3, match_sub k h4⟩
theorem Eats.to (h : Eats a b p) (e : b = c) : Eats a c p := e ▸ h
/-- A name that comes is a text. -/
def NE (s : St) : Prop := ∀ t ∈ s.rest, t.kind = 1 → t.text ≠ []
theorem Eats.ne (h : Eats a b p) (he : b.err = 0) (k : NE a) : NE b := fun t ht => by
  obtain ⟨_, x, h2, _⟩ := h he
  exact k t (by rw [h2]; exact List.mem_append_right _ ht)
theorem Eats.err (h : Eats a b p) (he : b.err = 0) : a.err = 0 := (h he).1
theorem isS_parts {c : List UInt8} (h : isS s c = true) : s.err = 0 ∧ (peek s).kind = 5 ∧ (peek s).text = c := by
  unfold isS at h
  simpa [and_assoc] using h
theorem isN_parts (h : isN s = true) : s.err = 0 ∧ (peek s).kind = 1 := by
  unfold isN at h
  simpa using h
end

/-- What a reading function reads: its places, and what is so of it. -/
structure Rds {α : Type} (f : St → St × α) (pl : St → α → List Pl) (q : α → Prop) : Prop where
  eats : ∀ s, Eats s (f s).1 (pl s (f s).2)
  good : ∀ s, NE s → (f s).1.err = 0 → q (f s).2
section
variable {α : Type} {f : St → St × α} {pl : α → List Pl} {q : α → Prop}
end

end Rd
end Go.Proofs.YtmgoebfcfgilfaaGreatDoor
namespace Go.Proofs.YtmgoebfcfgilfaaGreatDoor
set_option linter.unusedSimpArgs false
set_option linter.unusedVariables false
open Go Go.RowKit
namespace Sd
open Rd
def In.pl (x : In) : List Pl := [(x.at_, some x.name)]
def In.ok (x : In) : Prop := x.type ≠ [] ∧ x.has = decide (x.dflt.kind ≠ 0)
def Fd.pl (x : Fd) : List Pl := (x.at_, some x.name) :: x.args.flatMap In.pl
def Fd.ok (x : Fd) : Prop := x.type ≠ [] ∧ ∀ a ∈ x.args, a.ok
def Td.pl (x : Td) : List Pl := (x.at_, some (words.getD (x.kind - 1) [])) :: (x.fields.flatMap Fd.pl ++ x.inputs.flatMap In.pl)
structure Td.ok (x : Td) : Prop where
  k1 : 1 ≤ x.kind
  k6 : x.kind ≤ 6
  name : x.name ≠ []
  fields : ∀ f ∈ x.fields, f.ok
  inputs : ∀ a ∈ x.inputs, a.ok
end Sd
end Go.Proofs.YtmgoebfcfgilfaaGreatDoor
namespace Go.Proofs.YtmgoebfcfgilfaaGreatDoor
set_option linter.unusedSimpArgs false
set_option linter.unusedVariables false
namespace Rd
open Lx (Tok)
def ktx (t : Tok) : Nat × List UInt8 := (t.kind, t.text)
/-- What may stand at the other's end. -/
def HdOk (us : List Tok) : Prop := ∃ h r, us = h :: r ∧ h.kind ≠ 5 ∧ (h.kind = 1 → h.text ≠ Sd.sImpl)
/-- The one state is at the end of its tokens behind m of them, the other has others there. -/
def J (e : Tok) (us : List Tok) (m : Nat) (s1 s2 : St) : Prop :=
  ∃ a a' : List Tok, a.length = m ∧ a.map ktx = a'.map ktx ∧ s1.rest = a ++ [e] ∧ s2.rest = a' ++ us ∧ s1.deep = s2.deep ∧ s1.err = 0 ∧ s2.err = 0 ∧ ∀ t ∈ a, t.kind ≠ 0
section
variable {e : Tok} {us : List Tok} {m : Nat} {s1 s2 : St}
theorem J.e1 (h : J e us m s1 s2) : s1.err = 0 := by obtain ⟨a, a', h1, h2, h3, h4, h5, h6, h7, h8⟩ := h; exact h6
theorem J.e2 (h : J e us m s1 s2) : s2.err = 0 := by obtain ⟨a, a', h1, h2, h3, h4, h5, h6, h7, h8⟩ := h; exact h7
theorem J.deep (h : J e us m s1 s2) : s1.deep = s2.deep := by obtain ⟨a, a', h1, h2, h3, h4, h5, h6, h7, h8⟩ := h; exact h5
theorem J.len (h : J e us m s1 s2) : s1.rest.length = m + 1 ∧ m ≤ s2.rest.length := by
  obtain ⟨a, a', h1, h2, h3, h4, -⟩ := h
  have := congrArg List.length h2
  rw [List.length_map, List.length_map] at this
  rw [h3, h4, List.length_append, List.length_append]
  exact ⟨by simp; exact h1, by omega⟩
theorem J.setDeep (h : J e us m s1 s2) {d1 d2 : Int} (hd : d1 = d2) : J e us m { s1 with deep := d1 } { s2 with deep := d2 } := by
  obtain ⟨a, a', h1, h2, h3, h4, h5, h6, h7, h8⟩ := h
  exact ⟨a, a', h1, h2, h3, h4, hd, h6, h7, h8⟩
theorem J.zero (h : J e us 0 s1 s2) (hu : HdOk us) : peek s1 = e ∧ ∃ x r, us = x :: r ∧ x.kind ≠ 5 ∧ (x.kind = 1 → x.text ≠ Sd.sImpl) ∧ peek s2 = x := by
  obtain ⟨a, a', h1, h2, h3, h4, -⟩ := h
  obtain rfl := List.eq_nil_of_length_eq_zero h1
  have : a' = [] := by cases a' with
    | nil => rfl
    | cons _ _ => simp at h2
  subst this
  obtain ⟨x, r, rfl, hx⟩ := hu
  refine ⟨by unfold peek; rw [h3]; rfl, x, r, rfl, hx.1, hx.2, by unfold peek; rw [h4]; rfl⟩
theorem J.peek (h : J e us (m + 1) s1 s2) : (peek s1).kind = (peek s2).kind ∧ (peek s1).text = (peek s2).text := by
  obtain ⟨a, a', h1, h2, h3, h4, -⟩ := h
  cases a with
  | nil => simp at h1
  | cons x a => cases a' with
    | nil => simp at h2
    | cons y a' =>
      simp only [List.map_cons, List.cons.injEq, ktx, Prod.mk.injEq] at h2
      unfold Rd.peek
      rw [h3, h4]
      exact h2.1
theorem J.next (h : J e us (m + 1) s1 s2) (hk : (Rd.peek s1).kind ≠ 0) : J e us m (next s1) (next s2) := by
  have hp := h.peek
  obtain ⟨a, a', h1, h2, h3, h4, h5, h6, h7, h8⟩ := h
  unfold Rd.next
  rw [if_pos ⟨h6, hk⟩, if_pos ⟨h7, by rw [← hp.1]; exact hk⟩]
  cases a with
  | nil => simp at h1
  | cons x a => cases a' with
    | nil => simp at h2
    | cons y a' =>
      simp only [List.map_cons, List.cons.injEq] at h2
      exact ⟨a, a', by simpa using h1, h2.2, by show s1.rest.drop 1 = _; rw [h3]; rfl, by show s2.rest.drop 1 = _; rw [h4]; rfl, h5, h6, h7, fun t ht => h8 t (List.mem_cons_of_mem _ ht)⟩
theorem J.isS (h : J e us m s1 s2) (he : e.kind = 0) (hu : HdOk us) (c : List UInt8) : Rd.isS s1 c = Rd.isS s2 c := by
  cases m with
  | zero =>
    obtain ⟨p1, x, r, -, h5, -, p2⟩ := h.zero hu
    unfold Rd.isS
    rw [p1, p2, he]
    simp [h5]
  | succ m =>
    unfold Rd.isS
    rw [h.e1, h.e2, h.peek.1, h.peek.2]
theorem J.isW (h : J e us (m + 1) s1 s2) (ws : List (List UInt8)) : Rd.isW s1 ws = Rd.isW s2 ws := by
  unfold Rd.isW Rd.isN
  rw [h.e1, h.e2, h.peek.1, h.peek.2]
theorem J.isN (h : J e us (m + 1) s1 s2) : Rd.isN s1 = Rd.isN s2 := by
  unfold Rd.isN
  rw [h.e1, h.e2, h.peek.1]
theorem J.sign (h : J e us m s1 s2) (he : e.kind = 0) (hu : HdOk us) {c : List UInt8} (hs : Rd.isS s1 c = true) : ∃ k, m = k + 1 ∧ J e us k (Rd.next s1) (Rd.next s2) := by
  cases m with
  | zero =>
    obtain ⟨p1, -⟩ := h.zero hu
    have := isS_parts hs
    rw [p1, he] at this
    omega
  | succ m =>
    have := isS_parts hs
    exact ⟨m, rfl, h.next (by omega)⟩
theorem J.name (h : J e us m s1 s2) (he : e.kind = 0) (hu : HdOk us) (hz : (Rd.name s1).1.err = 0) : ∃ k, m = k + 1 ∧ J e us k (Rd.name s1).1 (Rd.name s2).1 ∧ (Rd.name s1).2 = (Rd.name s2).2 := by
  cases m with
  | zero =>
    obtain ⟨p1, -⟩ := h.zero hu
    unfold Rd.name Rd.isN at hz
    rw [p1, he] at hz
    simp at hz
    exact absurd hz wrong_bad
  | succ m =>
    unfold Rd.name at hz ⊢
    rw [← h.isN]
    split
    · rename_i hn
      have := isN_parts hn
      exact ⟨m, rfl, h.next (by omega), h.peek.2⟩
    · rename_i hn
      rw [if_neg hn] at hz
      exact absurd hz wrong_bad
theorem J.want (h : J e us m s1 s2) (he : e.kind = 0) (hu : HdOk us) {c : List UInt8} (hz : (Rd.want c s1).err = 0) : ∃ k, m = k + 1 ∧ J e us k (Rd.want c s1) (Rd.want c s2) := by
  unfold Rd.want at hz ⊢
  rw [← h.isS he hu]
  split
  · rename_i hs; exact h.sign he hu hs
  · rename_i hs; rw [if_neg hs] at hz; exact absurd hz wrong_bad
theorem J.take (h : J e us m s1 s2) (he : e.kind = 0) (hu : HdOk us) (c : List UInt8) : ∃ k, k ≤ m ∧ J e us k (Rd.take c s1) (Rd.take c s2) := by
  unfold Rd.take
  rw [← h.isS he hu]
  split
  · rename_i hs
    obtain ⟨k, hk, hj⟩ := h.sign he hu hs
    exact ⟨k, by omega, hj⟩
  · exact ⟨m, Nat.le_refl _, h⟩
theorem J.down (h : J e us m s1 s2) (he : e.kind = 0) (hu : HdOk us) {c : List UInt8} (hz : (Rd.down c s1).err = 0) : ∃ k, m = k + 1 ∧ J e us k (Rd.down c s1) (Rd.down c s2) := by
  unfold Rd.down at hz ⊢
  dsimp only at hz ⊢
  rw [← h.isS he hu, ← h.deep]
  by_cases hd : Rd.isS s1 c = true ∧ s1.deep = 16
  · rw [if_pos hd] at hz
    have hb : (fail 42 s1).err ≠ 0 := by unfold fail; rw [if_pos h.e1]; simp
    have := (ok_want c (fail 42 s1)).err hb
    rw [this] at hz
    exact absurd hz hb
  · rw [if_neg hd, if_neg hd] at *
    obtain ⟨k, hk, hj⟩ := h.want he hu hz
    exact ⟨k, hk, hj.setDeep (by rw [hj.deep])⟩
theorem J.up (h : J e us m s1 s2) (he : e.kind = 0) (hu : HdOk us) {c : List UInt8} (hz : (Rd.up c s1).err = 0) : ∃ k, m = k + 1 ∧ J e us k (Rd.up c s1) (Rd.up c s2) := by
  obtain ⟨k, hk, hj⟩ := h.want he hu (c := c) hz
  exact ⟨k, hk, hj.setDeep (by rw [hj.deep])⟩
end
section
variable {e : Tok} {us : List Tok}
end
end Rd
namespace Sd
open Rd
open Lx (Tok)
section
variable {e : Tok} {us : List Tok}
end
end Sd
end Go.Proofs.YtmgoebfcfgilfaaGreatDoor
namespace Go.Proofs.YtmgoebfcfgilfaaGreatDoor
set_option linter.unusedSimpArgs false
set_option linter.unusedVariables false
namespace Vl
open Rd Lx
/-- A text's value. -/
def parse (l : List UInt8) (fixed : Bool) : St × V :=
  let s := begin_ l
  let r := value fixed (s.rest.length + 1) s
  (fin r.1, r.2)
end Vl
end Go.Proofs.YtmgoebfcfgilfaaGreatDoor
