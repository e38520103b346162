/-
  Tokens with other gaps between are the same tokens (no program in sight).
-/
import Derived.Test.YtonblegbnkfhbaaDoorL7gt
namespace Go.Proofs.YtonblegbnkfhbaaDoor
set_option linter.unusedSimpArgs false
set_option linter.unusedVariables false
namespace Lx

/-- The five gaps. -/
def btw (k : Nat) : List UInt8 := if k = 0 then [32] else if k = 1 then [44] else if k = 2 then [10] else if k = 3 then [35, 44, 34, 123, 10] else [9, 13]
def piece (k : Nat) (t : Tok) : List UInt8 := btw k ++ word t.kind t.text ++ btw ((k + 1) % 5)
/-- The other text. -/
def gapText (f : Nat → Nat) : Nat → List Tok → List UInt8
  | _, [] => []
  | i, t :: r => piece (f i) t ++ gapText f (i + 1) r
def kt (t : Tok) : Nat × List UInt8 := (t.kind, t.text)

theorem gapText_snoc (f : Nat → Nat) : ∀ (a : List Tok) (i : Nat) (t : Tok), gapText f i (a ++ [t]) = gapText f i a ++ piece (f (i + a.length)) t
  | [], i, t => by simp [gapText]
  | x :: a, i, t => by
    rw [List.cons_append, gapText, gapText, gapText_snoc f a (i + 1) t, List.append_assoc, List.length_cons, show i + 1 + a.length = i + (a.length + 1) by omega]

theorem btw_cases (k : Nat) : btw k = [32] ∨ btw k = [44] ∨ btw k = [10] ∨ btw k = [35, 44, 34, 123, 10] ∨ btw k = [9, 13] := by
  unfold btw
  repeat' split
  all_goals simp
theorem gap_btw (fl : Bool) (k : Nat) (y : List UInt8) : gap fl (btw k ++ y) = gap false y := by
  rcases btw_cases k with h | h | h | h | h <;> rw [h]
  · exact gap_blank (by decide)
  · exact gap_blank (by decide)
  · exact gap_blank (by decide)
  · have hrem : remark ([44, 34, 123, 10] ++ y) = (10 :: y, true) := by
      have s1 : ∀ (c : UInt8) (t : List UInt8), c.toNat < 128 → 32 ≤ c.toNat → remark (c :: t) = remark t := fun c t h1 h2 => by
        rw [remark_go (by omega) (by rw [rune_ascii h1]; simp; omega), rune_ascii h1]
        rfl
      show remark (44 :: 34 :: 123 :: 10 :: y) = _
      rw [s1 44 _ (by decide) (by decide), s1 34 _ (by decide) (by decide), s1 123 _ (by decide) (by decide), remark_end (.inl (by decide))]
    show gap fl (35 :: ([44, 34, 123, 10] ++ y)) = _
    rw [gap_rem (by decide), hrem, if_pos rfl]
    exact gap_blank (by decide)
  · show gap fl (9 :: 13 :: y) = _
    rw [gap_blank (by decide), gap_blank (by decide)]
theorem okG_btw (k : Nat) (y : List UInt8) : okG (btw k ++ y) := by
  unfold okG
  rcases btw_cases k with h | h | h | h | h <;> rw [h] <;> rfl
theorem gap_word {k : Nat} {T : List UInt8} (h : Good k T) (y : List UInt8) : gap false (word k T ++ y) = (word k T ++ y, true) := by
  have h1 := h.stop
  have h2 := h.ne
  generalize word k T = w at *
  cases w with
  | nil => exact absurd rfl h2
  | cons c w =>
    simp only [stopB, hd_cons, Bool.and_eq_true, Bool.not_eq_true', decide_eq_true_eq] at h1
    exact gap_stop h1.1.1 (by simp) (of_decide_eq_true h1.1.2)

theorem gaps_go (f : Nat → Nat) : ∀ (ps : List Tok) (i n size : Nat) (b : List UInt8) (out : List Tok), (∀ t ∈ ps, Good t.kind t.text) → ps.length < n → out.length + ps.length ≤ 1500 → (b = [] ∨ ∃ k, b = btw k) →
    ∃ ms, lexGo size n (b ++ gapText f i ps) out = .ok (out ++ ms) ∧ ms.map kt = ps.map kt ++ [(0, [])]
  | [], i, n + 1, size, b, out, _, _, _, hb => by
    have hg : ∀ fl, gap fl (b ++ gapText f i []) = ([], true) := fun fl => by
      rcases hb with rfl | ⟨k, rfl⟩
      · exact gap_nil fl
      · show gap fl (btw k ++ []) = _
        rw [gap_btw, gap_nil]
    refine ⟨[⟨0, [], size⟩], ?_, rfl⟩
    rw [lexGo, hg, if_neg (by simp), if_pos (by rfl)]
  | t :: r, i, n + 1, size, b, out, hG, hn, ho, hb => by
    have hg1 := hG t (by simp)
    have hg : ∀ fl, gap fl (b ++ gapText f i (t :: r)) = (word t.kind t.text ++ (btw ((f i + 1) % 5) ++ gapText f (i + 1) r), true) := fun fl => by
      have e : gapText f i (t :: r) = btw (f i) ++ (word t.kind t.text ++ (btw ((f i + 1) % 5) ++ gapText f (i + 1) r)) := by
        simp [gapText, piece]
      rw [e]
      rcases hb with rfl | ⟨k, rfl⟩
      · rw [List.nil_append, gap_btw, gap_word hg1]
      · rw [gap_btw, gap_btw, gap_word hg1]
    have hl : (word t.kind t.text ++ (btw ((f i + 1) % 5) ++ gapText f (i + 1) r)).length ≠ 0 := by
      rw [List.length_append]
      have := List.length_pos_iff.2 hg1.ne
      omega
    rw [lexGo, hg, if_neg (by simp), if_neg (by exact hl), hg1.tok _ (okG_btw _ _)]
    simp only []
    rw [List.length_cons] at hn ho
    rw [if_neg (by omega)]
    obtain ⟨ms, h1, h2⟩ := gaps_go f r (i + 1) n size (btw ((f i + 1) % 5)) (out ++ [⟨t.kind, t.text, size - (word t.kind t.text ++ (btw ((f i + 1) % 5) ++ gapText f (i + 1) r)).length⟩]) (fun u hu => hG u (by simp [hu])) (by omega) (by rw [List.length_append]; simp; omega) (.inr ⟨_, rfl⟩)
    refine ⟨⟨t.kind, t.text, size - (word t.kind t.text ++ (btw ((f i + 1) % 5) ++ gapText f (i + 1) r)).length⟩ :: ms, ?_, ?_⟩
    · rw [h1, List.append_assoc]; rfl
    · rw [List.map_cons, h2]; rfl

theorem gap_le : ∀ (n : Nat) (f : Bool) (l : List UInt8), l.length ≤ n → (gap f l).1.length ≤ l.length
  | _, f, [], _ => by rw [gap_nil]; exact Nat.zero_le _
  | 0, f, c :: t, h => by simp at h
  | n + 1, f, c :: t, h => by
    have hl : t.length ≤ n := by simpa using h
    cases hb : isBlank c
    · by_cases hbo : f = true ∧ bom (c :: t) = true
      · rw [hbo.1, gap_bom hb hbo.2]
        have := gap_le n false ((c :: t).drop 3) (by rw [List.length_drop]; simp; omega)
        rw [List.length_drop] at this
        omega
      · by_cases h35 : c.toNat = 35
        · rw [gap_rem h35]
          have hr := remark_le t
          have := gap_le n false (remark t).1 (by omega)
          rw [List.length_cons]
          split
          · omega
          · simp only []; omega
        · rw [gap_stop hb hbo h35]
          exact Nat.le_refl _
    · rw [gap_blank hb]
      have := gap_le n false t hl
      rw [List.length_cons]
      omega
theorem text_len : ∀ (n : Nat) (l out m r : List UInt8), l.length ≤ n → text out l = some (m, r) → m.length ≤ out.length + 4 * l.length ∧ r.length ≤ l.length
  | _, [], out, m, r, _, h => by rw [text_nil] at h; cases h
  | 0, c :: t, _, _, _, h, _ => by simp at h
  | n + 1, c :: t, out, m, r, hn, h => by
    rw [List.length_cons] at hn ⊢
    by_cases h0 : ctl (c :: t)
    · rw [text_bad h0] at h; cases h
    have hr : (rune (c :: t)).2 ≠ 0 := fun e => h0 (.inl e)
    by_cases h1 : (rune (c :: t)).1 = 34
    · rw [text_quote h0 h1] at h
      simp at h
      rw [← h.1, ← h.2]
      omega
    by_cases h2 : (rune (c :: t)).1 = 92
    · cases he : esc (hd t) with
      | some e =>
        rw [text_esc h0 h2 he] at h
        have := text_len n _ _ m r (by rw [List.length_drop]; omega) h
        rw [List.length_append, List.length_singleton, List.length_drop] at this
        omega
      | none =>
        by_cases hu : (hd t).toNat = 117
        · cases hx : hex (t.drop 1) with
          | none => rw [text_nohex h0 h2 he hu hx] at h; cases h
          | some v =>
            by_cases hs : 55296 ≤ v ∧ v < 57344
            · rw [text_sur h0 h2 he hu hx hs] at h; cases h
            · rw [text_uni h0 h2 he hu hx hs] at h
              have := text_len n _ _ m r (by rw [List.length_drop]; omega) h
              have h4 := enc_len v
              rw [List.length_append, List.length_drop] at this
              omega
        · rw [text_noesc h0 h2 he hu] at h; cases h
    · rw [text_plain h0 h1 h2] at h
      have := text_len n _ _ m r (by rw [List.length_drop, List.length_cons]; omega) h
      have h4 := rune_le4 (c :: t)
      rw [List.length_append, List.length_drop, List.length_take, List.length_cons] at this
      omega
theorem block_len : ∀ (n : Nat) (l out m r : List UInt8), l.length ≤ n → block out l = some (m, r) → m.length ≤ out.length + l.length ∧ r.length ≤ l.length
  | _, [], out, m, r, _, h => by rw [block_nil] at h; cases h
  | 0, c :: t, _, _, _, h, _ => by simp at h
  | n + 1, c :: t, out, m, r, hn, h => by
    rw [List.length_cons] at hn ⊢
    cases hq : quotes3 (c :: t)
    · by_cases he : c.toNat = 92 ∧ quotes3 t = true
      · rw [block_esc hq he] at h
        have h3 : 3 ≤ t.length := by
          have h1 := congrArg List.length (of_decide_eq_true he.2)
          rw [List.length_take] at h1
          simp at h1; omega
        have := block_len n _ _ m r (by rw [List.length_drop]; omega) h
        rw [List.length_append, List.length_drop] at this
        simp only [List.length_cons, List.length_nil] at this
        omega
      · by_cases hc : ctlB (c :: t)
        · rw [block_bad hq he hc] at h; cases h
        · rw [block_go hq he hc] at h
          have hr : (rune (c :: t)).2 ≠ 0 := fun e => hc (.inl e)
          have := block_len n _ _ m r (by rw [List.length_drop, List.length_cons]; omega) h
          have h5 := rune_len (c :: t)
          rw [List.length_append, List.length_drop, List.length_take, List.length_cons] at this
          rw [List.length_cons] at h5
          omega
    · rw [block_end hq] at h
      simp at h
      rw [← h.1, ← h.2]
      simp
      omega
theorem token_len {l : List UInt8} {k : Nat} {T r : List UInt8} (h : token l = some (k, T, r)) (hl : l.length ≤ 4096) : T.length ≤ 1000000000 ∧ r.length ≤ l.length := by
  have htk : ∀ j, (l.take j).length ≤ 4096 := fun j => by rw [List.length_take]; omega
  unfold token at h
  split at h
  · simp only [Option.some.injEq, Prod.mk.injEq] at h
    obtain ⟨rfl, rfl, rfl⟩ := h
    have := htk (l.length - (l.dropWhile isWord).length)
    exact ⟨by omega, dropWhile_le _ _⟩
  split at h
  · obtain ⟨p, hp, he⟩ := Option.map_eq_some_iff.1 h
    simp only [Prod.mk.injEq] at he
    obtain ⟨rfl, rfl, rfl⟩ := he
    have := htk (l.length - p.2.length)
    obtain ⟨pre, e, _⟩ := number_pre (k' := p.1) (rest := p.2) hp
    have e2 := congrArg List.length e
    rw [List.length_append] at e2
    exact ⟨by omega, by omega⟩
  split at h
  · obtain ⟨p, hp, he⟩ := Option.map_eq_some_iff.1 h
    simp only [Prod.mk.injEq] at he
    obtain ⟨rfl, rfl, rfl⟩ := he
    have := block_len _ _ _ p.1 p.2 (Nat.le_refl _) hp
    rw [List.length_drop, List.length_nil] at this
    exact ⟨dedent_len _ (by omega), by omega⟩
  split at h
  · obtain ⟨p, hp, he⟩ := Option.map_eq_some_iff.1 h
    simp only [Prod.mk.injEq] at he
    obtain ⟨rfl, rfl, rfl⟩ := he
    have := text_len _ _ _ p.1 p.2 (Nat.le_refl _) hp
    rw [List.length_drop, List.length_nil] at this
    exact ⟨by omega, by omega⟩
  split at h
  · simp only [Option.some.injEq, Prod.mk.injEq] at h
    obtain ⟨rfl, rfl, rfl⟩ := h
    have := htk 3
    exact ⟨by omega, by rw [List.length_drop]; omega⟩
  split at h
  · simp only [Option.some.injEq, Prod.mk.injEq] at h
    obtain ⟨rfl, rfl, rfl⟩ := h
    have := htk 1
    exact ⟨by omega, by rw [List.length_drop]; omega⟩
  · cases h

theorem lexGo_good : ∀ (n size : Nat) (l : List UInt8) (out ts : List Tok), l.length ≤ 4096 → lexGo size n l out = .ok ts → ∃ pre, ts = out ++ pre ++ [⟨0, [], size⟩] ∧ ∀ t ∈ pre, Good t.kind t.text ∧ t.text.length ≤ 1000000000
  | 0, size, l, out, ts, _, h => by simp [lexGo] at h
  | n + 1, size, l, out, ts, hl, h => by
    have hgl := gap_le l.length (decide (l.length = size)) l (Nat.le_refl _)
    rw [lexGo] at h
    split at h
    · cases h
    split at h
    · refine ⟨[], ?_, by simp⟩
      rw [List.append_nil]
      exact (Res.ok.inj h).symm
    split at h
    · cases h
    rename_i k T rest htok
    split at h
    · cases h
    obtain ⟨hT, hR⟩ := token_len htok (by omega)
    obtain ⟨pre, h1, h2⟩ := lexGo_good n size rest _ ts (by omega) h
    refine ⟨⟨k, T, size - (gap (decide (l.length = size)) l).1.length⟩ :: pre, by rw [h1]; simp, fun t ht => ?_⟩
    rcases List.mem_cons.1 ht with rfl | ht
    · exact ⟨good_of htok, hT⟩
    · exact h2 t ht

theorem gapText_len (f : Nat → Nat) : ∀ (ps : List Tok) (i : Nat), (∀ t ∈ ps, Good t.kind t.text) → ps.length ≤ (gapText f i ps).length
  | [], _, _ => Nat.zero_le _
  | t :: r, i, h => by
    have h1 := gapText_len f r (i + 1) (fun u hu => h u (by simp [hu]))
    have h2 := List.length_pos_iff.2 (h t (by simp)).ne
    rw [gapText, List.length_append, List.length_cons]
    have h3 : (word t.kind t.text).length ≤ (piece (f i) t).length := by unfold piece; rw [List.length_append, List.length_append]; omega
    omega

theorem btw_len (k : Nat) : (btw k).length ≤ 5 := by rcases btw_cases k with h | h | h | h | h <;> rw [h] <;> decide
theorem word_len (k : Nat) (T : List UInt8) : (word k T).length ≤ 6 * T.length + 2 := by
  unfold word
  split
  · exact quote_len T
  · omega
theorem gapText_le (f : Nat → Nat) : ∀ (a : List Tok) (i : Nat), (∀ t ∈ a, t.text.length ≤ 1000000000) → (gapText f i a).length ≤ a.length * 6000000012
  | [], _, _ => Nat.zero_le _
  | t :: r, i, h => by
    have h1 := gapText_le f r (i + 1) (fun u hu => h u (by simp [hu]))
    have h2 := h t (by simp)
    have h3 := word_len t.kind t.text
    have h4 := btw_len (f i)
    have h5 := btw_len ((f i + 1) % 5)
    rw [gapText, List.length_append, List.length_cons]
    unfold piece
    rw [List.length_append, List.length_append]
    omega
theorem gaps_lex (l : List UInt8) (ts : List Tok) (h : lex l = .ok ts) (hl : ts.length ≤ 400) : ∃ pre, ts = pre ++ [⟨0, [], l.length⟩] ∧ (∀ t ∈ pre, Good t.kind t.text ∧ t.text.length ≤ 1000000000) ∧
    ∀ f : Nat → Nat, (gapText f 0 pre).length ≤ 4096 → ∃ ms, lex (gapText f 0 pre) = .ok ms ∧ ms.map kt = ts.map kt := by
  unfold lex at h
  split at h
  · cases h
  · obtain ⟨pre, h1, h2⟩ := lexGo_good _ _ _ _ _ (by omega) h
    have h2' : ∀ t ∈ pre, Good t.kind t.text := fun t ht => (h2 t ht).1
    rw [List.nil_append] at h1
    refine ⟨pre, h1, h2, fun f hlen => ?_⟩
    have hpl : pre.length ≤ 400 := by rw [h1, List.length_append] at hl; omega
    have hg := gapText_len f pre 0 h2'
    obtain ⟨ms, h3, h4⟩ := gaps_go f pre 0 ((gapText f 0 pre).length + 1) (gapText f 0 pre).length [] [] h2' (by omega) (by simp; omega) (.inl rfl)
    refine ⟨ms, ?_, by rw [h4, h1, List.map_append]; rfl⟩
    unfold lex
    rw [if_neg (by omega)]
    exact h3
end Lx
end Go.Proofs.YtonblegbnkfhbaaDoor
