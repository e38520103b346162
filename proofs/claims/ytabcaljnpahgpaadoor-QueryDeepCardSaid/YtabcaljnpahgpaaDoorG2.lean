/-
  What a string means is valid UTF-8 (no program in sight).
-/
import Derived.Test.YtabcaljnpahgpaaDoorG1
import Derived.Lib.IndexMore
namespace Go.Proofs.YtabcaljnpahgpaaDoor
set_option linter.unusedSimpArgs false
set_option linter.unusedVariables false
namespace Lx

/-- Valid UTF-8, rune by rune. -/
inductive V : List UInt8 → Prop
  | nil : V []
  | step (l : List UInt8) (h : (rune l).2 ≠ 0) (t : V (l.drop (rune l).2)) : V l

theorem V_valid {l : List UInt8} (h : V l) : ∀ n, l.length ≤ n → validGo n l = true := by
  induction h with
  | nil => intro n _; cases n <;> rfl
  | step l h t ih =>
    intro n hn
    cases n with
    | zero => rfl
    | succ n =>
      unfold validGo
      by_cases h0 : l = []
      · rw [if_pos h0]
      · rw [if_neg h0, if_neg h]
        refine ih n ?_
        rw [List.length_drop]
        omega
theorem rune_app2 (l x : List UInt8) (h : (rune l).2 ≠ 0) : rune (l ++ x) = rune l := by
  have := rune_app l (l.drop (rune l).2 ++ x) h
  rw [← List.append_assoc, List.take_append_drop] at this
  exact this
theorem V_append {a b : List UInt8} (ha : V a) (hb : V b) : V (a ++ b) := by
  induction ha with
  | nil => exact hb
  | step l h t ih =>
    have e := rune_app2 l b h
    refine V.step _ (by rw [e]; exact h) ?_
    rw [e, List.drop_append_of_le_length (rune_len l)]
    exact ih
theorem V_rune {l : List UInt8} (h : (rune l).2 ≠ 0) : V (l.take (rune l).2) := by
  have e := rune_app l [] h
  rw [List.append_nil] at e
  refine V.step _ (by rw [e]; exact h) ?_
  rw [e, List.drop_of_length_le (by rw [List.length_take]; omega)]
  exact .nil
theorem V_low {c : UInt8} (h : c.toNat < 128) : V [c] := by
  refine V.step _ (by rw [rune_low c [] h]; simp) ?_
  rw [rune_low c [] h]
  exact .nil
theorem V_ascii : ∀ l : List UInt8, (∀ c ∈ l, c.toNat < 128) → V l
  | [], _ => .nil
  | c :: l, h => V_append (V_low (h c (by simp))) (V_ascii l (fun d hd => h d (by simp [hd])))
theorem u8n {n : Nat} (h : n < 256) : n.toUInt8.toNat = n := by simp; omega
theorem V_enc {r : Nat} (h : r < 55296 ∨ (57343 < r ∧ r ≤ 1114111)) : V (enc r) := by
  unfold enc
  by_cases h1 : r < 128
  · rw [if_pos h1]
    exact V_low (by rw [u8n (by omega)]; exact h1)
  rw [if_neg h1]
  have cont_of : ∀ c : UInt8, 128 ≤ c.toNat → c.toNat < 192 → cont c = true := fun c h1 h2 => by simp [cont, h1, h2]
  by_cases h2 : r < 2048
  · rw [if_pos h2]
    have a := u8n (n := 192 + r / 64) (by omega)
    have b := u8n (n := 128 + r % 64) (by omega)
    generalize (192 + r / 64).toUInt8 = A at *
    generalize (128 + r % 64).toUInt8 = B at *
    have e : rune [A, B] = (r, 2) := by
      simp only [rune]
      rw [if_neg (by omega), if_pos ⟨by omega, by omega, cont_of B (by omega) (by omega)⟩, if_pos (by omega)]
      simp only [Prod.mk.injEq, and_true]
      omega
    exact V.step _ (by rw [e]; simp) (by rw [e]; exact .nil)
  rw [if_neg h2]
  by_cases h3 : r < 65536
  · rw [if_pos h3]
    have a := u8n (n := 224 + r / 4096) (by omega)
    have b := u8n (n := 128 + r / 64 % 64) (by omega)
    have c := u8n (n := 128 + r % 64) (by omega)
    generalize (224 + r / 4096).toUInt8 = A at *
    generalize (128 + r / 64 % 64).toUInt8 = B at *
    generalize (128 + r % 64).toUInt8 = C at *
    have e : rune [A, B, C] = (r, 3) := by
      simp only [rune]
      rw [if_neg (by omega), if_neg (by omega), if_pos ⟨by omega, by omega, cont_of B (by omega) (by omega), cont_of C (by omega) (by omega)⟩, if_pos (by omega)]
      simp only [Prod.mk.injEq, and_true]
      omega
    exact V.step _ (by rw [e]; simp) (by rw [e]; exact .nil)
  · rw [if_neg h3]
    have a := u8n (n := 240 + r / 262144) (by omega)
    have b := u8n (n := 128 + r / 4096 % 64) (by omega)
    have c := u8n (n := 128 + r / 64 % 64) (by omega)
    have d := u8n (n := 128 + r % 64) (by omega)
    generalize (240 + r / 262144).toUInt8 = A at *
    generalize (128 + r / 4096 % 64).toUInt8 = B at *
    generalize (128 + r / 64 % 64).toUInt8 = C at *
    generalize (128 + r % 64).toUInt8 = D at *
    have e : rune [A, B, C, D] = (r, 4) := by
      simp only [rune]
      rw [if_neg (by omega), if_neg (by omega), if_neg (by omega), if_pos ⟨by omega, by omega, cont_of B (by omega) (by omega), cont_of C (by omega) (by omega), cont_of D (by omega) (by omega)⟩, if_pos (by omega)]
      simp only [Prod.mk.injEq, and_true]
      omega
    exact V.step _ (by rw [e]; simp) (by rw [e]; exact .nil)

theorem V_split {l : List UInt8} (h : V l) : ∀ (a b : List UInt8) (c : UInt8), c.toNat < 128 → l = a ++ c :: b → V a ∧ V b := by
  induction h with
  | nil => intro a b c _ e; cases a <;> simp at e
  | step l h t ih =>
    intro a b c hc e
    subst e
    cases a with
    | nil =>
      rw [List.nil_append, rune_low c b hc] at t
      exact ⟨.nil, t⟩
    | cons x a =>
      have hk : (rune (x :: a ++ c :: b)).2 ≤ (x :: a).length := by
        rcases Nat.lt_or_ge (x :: a).length (rune (x :: a ++ c :: b)).2 with hlt | hge
        · exfalso
          by_cases hx : x.toNat < 128
          · rw [List.cons_append, rune_low x _ hx] at hlt
            simp at hlt
          · obtain ⟨_, hall⟩ := rune_high x (a ++ c :: b) hx h
            have hm : c ∈ (x :: (a ++ c :: b)).take (rune (x :: (a ++ c :: b))).2 := by
              have hg : ((x :: (a ++ c :: b)).take (rune (x :: (a ++ c :: b))).2)[(x :: a).length]? = some c := by
                rw [List.getElem?_take, if_pos (by exact hlt)]
                show (x :: a ++ c :: b)[(x :: a).length]? = _
                rw [List.getElem?_append_right (Nat.le_refl _)]
                simp
              exact List.mem_of_getElem? hg
            have := hall c hm
            omega
        · exact hge
      have e1 : rune (x :: a) = rune (x :: a ++ c :: b) := by
        have := rune_app (x :: a ++ c :: b) ((x :: a).drop (rune (x :: a ++ c :: b)).2) h
        rw [List.take_append_of_le_length hk, List.take_append_drop] at this
        exact this
      have e2 : (x :: a ++ c :: b).drop (rune (x :: a ++ c :: b)).2 = (x :: a).drop (rune (x :: a ++ c :: b)).2 ++ c :: b := List.drop_append_of_le_length hk
      obtain ⟨h1, h2⟩ := ih _ b c hc e2
      exact ⟨V.step _ (by rw [e1]; exact h) (by rw [e1]; exact h1), h2⟩
theorem V_drop : ∀ (a b : List UInt8), (∀ c ∈ a, c.toNat < 128) → V (a ++ b) → V b
  | [], b, _, h => h
  | c :: a, b, h, hv => V_drop a b (fun d hd => h d (by simp [hd])) (V_split hv [] (a ++ b) c (h c (by simp)) rfl).2

theorem esc_low {c e : UInt8} (h : esc c = some e) : e.toNat < 128 := by
  unfold esc at h
  repeat' split at h
  all_goals first | (simp at h; subst h; decide) | (cases h)

theorem V_text : ∀ (n : Nat) (l out m r : List UInt8), l.length ≤ n → V out → text out l = some (m, r) → V m
  | _, [], out, m, r, _, _, h => by rw [text_nil] at h; cases h
  | 0, c :: t, _, _, _, h, _, _ => by simp at h
  | n + 1, c :: t, out, m, r, hn, hv, h => by
    by_cases h0 : ctl (c :: t)
    · rw [text_bad h0] at h; cases h
    have hr : (rune (c :: t)).2 ≠ 0 := fun e => h0 (.inl e)
    have hl : t.length ≤ n := by simpa using hn
    by_cases h1 : (rune (c :: t)).1 = 34
    · rw [text_quote h0 h1] at h
      simp at h
      rw [← h.1]; exact hv
    by_cases h2 : (rune (c :: t)).1 = 92
    · cases he : esc (hd t) with
      | some e =>
        rw [text_esc h0 h2 he] at h
        exact V_text n _ _ m r (by rw [List.length_drop]; omega) (V_append hv (V_low (esc_low he))) h
      | none =>
        by_cases hu : (hd t).toNat = 117
        · cases hx : hex (t.drop 1) with
          | none => rw [text_nohex h0 h2 he hu hx] at h; cases h
          | some v =>
            by_cases hs : 55296 ≤ v ∧ v < 57344
            · rw [text_sur h0 h2 he hu hx hs] at h; cases h
            · rw [text_uni h0 h2 he hu hx hs] at h
              have := hex_lt hx
              exact V_text n _ _ m r (by rw [List.length_drop]; omega) (V_append hv (V_enc (by omega))) h
        · rw [text_noesc h0 h2 he hu] at h; cases h
    · rw [text_plain h0 h1 h2] at h
      exact V_text n _ _ m r (by rw [List.length_drop]; simp at hn ⊢; omega) (V_append hv (V_rune hr)) h

theorem V_block : ∀ (n : Nat) (l out m r : List UInt8), l.length ≤ n → V out → block out l = some (m, r) → V m
  | _, [], out, m, r, _, _, h => by rw [block_nil] at h; cases h
  | 0, c :: t, _, _, _, h, _, _ => by simp at h
  | n + 1, c :: t, out, m, r, hn, hv, h => by
    have hl : t.length ≤ n := by simpa using hn
    cases hq : quotes3 (c :: t)
    · by_cases he : c.toNat = 92 ∧ quotes3 t = true
      · rw [block_esc hq he] at h
        exact V_block n _ _ m r (by rw [List.length_drop]; omega) (V_append hv (V_ascii _ (fun d hd => by simp at hd; subst hd; decide))) h
      · by_cases hc : ctlB (c :: t)
        · rw [block_bad hq he hc] at h; cases h
        · rw [block_go hq he hc] at h
          have hr : (rune (c :: t)).2 ≠ 0 := fun e => hc (.inl e)
          exact V_block n _ _ m r (by rw [List.length_drop]; simp at hn ⊢; omega) (V_append hv (V_rune hr)) h
    · rw [block_end hq] at h
      simp at h
      rw [← h.1]; exact hv

/-! 'dedent'. -/
theorem index_cut {s old : List UInt8} {i : Nat} (h : Lib.index s old = i) : ∃ r, s = s.take i ++ (old ++ r) ∧ s.drop (i + old.length) = r := by
  rcases Lib.index_spec s old with ⟨h1, _⟩ | ⟨j, h1, h2, h3, _⟩
  · rw [h1] at h; omega
  · obtain rfl : j = i := by omega
    unfold Lib.occAt at h3
    obtain ⟨r, hr⟩ := List.isPrefixOf_iff_prefix.1 h3
    refine ⟨r, by rw [hr, List.take_append_drop], ?_⟩
    rw [← List.drop_drop, ← hr, List.drop_left]
theorem V_cut {s : List UInt8} {x : UInt8} {o : List UInt8} {i : Nat} (hv : V s) (ho : ∀ c ∈ x :: o, c.toNat < 128) (h : Lib.index s (x :: o) = i) : V (s.take i) ∧ V (s.drop (i + (x :: o).length)) := by
  obtain ⟨r, h1, h2⟩ := index_cut h
  rw [h2]
  obtain ⟨h3, h4⟩ := V_split hv (s.take i) (o ++ r) x (ho x (by simp)) h1
  exact ⟨h3, V_drop o r (fun c hc => ho c (by simp [hc])) h4⟩
theorem V_replK (x : UInt8) (o n : List UInt8) (ho : ∀ c ∈ x :: o, c.toNat < 128) (hn : V n) : ∀ (k : Nat) (s : List UInt8), V s → V (Lib.replaceK (x :: o) n k s)
  | 0, s, hv => hv
  | k + 1, s, hv => by
    unfold Lib.replaceK
    split
    · exact hv
    · rename_i h
      have hge := Lib.index_ge s (x :: o)
      have hi : Lib.index s (x :: o) = ((Lib.index s (x :: o)).toNat : Nat) := by
        have : Lib.index s (x :: o) ≠ -1 := fun e => h (by rw [e]; rfl)
        omega
      obtain ⟨h1, h2⟩ := V_cut hv ho hi
      exact V_append (V_append h1 hn) (V_replK x o n ho hn k _ h2)
theorem V_repl (x : UInt8) (o n s : List UInt8) (ho : ∀ c ∈ x :: o, c.toNat < 128) (hn : V n) (hv : V s) : V (Lib.replaceAll s (x :: o) n) := by
  unfold Lib.replaceAll Lib.replace
  split
  · exact hv
  · exact V_replK x o n ho hn _ s hv
theorem V_splitK : ∀ (k : Nat) (s : List UInt8), V s → ∀ y ∈ Lib.splitK [10] 0 k s, V y
  | 0, s, hv, y, hy => by simp [Lib.splitK] at hy; rw [hy]; exact hv
  | k + 1, s, hv, y, hy => by
    unfold Lib.splitK at hy
    split at hy
    · simp at hy; rw [hy]; exact hv
    · rename_i h
      have hge := Lib.index_ge s [10]
      have hi : Lib.index s [10] = ((Lib.index s [10]).toNat : Nat) := by
        have : Lib.index s [10] ≠ -1 := fun e => h (by rw [e]; rfl)
        omega
      obtain ⟨h1, h2⟩ := V_cut hv (fun c hc => by simp at hc; subst hc; decide) hi
      rcases List.mem_cons.1 hy with rfl | hy
      · exact h1
      · exact V_splitK k _ h2 y hy
theorem V_lines {raw : List UInt8} (hv : V raw) : ∀ y ∈ lines raw, V y := by
  intro y hy
  unfold lines linesB at hy
  rw [Lib.splitB_data] at hy
  refine V_splitK _ _ ?_ y hy
  show V (nl raw)
  unfold nl
  have h10 : V [10] := V_low (by decide)
  exact V_repl 13 [] [10] _ (fun c hc => by simp at hc; subst hc; decide) h10 (V_repl 13 [10] [10] _ (fun c hc => by simp at hc; rcases hc with rfl | rfl <;> decide) h10 hv)

theorem isSp_low {c : UInt8} (h : isSp c = true) : c.toNat < 128 := by
  simp only [isSp, List.contains_cons, List.contains_nil, Bool.or_false, Bool.or_eq_true, beq_iff_eq] at h
  rcases h with rfl | rfl <;> decide
theorem dw_split (p : UInt8 → Bool) : ∀ l : List UInt8, ∃ a, l = a ++ l.dropWhile p ∧ ∀ c ∈ a, p c = true
  | [] => ⟨[], rfl, by simp⟩
  | c :: l => by
    rw [List.dropWhile_cons]
    split
    · rename_i h
      obtain ⟨a, h1, h2⟩ := dw_split p l
      refine ⟨c :: a, by rw [List.cons_append, ← h1], fun d hd => ?_⟩
      rcases List.mem_cons.1 hd with rfl | hd
      · exact h
      · exact h2 d hd
    · exact ⟨[], rfl, by simp⟩
theorem ind_take (x : List UInt8) (n : Nat) (h : n ≤ ind x) : ∀ c ∈ x.take n, isSp c = true := by
  obtain ⟨a, h1, h2⟩ := dw_split isSp x
  have hl : a.length = ind x := by
    unfold ind
    conv => rhs; rw [h1]
    have := congrArg List.length h1
    rw [List.length_append] at this
    rw [← h1]
    omega
  intro c hc
  rw [h1, List.take_append_of_le_length (by omega)] at hc
  exact h2 c (List.mem_of_mem_take hc)
theorem V_dropSp {x : List UInt8} (hv : V x) (n : Nat) (h : allSp x = true ∨ n ≤ ind x) : V (x.drop n) := by
  rcases h with h | h
  · refine V_ascii _ (fun c hc => ?_)
    have hi : x.length ≤ ind x := by
      unfold allSp at h
      rw [beq_iff_eq] at h
      omega
    have := ind_take x x.length hi c (by rw [List.take_length]; exact List.mem_of_mem_drop hc)
    exact isSp_low this
  · refine V_drop (x.take n) _ (fun c hc => isSp_low (ind_take x n h c hc)) ?_
    rw [List.take_append_drop]
    exact hv
theorem com_prop : ∀ (ls : List (List UInt8)) (c : Int), (0 ≤ c → 0 ≤ ls.foldl comStep c ∧ ls.foldl comStep c ≤ c) ∧ ∀ x ∈ ls, allSp x = true ∨ (0 ≤ ls.foldl comStep c ∧ ls.foldl comStep c ≤ ind x)
  | [], c => ⟨fun h => ⟨h, Int.le_refl _⟩, by simp⟩
  | x :: r, c => by
    obtain ⟨h1, h2⟩ := com_prop r (comStep c x)
    rw [List.foldl_cons]
    have hix : (0 : Int) ≤ ind x := Int.natCast_nonneg _
    have hstep : (comStep c x = ind x ∧ (c < 0 ∨ (ind x : Int) < c)) ∨ (comStep c x = c ∧ (allSp x = true ∨ (0 ≤ c ∧ c ≤ ind x))) := by
      unfold comStep
      split
      · rename_i h
        exact .inl ⟨rfl, h.2⟩
      · rename_i h
        refine .inr ⟨rfl, ?_⟩
        by_cases he : ind x = x.length
        · exact .inl (by unfold allSp; rw [he]; simp)
        · have := ind_le x
          exact .inr (by omega)
    refine ⟨fun h0 => ?_, fun y hy => ?_⟩
    · rcases hstep with ⟨e, h⟩ | ⟨e, h⟩
      · rw [e] at h1 ⊢
        have := h1 hix
        omega
      · rw [e] at h1 ⊢
        exact h1 h0
    · rcases List.mem_cons.1 hy with rfl | hy
      · rcases hstep with ⟨e, h⟩ | ⟨e, h⟩
        · rw [e] at h1 ⊢
          exact .inr (h1 hix)
        · rcases h with h | h
          · exact .inl h
          · rw [e] at h1 ⊢
            have := h1 h.1
            exact .inr (by omega)
      · exact h2 y hy
theorem mem_trimEnd {ls : List (List UInt8)} {x : List UInt8} (h : x ∈ trimEnd ls) : x ∈ ls := by
  obtain ⟨n, _, e⟩ := trimEnd_take ls
  rw [e] at h
  exact List.mem_of_mem_take h
theorem mem_dw {α : Type} (p : α → Bool) {ls : List α} {x : α} (h : x ∈ ls.dropWhile p) : x ∈ ls := (List.dropWhile_sublist p).subset h
theorem V_joinTail : ∀ ls : List (List UInt8), (∀ x ∈ ls, V x) → V (Lib.joinTail [10] ls)
  | [], _ => .nil
  | x :: r, h => by
    have e : Lib.joinTail [10] (x :: r) = [10] ++ x ++ Lib.joinTail [10] r := by simp [Lib.joinTail]
    rw [e]
    exact V_append (V_append (V_low (by decide)) (h x (by simp))) (V_joinTail r (fun y hy => h y (by simp [hy])))
theorem V_join : ∀ ls : List (List UInt8), (∀ x ∈ ls, V x) → V (Lib.join ls [10])
  | [], _ => .nil
  | x :: r, h => by
    rw [Lib.join_cons]
    exact V_append (h x (by simp)) (V_joinTail r (fun y hy => h y (by simp [hy])))
theorem V_dedent {raw : List UInt8} (hv : V raw) : V (dedent raw) := by
  unfold dedent
  refine V_join _ (fun x hx => ?_)
  have hx := mem_dw _ (mem_trimEnd hx)
  obtain ⟨i, hi⟩ := List.getElem?_of_mem hx
  rw [strip_get] at hi
  cases hl : (lines raw)[i]? with
  | none => rw [hl] at hi; cases hi
  | some y =>
    rw [hl] at hi
    simp at hi
    subst hi
    have hy := V_lines hv y (List.mem_of_getElem? hl)
    unfold stripAt
    split
    · rename_i h
      refine V_dropSp hy _ ?_
      have hmem : y ∈ (lines raw).tail := by
        cases hlr : lines raw with
        | nil => rw [hlr] at hl; simp at hl
        | cons a r =>
          rw [hlr] at hl
          obtain ⟨j, rfl⟩ : ∃ j, i = j + 1 := ⟨i - 1, by omega⟩
          simp at hl
          exact List.mem_of_getElem? hl
      rcases (com_prop (lines raw).tail (-1)).2 y hmem with h2 | h2
      · exact .inl h2
      · refine .inr ?_
        unfold common at h ⊢
        omega
    · exact hy
end Lx
end Go.Proofs.YtabcaljnpahgpaaDoor
