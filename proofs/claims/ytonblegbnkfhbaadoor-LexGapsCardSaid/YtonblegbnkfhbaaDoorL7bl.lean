/-
  A block string of plain lines means the lines (no program in sight).
-/
import Derived.Test.YtonblegbnkfhbaaDoorLxlm
import Derived.Test.YtonblegbnkfhbaaDoorLxg
namespace Go.Proofs.YtonblegbnkfhbaaDoor
set_option linter.unusedSimpArgs false
set_option linter.unusedVariables false

def plainB (c : UInt8) : Bool := Lx.isLetter c || Lx.isDigit c || decide (c.toNat = 32)
/-- A line of letters, digits and blanks that begins with a letter. -/
def Lx.plain (l : List UInt8) : Bool := Lx.isLetter (Lx.hd l) && l.all plainB
def blkB (c : UInt8) : Bool := plainB c || decide (c.toNat = 10)

def blkOk (c : UInt8) : Bool := !blkB c || (decide (c.toNat < 128) && decide (c.toNat ≠ 34) && decide (c.toNat ≠ 92) && decide (c.toNat ≠ 13) && (decide (32 ≤ c.toNat) || decide (c.toNat = 10)) && (!plainB c || decide (c.toNat ≠ 10)))
set_option maxRecDepth 100000 in
theorem blkOk_fin : ∀ n : Fin 256, blkOk (UInt8.ofNat n.val) = true := by decide +kernel
theorem blk_of {c : UInt8} (h : blkB c = true) : c.toNat < 128 ∧ c.toNat ≠ 34 ∧ c.toNat ≠ 92 ∧ c.toNat ≠ 13 ∧ (32 ≤ c.toNat ∨ c.toNat = 10) ∧ (plainB c = true → c.toNat ≠ 10) := by
  have := blkOk_fin ⟨c.toNat, UInt8.toNat_lt c⟩
  have hk : blkOk c = true := by simpa using this
  unfold blkOk at hk
  rw [h] at hk
  simp only [Bool.not_true, Bool.false_or, Bool.and_eq_true, decide_eq_true_eq, Bool.or_eq_true, Bool.not_eq_true'] at hk
  obtain ⟨⟨⟨⟨⟨h1, h2⟩, h3⟩, h4⟩, h5⟩, h6⟩ := hk
  refine ⟨h1, h2, h3, h4, h5, fun hp => ?_⟩
  rcases h6 with h6 | h6
  · rw [hp] at h6; cases h6
  · exact h6

theorem block_plain : ∀ (x out r : List UInt8), (∀ c ∈ x, blkB c = true) → Lx.block out (x ++ 34 :: 34 :: 34 :: r) = some (out ++ x, r)
  | [], out, r, _ => by
    rw [List.nil_append, Lx.block_end (by rfl), List.append_nil]
    rfl
  | c :: x, out, r, h => by
    obtain ⟨h1, h2, h3, h4, h5, -⟩ := blk_of (h c (by simp))
    have hr : Lx.rune (c :: (x ++ 34 :: 34 :: 34 :: r)) = (c.toNat, 1) := Lx.rune_ascii h1
    have hq : Lx.quotes3 (c :: (x ++ 34 :: 34 :: 34 :: r)) = false := by
      unfold Lx.quotes3
      rw [decide_eq_false_iff_not]
      intro e
      simp at e
      exact h2 (by rw [e.1]; rfl)
    rw [List.cons_append, Lx.block_go hq (fun e => h3 e.1) (by unfold Lx.ctlB; rw [hr]; simp only []; omega), hr]
    have := block_plain x (out ++ [c]) r (fun d hd => h d (by simp [hd]))
    rw [List.append_assoc] at this
    exact this

theorem replAll_none (s : List UInt8) (x : UInt8) (o n : List UInt8) (h : x ∉ s) : Lib.replaceAll s (x :: o) n = s := by
  have hi : Lib.index s (x :: o) = -1 := by
    apply Lib.index_none
    intro j hj
    unfold Lib.occAt
    cases hd : s.drop j with
    | nil => rfl
    | cons a t =>
      have ha : a ∈ s := List.mem_of_mem_drop (i := j) (by rw [hd]; simp)
      have hne : x ≠ a := fun e => h (e ▸ ha)
      simp [List.isPrefixOf, hne]
  unfold Lib.replaceAll Lib.replace
  split
  · rfl
  · unfold Lib.replaceNum
    rw [if_pos (.inl (by decide)), Lib.count_miss hi]
    rfl

theorem join_two (x y : List UInt8) (r : List (List UInt8)) (sep : List UInt8) : Lib.join (x :: y :: r) sep = x ++ (sep ++ Lib.join (y :: r) sep) := by
  simp [Lib.join, List.intercalate]
theorem index_line (x r : List UInt8) (h : (10 : UInt8) ∉ x) : Lib.index (x ++ 10 :: r) [10] = (x.length : Nat) := by
  apply Lib.index_first
  · simp
  · simp [Lib.occAt, List.isPrefixOf]
  · intro j hj
    unfold Lib.occAt
    have hd : (x ++ 10 :: r).drop j = x[j]'hj :: (x.drop (j + 1) ++ 10 :: r) := by
      rw [List.drop_append_of_le_length (by omega), List.drop_eq_getElem_cons hj]
      rfl
    rw [hd]
    have hne : (10 : UInt8) ≠ x[j]'hj := fun e => h (e ▸ List.getElem_mem hj)
    simp [List.isPrefixOf, hne]
theorem split_join : ∀ (x : List UInt8) (r : List (List UInt8)), (∀ l ∈ x :: r, (10 : UInt8) ∉ l) →
    Lib.splitK [10] 0 ((Lib.join (x :: r) [10]).count 10) (Lib.join (x :: r) [10]) = x :: r
  | x, [], h => by
    rw [Lib.join_one, List.count_eq_zero_of_not_mem (h x (by simp))]
    rfl
  | x, y :: r, h => by
    have hx := h x (by simp)
    have ih := split_join y r (fun l hl => h l (by simp at hl ⊢; exact .inr hl))
    rw [join_two]
    show Lib.splitK [10] 0 ((x ++ 10 :: Lib.join (y :: r) [10]).count 10) (x ++ 10 :: Lib.join (y :: r) [10]) = _
    have hc : (x ++ 10 :: Lib.join (y :: r) [10]).count 10 = (Lib.join (y :: r) [10]).count 10 + 1 := by
      rw [List.count_append, List.count_eq_zero_of_not_mem hx, List.count_cons_self]
      omega
    rw [hc, Lib.splitK, index_line x _ hx, if_neg (by simp)]
    have e1 : ((x.length : Nat) : Int).toNat = x.length := by omega
    rw [e1]
    have e2 : (x ++ 10 :: Lib.join (y :: r) [10]).drop (x.length + ([10] : List UInt8).length) = Lib.join (y :: r) [10] := by
      rw [← List.drop_drop, List.drop_left]
      rfl
    rw [e2, ih]
    simp

theorem lines_join (x : List UInt8) (r : List (List UInt8)) (h : ∀ l ∈ x :: r, (10 : UInt8) ∉ l) (h13 : (13 : UInt8) ∉ Lib.join (x :: r) [10]) : Lx.lines (Lib.join (x :: r) [10]) = x :: r := by
  have hnl : Lx.nl (Lib.join (x :: r) [10]) = Lib.join (x :: r) [10] := by
    unfold Lx.nl
    rw [replAll_none _ _ _ _ h13, replAll_none _ _ _ _ h13]
  unfold Lx.lines Lx.linesB
  rw [hnl, Lib.splitB_data]
  have hc : Lib.countB ⟨(Lib.join (x :: r) [10]).toArray⟩ ⟨#[10]⟩ = (Lib.join (x :: r) [10]).count 10 := by
    show Lib.count (Lib.join (x :: r) [10]) [10] = _
    exact Lib.count_one 10 _
  rw [hc]
  exact split_join x r h

/-! What the lines mean. -/
theorem dropSp_rep (d : Nat) (c : UInt8) (t : List UInt8) (hc : Lx.isSp c = false) : (List.replicate d 32 ++ c :: t).dropWhile Lx.isSp = c :: t := by
  induction d with
  | zero => rw [List.replicate_zero, List.nil_append, List.dropWhile_cons, hc]; rfl
  | succ d ih => rw [List.replicate_succ, List.cons_append, List.dropWhile_cons, if_pos (by decide), ih]
theorem dropSp_all (d : Nat) : (List.replicate d (32 : UInt8)).dropWhile Lx.isSp = [] := by
  induction d with
  | zero => rfl
  | succ d ih => rw [List.replicate_succ, List.dropWhile_cons, if_pos (by decide), ih]
theorem allSp_rep (d : Nat) : Lx.allSp (List.replicate d 32) = true := by
  unfold Lx.allSp Lx.ind
  rw [dropSp_all]
  simp
theorem letter_sp {c : UInt8} (h : Lx.isLetter c = true) : Lx.isSp c = false := by
  cases hs : Lx.isSp c
  · rfl
  · simp only [Lx.isSp, List.contains_cons, List.contains_nil, Bool.or_false, Bool.or_eq_true, beq_iff_eq] at hs
    rcases hs with rfl | rfl
    · exact absurd h (by decide)
    · exact absurd h (by decide)
theorem plain_ind (d : Nat) (l : List UInt8) (h : Lx.plain l = true) : Lx.ind (List.replicate d 32 ++ l) = d ∧ d < (List.replicate d 32 ++ l).length := by
  match l with
  | [] => exact absurd h (by decide)
  | c :: t =>
    simp only [Lx.plain, Lx.hd, List.headD_cons, Bool.and_eq_true] at h
    unfold Lx.ind
    rw [dropSp_rep d c t (letter_sp h.1), List.length_append, List.length_replicate, List.length_cons]
    omega
theorem plain_notSp (l : List UInt8) (h : Lx.plain l = true) : Lx.allSp l = false := by
  obtain ⟨h1, h2⟩ := plain_ind 0 l h
  rw [List.replicate_zero, List.nil_append] at h1 h2
  unfold Lx.allSp
  rw [h1, beq_eq_false_iff_ne]
  omega

theorem com_sp (c : Int) (s : List UInt8) (h : Lx.allSp s = true) : Lx.comStep c s = c := by
  unfold Lx.allSp at h
  rw [beq_iff_eq] at h
  unfold Lx.comStep
  rw [if_neg (by omega)]
theorem fold_sp (c : Int) : ∀ ls : List (List UInt8), (∀ l ∈ ls, Lx.allSp l = true) → ls.foldl Lx.comStep c = c
  | [], _ => rfl
  | x :: r, h => by rw [List.foldl_cons, com_sp c x (h x (by simp))]; exact fold_sp c r (fun l hl => h l (by simp [hl]))
theorem fold_pl (d : Nat) : ∀ (ls : List (List UInt8)), (∀ l ∈ ls, Lx.plain l = true) → (ls.map (List.replicate d 32 ++ ·)).foldl Lx.comStep d = d
  | [], _ => rfl
  | x :: r, h => by
    obtain ⟨h1, h2⟩ := plain_ind d x (h x (by simp))
    rw [List.map_cons, List.foldl_cons]
    have : Lx.comStep (d : Int) (List.replicate d 32 ++ x) = d := by
      unfold Lx.comStep
      rw [h1]
      split <;> rfl
    rw [this]
    exact fold_pl d r (fun l hl => h l (by simp [hl]))
theorem fold_first (d : Nat) (x : List UInt8) (r : List (List UInt8)) (h : ∀ l ∈ x :: r, Lx.plain l = true) : ((x :: r).map (List.replicate d 32 ++ ·)).foldl Lx.comStep (-1) = d := by
  obtain ⟨h1, h2⟩ := plain_ind d x (h x (by simp))
  rw [List.map_cons, List.foldl_cons]
  have : Lx.comStep (-1) (List.replicate d 32 ++ x) = d := by
    unfold Lx.comStep
    rw [h1, if_pos ⟨by omega, .inl (by decide)⟩]
  rw [this]
  exact fold_pl d r (fun l hl => h l (by simp [hl]))

theorem mapIdx_const {α β : Type} (f : α → β) : ∀ l : List α, l.mapIdx (fun _ x => f x) = l.map f
  | [] => rfl
  | a :: l => by rw [List.mapIdx_cons, List.map_cons]; exact congrArg (f a :: ·) (mapIdx_const f l)
theorem strip_cons (d : Nat) (x : List UInt8) (r : List (List UInt8)) : Lx.strip (d : Int) (x :: r) = x :: r.map (·.drop d) := by
  unfold Lx.strip
  rw [List.mapIdx_cons]
  congr 1
  have : (fun i => Lx.stripAt (d : Int) (i + 1)) = fun _ s => s.drop d := by
    funext i s
    unfold Lx.stripAt
    by_cases h0 : d = 0
    · subst h0; simp
    · rw [if_pos ⟨by omega, by omega⟩]; simp
  rw [this]
  exact mapIdx_const _ r

/-- The lines of a block string as the statement lays them. -/
def blkLines (d k : Nat) (L : List (List UInt8)) : List (List UInt8) := List.replicate k (List.replicate d 32) ++ (L.map (List.replicate d 32 ++ ·) ++ [[32, 32], []])

theorem dropWhile_pre {α : Type} (p : α → Bool) : ∀ (a b : List α), (∀ x ∈ a, p x = true) → (a ++ b).dropWhile p = b.dropWhile p
  | [], b, _ => rfl
  | x :: a, b, h => by rw [List.cons_append, List.dropWhile_cons, if_pos (h x (by simp))]; exact dropWhile_pre p a b (fun y hy => h y (by simp [hy]))

theorem dedent_blk (d k : Nat) (x : List UInt8) (r : List (List UInt8)) (h : ∀ l ∈ x :: r, Lx.plain l = true) (hlines : Lx.lines (Lib.join ([] :: blkLines d k (x :: r)) [10]) = [] :: blkLines d k (x :: r)) :
    Lx.dedent (Lib.join ([] :: blkLines d k (x :: r)) [10]) = Lib.join (x :: r) [10] := by
  have hcom : Lx.common (blkLines d k (x :: r)) = (d : Int) := by
    unfold Lx.common blkLines
    rw [List.foldl_append, fold_sp (-1) _ (fun l hl => by rw [List.eq_of_mem_replicate hl]; exact allSp_rep d), List.foldl_append, fold_first d x r h]
    exact fold_sp _ _ (fun l hl => by simp at hl; rcases hl with rfl | rfl <;> decide)
  unfold Lx.dedent
  rw [hlines, List.tail_cons, hcom, strip_cons]
  have hm : (blkLines d k (x :: r)).map (·.drop d) = List.replicate k [] ++ ((x :: r) ++ [[32, 32].drop d, []]) := by
    unfold blkLines
    rw [List.map_append, List.map_append, List.map_replicate, List.map_map]
    have e1 : (List.replicate d (32 : UInt8)).drop d = [] := by simp
    have e2 : (x :: r).map ((fun l : List UInt8 => l.drop d) ∘ (List.replicate d 32 ++ ·)) = x :: r := by
      have : ((fun l : List UInt8 => l.drop d) ∘ (List.replicate d (32 : UInt8) ++ ·)) = id := by
        funext l
        simp
      rw [this, List.map_id]
    rw [e1, e2]
    simp
  rw [hm, ← List.cons_append]
  rw [dropWhile_pre Lx.allSp ([] :: List.replicate k []) _ (fun l hl => by simp at hl; rcases hl with rfl | ⟨_, rfl⟩ <;> rfl)]
  rw [List.cons_append, List.dropWhile_cons, if_neg (by rw [plain_notSp x (h x (by simp))]; simp)]
  have e3 : x :: (r ++ [[32, 32].drop d, []]) = (x :: r) ++ [[32, 32].drop d] ++ [[]] := by simp
  have hsp : Lx.allSp (([32, 32] : List UInt8).drop d) = true := by
    match d with
    | 0 => decide
    | 1 => decide
    | d + 2 => rw [List.drop_of_length_le (by simp)]; decide
  rw [e3, Lx.trimEnd_snoc, if_pos (by decide), Lx.trimEnd_snoc, if_pos hsp]
  have hne : x :: r ≠ [] := by simp
  rw [← List.dropLast_concat_getLast hne, Lx.trimEnd_snoc, if_neg (by rw [plain_notSp _ (h _ (List.getLast_mem hne))]; simp)]

/-- The text as the statement lays it, but for its end. -/
def blkText (d k : Nat) (L : List (List UInt8)) : List UInt8 := [34, 34, 34] ++ Lib.joinTail [10] (List.replicate k (List.replicate d 32) ++ L.map (List.replicate d 32 ++ ·))
theorem joinTail_app (sep : List UInt8) (a b : List (List UInt8)) : Lib.joinTail sep (a ++ b) = Lib.joinTail sep a ++ Lib.joinTail sep b := by simp [Lib.joinTail]
theorem blkText_end (d k : Nat) (L : List (List UInt8)) : blkText d k L ++ [10, 32, 32, 10, 34, 34, 34] = [34, 34, 34] ++ (Lib.join ([] :: blkLines d k L) [10] ++ [34, 34, 34]) := by
  unfold blkText blkLines
  rw [Lib.join_cons, List.nil_append, ← List.append_assoc (List.replicate k _), joinTail_app _ _ [[32, 32], []]]
  simp [Lib.joinTail]

theorem plain_blk {l : List UInt8} (h : Lx.plain l = true) : ∀ c ∈ l, plainB c = true := by
  simp only [Lx.plain, Bool.and_eq_true, List.all_eq_true] at h
  exact h.2
theorem lines_blk (d k : Nat) (L : List (List UInt8)) (h : ∀ l ∈ L, Lx.plain l = true) : ∀ l ∈ ([] :: blkLines d k L), ∀ c ∈ l, plainB c = true := by
  have h32 : plainB 32 = true := by decide
  have hrep : ∀ c ∈ List.replicate d (32 : UInt8), plainB c = true := fun c hc => by rw [List.eq_of_mem_replicate hc]; exact h32
  intro l hl c hc
  simp only [blkLines, List.mem_cons, List.mem_append, List.mem_map, List.not_mem_nil, or_false] at hl
  rcases hl with rfl | hl | ⟨x, hx, rfl⟩ | rfl | rfl
  · simp at hc
  · rw [List.eq_of_mem_replicate hl] at hc; exact hrep c hc
  · rw [List.mem_append] at hc
    rcases hc with hc | hc
    · exact hrep c hc
    · exact plain_blk (h x hx) c hc
  · simp at hc; rw [hc]; exact h32
  · simp at hc
theorem join_mem (ls : List (List UInt8)) (c : UInt8) (x : List UInt8) (h : c ∈ Lib.join (x :: ls) [10]) : c = 10 ∨ ∃ l ∈ x :: ls, c ∈ l := by
  rw [Lib.join_cons, List.mem_append] at h
  rcases h with h | h
  · exact .inr ⟨x, by simp, h⟩
  · simp only [Lib.joinTail, List.mem_flatten, List.mem_map] at h
    obtain ⟨_, ⟨l, hl, rfl⟩, hc⟩ := h
    rw [List.mem_append] at hc
    rcases hc with hc | hc
    · exact .inl (by simpa using hc)
    · exact .inr ⟨l, by simp [hl], hc⟩

theorem blocks_lex (d k : Nat) (L : List (List UInt8)) (hne : L ≠ []) (h : ∀ l ∈ L, Lx.plain l = true) (hlen : (blkText d k L).length ≤ 4000) :
    Lx.lex (blkText d k L ++ [10, 32, 32, 10, 34, 34, 34]) = .ok [⟨4, Lib.join L [10], 0⟩, ⟨0, [], (blkText d k L).length + 7⟩] := by
  obtain ⟨x, r, rfl⟩ : ∃ x r, L = x :: r := by cases L with | nil => exact absurd rfl hne | cons x r => exact ⟨x, r, rfl⟩
  have hb := lines_blk d k (x :: r) h
  have hno : ∀ l ∈ ([] :: blkLines d k (x :: r)), (10 : UInt8) ∉ l := fun l hl hc => by
    have := hb l hl 10 hc
    exact absurd this (by decide)
  have h13 : (13 : UInt8) ∉ Lib.join ([] :: blkLines d k (x :: r)) [10] := fun hc => by
    rcases join_mem _ _ _ hc with e | ⟨l, hl, hcl⟩
    · exact absurd e (by decide)
    · exact absurd (hb l hl 13 hcl) (by decide)
  have hraw : ∀ c ∈ Lib.join ([] :: blkLines d k (x :: r)) [10], blkB c = true := fun c hc => by
    rcases join_mem _ _ _ hc with rfl | ⟨l, hl, hcl⟩
    · decide
    · unfold blkB; rw [hb l hl c hcl]; rfl
  have hded := dedent_blk d k x r h (lines_join _ _ hno h13)
  have hsz : (blkText d k (x :: r) ++ [10, 32, 32, 10, 34, 34, 34]).length = (blkText d k (x :: r)).length + 7 := by simp
  generalize hT : blkText d k (x :: r) ++ [10, 32, 32, 10, 34, 34, 34] = T at *
  rw [blkText_end] at hT
  generalize Lib.join ([] :: blkLines d k (x :: r)) [10] = raw at *
  have hT2 : T = 34 :: 34 :: 34 :: (raw ++ [34, 34, 34]) := by rw [← hT]; rfl
  have htok : Lx.token T = some (4, Lib.join (x :: r) [10], []) := by
    rw [hT2]
    unfold Lx.token
    rw [if_neg (by simp [Lx.hd, show Lx.isLetter 34 = false by decide]), if_neg (by simp [Lx.hd, show Lx.isDigit 34 = false by decide]), if_pos (by rfl)]
    have := block_plain raw [] [] hraw
    rw [show (34 :: 34 :: 34 :: (raw ++ [34, 34, 34])).drop 3 = raw ++ [34, 34, 34] from rfl, this, List.nil_append]
    show some (4, Lx.dedent raw, []) = _
    rw [hded]
  have hgap : ∀ f, Lx.gap f T = (T, true) := fun f => by
    rw [hT2]
    exact Lx.gap_stop (by decide) (by simp [Lx.bom]) (by decide)
  unfold Lx.lex
  rw [if_neg (by omega), hsz, Lx.lexGo, hgap, if_neg (by simp), if_neg (by simp; rw [hT2]; simp), htok]
  simp only [List.length_nil, List.nil_append]
  rw [if_neg (by omega), Lx.lexGo, Lx.gap_nil, if_neg (by simp), if_pos (by rfl)]
  rw [hsz]
  simp
end Go.Proofs.YtonblegbnkfhbaaDoor
