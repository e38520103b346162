/-
  The lexer's 'dedent' as a plain function.
-/
import Derived.Test.YtonblegbnkfhbaaDoorLxm
import Derived.Lib.Replace
import Derived.Lib.Split
import Derived.Lib.Join
import Derived.Lib.CountLaws
import Derived.Lib.Bytealg
namespace Go.Proofs.YtonblegbnkfhbaaDoor
set_option linter.unusedSimpArgs false
set_option linter.unusedVariables false
namespace Lx

def isSp (c : UInt8) : Bool := [32, 9].contains c
/-- How many blanks a line begins with. -/
def ind (l : List UInt8) : Nat := l.length - (l.dropWhile isSp).length
theorem ind_le (l : List UInt8) : ind l ≤ l.length := by unfold ind; omega
theorem dropWhile_le (p : UInt8 → Bool) (l : List UInt8) : (l.dropWhile p).length ≤ l.length := by
  induction l with
  | nil => simp
  | cons a l ih =>
    rw [List.dropWhile_cons]
    split
    · simp; omega
    · simp

/-- Line ends are 10 alone. -/
def nl (raw : List UInt8) : List UInt8 := Lib.replaceAll (Lib.replaceAll raw [13, 10] [10]) [13] [10]
/-- The lines. -/
def linesB (raw : ByteArray) : List ByteArray := Lib.splitB ⟨#[10]⟩ 0 (Lib.countB raw ⟨#[10]⟩) raw
def lines (raw : List UInt8) : List (List UInt8) := (linesB ⟨(nl raw).toArray⟩).map (·.data.toList)

/-- One line more for the common indent; below 0: none yet. -/
def comStep (c : Int) (s : List UInt8) : Int := if (ind s : Int) < s.length ∧ (c < 0 ∨ (ind s : Int) < c) then ind s else c
def common (ls : List (List UInt8)) : Int := ls.foldl comStep (-1)
/-- A line at a place loses the indent, but for the first. -/
def stripAt (c : Int) (i : Nat) (s : List UInt8) : List UInt8 := if 0 < i ∧ 0 < c then s.drop c.toNat else s
def strip (c : Int) (ls : List (List UInt8)) : List (List UInt8) := ls.mapIdx (stripAt c)
def allSp (s : List UInt8) : Bool := ind s == s.length
def trimEnd : List (List UInt8) → List (List UInt8)
  | [] => []
  | x :: r => match trimEnd r with
    | [] => if allSp x then [] else [x]
    | y :: r => x :: y :: r
def dedent (raw : List UInt8) : List UInt8 :=
  Lib.join (trimEnd ((strip (common (lines raw).tail) (lines raw)).dropWhile allSp)) [10]

def isWord (c : UInt8) : Bool := isLetter c || isDigit c
def signs : List UInt8 := [33, 36, 38, 40, 41, 58, 61, 64, 91, 93, 123, 124, 125]
def dots3 (l : List UInt8) : Bool := l.take 3 = [46, 46, 46]
/-- The token at the beginning: its kind, its text, what stands behind it. -/
def token (l : List UInt8) : Option (Nat × List UInt8 × List UInt8) :=
  if isLetter (hd l) then some (1, l.take (l.length - (l.dropWhile isWord).length), l.dropWhile isWord)
  else if (hd l).toNat = 45 ∨ isDigit (hd l) then (number l).map fun p => (p.1, l.take (l.length - p.2.length), p.2)
  else if quotes3 l then (block [] (l.drop 3)).map fun p => (4, dedent p.1, p.2)
  else if (hd l).toNat = 34 then (text [] (l.drop 1)).map fun p => (4, p.1, p.2)
  else if dots3 l then some (5, l.take 3, l.drop 3)
  else if (hd l).toNat ≠ 0 ∧ signs.contains (hd l) then some (5, l.take 1, l.drop 1)
  else none

theorem trimEnd_nil : trimEnd [] = [] := rfl
theorem trimEnd_snoc (l : List (List UInt8)) (x : List UInt8) : trimEnd (l ++ [x]) = if allSp x then trimEnd l else l ++ [x] := by
  induction l with
  | nil => simp [trimEnd]
  | cons a l ih =>
    simp only [List.cons_append, trimEnd, ih]
    by_cases h : allSp x
    · simp [h]
    · simp only [h, if_neg]
      cases l <;> simp

theorem splitB_len (sep : ByteArray) (h1 : 1 ≤ sep.size) : ∀ (n : Nat) (s : ByteArray), Lib.countB s sep = n → (Lib.splitB sep 0 n s).length = n + 1
  | 0, s, _ => rfl
  | n + 1, s, h => by
    have hge := Lib.index_ge s.data.toList sep.data.toList
    by_cases hm : Lib.indexB s sep = -1
    · rw [Lib.countB_miss s sep hm] at h; omega
    · obtain ⟨i, hi⟩ : ∃ i : Nat, Lib.indexB s sep = i := ⟨(Lib.indexB s sep).toNat, by
        have : -1 ≤ Lib.indexB s sep := hge
        omega⟩
      rw [Lib.countB_hit s sep i h1 hi] at h
      rw [Lib.splitB_hit sep 0 n s i hi, List.length_cons, splitB_len sep h1 n _ (by omega)]

theorem splitB_size (sep : ByteArray) : ∀ (n : Nat) (s : ByteArray) (x : ByteArray), x ∈ Lib.splitB sep 0 n s → x.size ≤ s.size
  | 0, s, x, h => by simp [Lib.splitB] at h; subst h; omega
  | n + 1, s, x, h => by
    unfold Lib.splitB at h
    split at h
    · simp at h; subst h; omega
    · rcases List.mem_cons.1 h with h | h
      · subst h; simp only [ByteArray.size_extract]; omega
      · have := splitB_size sep n _ x h
        simp only [ByteArray.size_extract] at this; omega

theorem replaceK_len (old new : List UInt8) : ∀ (k : Nat) (s : List UInt8), (Lib.replaceK old new k s).length ≤ s.length + k * new.length
  | 0, s => by simp [Lib.replaceK]
  | k + 1, s => by
    unfold Lib.replaceK
    split
    · have : 0 ≤ (k + 1) * new.length := Nat.zero_le _
      omega
    · have := replaceK_len old new k (s.drop ((Lib.index s old).toNat + old.length))
      rw [List.length_append, List.length_append, List.length_take, Nat.succ_mul]
      rw [List.length_drop] at this
      omega
theorem replaceAll_len (s old new : List UInt8) (hn : new.length = 1) : (Lib.replaceAll s old new).length ≤ 2 * s.length + 1 := by
  unfold Lib.replaceAll Lib.replace
  split
  · omega
  · have h1 := replaceK_len old new (Lib.replaceNum s old (-1)) s
    have h2 : Lib.replaceNum s old (-1) ≤ s.length + 1 := by
      unfold Lib.replaceNum
      rw [if_pos (.inl (by decide))]
      exact Lib.count_le s old
    rw [hn] at h1
    omega
theorem nl_len (s : List UInt8) : (nl s).length ≤ 4 * s.length + 3 := by
  have h1 := replaceAll_len s [13, 10] [10] rfl
  have h2 := replaceAll_len (Lib.replaceAll s [13, 10] [10]) [13] [10] rfl
  unfold nl; omega
theorem lines_len (s : List UInt8) : (lines s).length = Lib.countB ⟨(nl s).toArray⟩ ⟨#[10]⟩ + 1 := by
  unfold lines linesB
  rw [List.length_map, splitB_len _ (by decide) _ _ rfl]
theorem lines_le (s : List UInt8) : (lines s).length ≤ 4 * s.length + 5 := by
  rw [lines_len]
  have := Lib.count_le (nl s) [10]
  have h2 := nl_len s
  show Lib.count (nl s) [10] + 1 ≤ _
  omega
theorem line_le (s : List UInt8) (x : List UInt8) (h : x ∈ lines s) : x.length ≤ 4 * s.length + 3 := by
  unfold lines linesB at h
  obtain ⟨b, hb, rfl⟩ := List.mem_map.1 h
  have h1 := splitB_size _ _ _ b hb
  have h2 := nl_len s
  have h3 : (ByteArray.mk (nl s).toArray).size = (nl s).length := rfl
  have h4 : b.data.toList.length = b.size := by simp
  omega
theorem strip_len (c : Int) (ls : List (List UInt8)) : (strip c ls).length = ls.length := by simp [strip]
theorem strip_get (c : Int) (ls : List (List UInt8)) (i : Nat) : (strip c ls)[i]? = (ls[i]?).map (stripAt c i) := by simp [strip]
theorem stripAt_le (c : Int) (i : Nat) (s : List UInt8) : (stripAt c i s).length ≤ s.length := by unfold stripAt; split <;> simp
theorem trimEnd_take (l : List (List UInt8)) : ∃ n, n ≤ l.length ∧ trimEnd l = l.take n := by
  induction l with
  | nil => exact ⟨0, by simp, rfl⟩
  | cons x r ih =>
    obtain ⟨n, hn, h⟩ := ih
    unfold trimEnd
    cases hr : trimEnd r with
    | nil =>
      simp only []
      by_cases hx : allSp x
      · exact ⟨0, by omega, by simp [hx]⟩
      · exact ⟨1, by simp, by simp [hx]⟩
    | cons y r' => exact ⟨n + 1, by simpa using hn, by simp [← hr, h]⟩
theorem common_ge (ls : List (List UInt8)) : ∀ c : Int, -1 ≤ c → -1 ≤ ls.foldl comStep c ∧ ls.foldl comStep c ≤ max c 1000000000 ∨ ∃ x ∈ ls, 1000000000 < x.length := by
  induction ls with
  | nil => intro c h; exact .inl ⟨h, by simp; omega⟩
  | cons x r ih =>
    intro c h
    by_cases hx : 1000000000 < x.length
    · exact .inr ⟨x, by simp, hx⟩
    · have h1 : -1 ≤ comStep c x ∧ comStep c x ≤ max c 1000000000 := by
        have := ind_le x
        unfold comStep
        split <;> omega
      rcases ih (comStep c x) h1.1 with h2 | ⟨y, hy, h2⟩
      · refine .inl ⟨h2.1, ?_⟩
        have := h2.2
        simp only [List.foldl_cons]
        omega
      · exact .inr ⟨y, by simp [hy], h2⟩
theorem join_le (ls : List (List UInt8)) (M : Nat) (h : ∀ x ∈ ls, x.length ≤ M) : (Lib.join ls [10]).length ≤ ls.length * (M + 1) := by
  have hl : ∀ (ls : List (List UInt8)), (∀ x ∈ ls, x.length ≤ M) → Lib.lens ls ≤ ls.length * M := by
    intro ls
    induction ls with
    | nil => intro _; simp [Lib.lens]
    | cons x r ih =>
      intro h
      have h1 := h x (by simp)
      have h2 := ih (fun y hy => h y (by simp [hy]))
      have h3 : Lib.lens (x :: r) = x.length + Lib.lens r := by simp [Lib.lens]
      rw [h3, List.length_cons, Nat.succ_mul]
      omega
  cases ls with
  | nil => simp [Lib.join_nil]
  | cons x r =>
    rw [Lib.join_length]
    have := hl (x :: r) h
    rw [Nat.mul_add]
    simp only [List.length_cons, List.length_nil] at this ⊢
    omega
theorem dropWhile_all (p : List UInt8 → Bool) (ls : List (List UInt8)) : (ls.dropWhile p).length ≤ ls.length := by
  induction ls with
  | nil => simp
  | cons a l ih =>
    rw [List.dropWhile_cons]
    split
    · simp; omega
    · simp
theorem dedent_len (raw : List UInt8) (h : raw.length ≤ 5000) : (dedent raw).length ≤ 1000000000 := by
  unfold dedent
  obtain ⟨n, _, ht⟩ := trimEnd_take ((strip (common (lines raw).tail) (lines raw)).dropWhile allSp)
  rw [ht]
  have h1 := join_le (((strip (common (lines raw).tail) (lines raw)).dropWhile allSp).take n) 20003 (by
    intro x hx
    have h2 := List.mem_of_mem_take hx
    have h3 := (List.dropWhile_sublist _).subset h2
    obtain ⟨m, hm⟩ := List.getElem?_of_mem h3
    rw [strip_get] at hm
    cases hl : (lines raw)[m]? with
    | none => rw [hl] at hm; simp at hm
    | some z =>
      rw [hl] at hm
      simp only [Option.map_some, Option.some.injEq] at hm
      subst hm
      have h4 := stripAt_le (common (lines raw).tail) m z
      have h5 := line_le raw z (List.mem_of_getElem? hl)
      omega)
  have h2 := dropWhile_all allSp (strip (common (lines raw).tail) (lines raw))
  rw [strip_len] at h2
  have h3 := lines_le raw
  rw [List.length_take] at h1
  have h4 : min n ((strip (common (lines raw).tail) (lines raw)).dropWhile allSp).length * (20003 + 1) ≤ 20005 * 20004 := Nat.mul_le_mul_right _ (by omega)
  omega
theorem numEnd_le {r p : Nat × List UInt8} (h : numEnd r = some p) : p.2.length ≤ r.2.length := by
  unfold numEnd at h
  split at h
  · cases h
  · cases h; omega
theorem numExp_le {r p : Nat × List UInt8} (h : numExp r = some p) : p.2.length ≤ r.2.length := by
  unfold numExp at h
  by_cases h0 : ((hd r.2) ||| 32).toNat = 101
  · rw [if_pos h0] at h
    have h3 : (if (hd (r.2.drop 1)).toNat = 43 ∨ (hd (r.2.drop 1)).toNat = 45 then (r.2.drop 1).drop 1 else r.2.drop 1).length ≤ r.2.length := by
      split <;> simp only [List.length_drop] <;> omega
    simp only [] at h
    generalize (if (hd (r.2.drop 1)).toNat = 43 ∨ (hd (r.2.drop 1)).toNat = 45 then (r.2.drop 1).drop 1 else r.2.drop 1) = l2 at h h3
    split at h
    · cases h
    · have h1 := numEnd_le h
      have h2 := dropWhile_le isDigit l2
      have h4 : p.2.length ≤ (digits l2).length := h1
      unfold digits at h4
      omega
  · rw [if_neg h0] at h
    exact numEnd_le h
theorem numFrac_le {l : List UInt8} {p : Nat × List UInt8} (h : numFrac l = some p) : p.2.length ≤ l.length := by
  unfold numFrac at h
  split at h
  · split at h
    · cases h
    · have h1 := numExp_le h
      have h2 := dropWhile_le isDigit (l.drop 1)
      have h3 : p.2.length ≤ (digits (l.drop 1)).length := h1
      unfold digits at h3
      rw [List.length_drop] at h2
      omega
  · exact numExp_le h
theorem number_shorter {l : List UInt8} {p : Nat × List UInt8} (h : number l = some p) : p.2.length < l.length := by
  unfold number at h
  simp only [] at h
  have h3 : (if (hd l).toNat = 45 then l.drop 1 else l).length ≤ l.length := by
    split
    · rw [List.length_drop]; omega
    · omega
  generalize (if (hd l).toNat = 45 then l.drop 1 else l) = l1 at h h3
  split at h
  · cases h
  · rename_i hn
    have h1 := numFrac_le h
    have h2 := dropWhile_le isDigit l1
    unfold digits at h1 hn
    omega
theorem index_signs (c : UInt8) : ∀ l : List UInt8, (0 ≤ Lib.indexByte l c) ↔ l.contains c = true := by
  intro l
  induction l with
  | nil => simp [Lib.indexByte]
  | cons b l ih =>
    have hge := Lib.indexByte_ge l c
    unfold Lib.indexByte
    by_cases hb : b = c
    · subst hb; simp
    · have hb' : ¬ (b == c) = true := by simpa using hb
      rw [if_neg hb']
      by_cases hm : Lib.indexByte l c = -1
      · have : ¬ l.contains c = true := fun h => by have := ih.2 h; omega
        simp only [hm, beq_self_eq_true, if_true]
        simp only [List.contains_cons, Bool.or_eq_true, beq_iff_eq]
        constructor
        · intro h; omega
        · rintro (h | h)
          · exact absurd h.symm hb
          · exact absurd h this
      · have h1 : ¬ (Lib.indexByte l c == -1) = true := by simpa using hm
        rw [if_neg h1]
        have h2 : l.contains c = true := ih.1 (by omega)
        simp only [List.contains_cons, Bool.or_eq_true, beq_iff_eq]
        constructor
        · intro _; exact .inr h2
        · intro _; omega
end Lx
end Go.Proofs.YtonblegbnkfhbaaDoor
