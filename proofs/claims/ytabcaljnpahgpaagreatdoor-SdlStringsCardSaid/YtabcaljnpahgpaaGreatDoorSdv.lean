/-
  Strings ahead of types, fields, arguments, members and inputs change nothing, plain (no program in sight).
-/
import Derived.Test.YtabcaljnpahgpaaGreatDoorK4
import Derived.Test.YtabcaljnpahgpaaGreatDoorSdj
namespace Go.Proofs.YtabcaljnpahgpaaGreatDoor
set_option linter.unusedSimpArgs false
set_option linter.unusedVariables false
namespace Lx
/-- A string of one line. -/
def strA : List UInt8 := [34, 105, 116, 34]
/-- A block string. -/
def strB : List UInt8 := [34, 34, 34, 10, 32, 105, 116, 10, 34, 34, 34]
def wStr (i : Nat) (g : List UInt8) : Wd := if i % 2 = 0 then ⟨g, 4, [105, 116], strA⟩ else ⟨g, 4, dedent [10, 32, 105, 116, 10], strB⟩
/-- A word, perhaps a string ahead. -/
def told (i : Nat) (b : Bool) (g : List UInt8) (k : Nat) (w : List UInt8) : List Wd := if b then [wStr i g, ⟨[32], k, w, w⟩] else [⟨g, k, w, w⟩]
/-- What is put ahead. -/
def ahead (i : Nat) (b : Bool) : List UInt8 := if b then (if i % 2 = 0 then strA else strB) ++ [32] else []
theorem flat_told (i : Nat) (b : Bool) (g : List UInt8) (k : Nat) (w : List UInt8) : flat (told i b g k w) = g ++ (ahead i b ++ w) := by
  unfold told ahead wStr
  cases b
  · simp [flat]
  · by_cases h : i % 2 = 0
    · simp [h, flat]
    · simp [h, flat]
theorem tok_strA (l : List UInt8) : token (strA ++ 32 :: l) = some (4, [105, 116], 32 :: l) := by
  have : strA = quote [105, 116] := by decide
  rw [this]
  exact token_quote _ _ (by decide) (by show (32 : UInt8).toNat ≠ 34; decide)
theorem rune_lo (c : UInt8) (t : List UInt8) (h : c.toNat < 128) : rune (c :: t) = (c.toNat, 1) := rune_ascii h
theorem blk_step {c : UInt8} {out t : List UInt8} (h1 : c.toNat < 128) (h2 : c.toNat ≠ 92) (h3 : c.toNat ≠ 34) (h4 : 32 ≤ c.toNat ∨ c.toNat = 10) : block out (c :: t) = block (out ++ [c]) t := by
  have hq : quotes3 (c :: t) = false := by
    unfold quotes3
    rw [decide_eq_false_iff_not]
    intro e
    have : c = 34 := by
      have := congrArg List.head? e
      simpa using this
    rw [this] at h3
    exact h3 rfl
  rw [block_go hq (fun h => h2 h.1) (by unfold ctlB; rw [rune_lo c t h1]; simp; omega), rune_lo c t h1]
  rfl
theorem tok_strB (l : List UInt8) : token (strB ++ 32 :: l) = some (4, dedent [10, 32, 105, 116, 10], 32 :: l) := by
  have h3 : quotes3 (strB ++ 32 :: l) = true := by unfold strB quotes3; rfl
  unfold token
  rw [if_neg (by show ¬ isLetter 34 = true; decide), if_neg (by show ¬ ((34 : UInt8).toNat = 45 ∨ isDigit 34 = true); decide), if_pos h3]
  show (block [] (10 :: 32 :: 105 :: 116 :: 10 :: 34 :: 34 :: 34 :: 32 :: l)).map _ = _
  rw [blk_step (by decide) (by decide) (by decide) (by decide), blk_step (by decide) (by decide) (by decide) (by decide), blk_step (by decide) (by decide) (by decide) (by decide), blk_step (by decide) (by decide) (by decide) (by decide), blk_step (by decide) (by decide) (by decide) (by decide), block_end (by unfold quotes3; rfl)]
  rfl
theorem stands_str (i : Nat) (g : List UInt8) (hg : ∀ d ∈ g, isBlank d = true) (l : List UInt8) : StandsW (wStr i g) (32 :: l) := by
  unfold wStr
  split
  · exact ⟨hg, by show stopB 34 = true; decide, by show strA ≠ []; decide, tok_strA l⟩
  · exact ⟨hg, by show stopB 34 = true; decide, by show strB ≠ []; decide, tok_strB l⟩
/-- A word that stands, perhaps with a string ahead. -/
theorem standAll_told (i : Nat) (b : Bool) (g : List UInt8) (hg : ∀ d ∈ g, isBlank d = true) (k : Nat) (w l : List UInt8) (h : ∀ g : List UInt8, (∀ d ∈ g, isBlank d = true) → StandsW ⟨g, k, w, w⟩ l) : StandAll (told i b g k w) l := by
  unfold told
  cases b
  · exact ⟨h g hg, trivial⟩
  · refine ⟨?_, h [32] (by decide), trivial⟩
    show StandsW (wStr i g) (([32] ++ (w ++ [])) ++ l)
    rw [List.append_assoc]
    exact stands_str i g hg _
end Lx
namespace Sd
open Rd Lx
def nw (g : List UInt8) (w : List UInt8) : Wd := ⟨g, 1, w, w⟩
def wInt : List UInt8 := [73, 110, 116]
def sType : List UInt8 := [116, 121, 112, 101]
def sEnum : List UInt8 := [101, 110, 117, 109]
def sInput : List UInt8 := [105, 110, 112, 117, 116]
/-- The words of the three texts. -/
def sW (k : Nat) (nm : List UInt8) (b : Nat → Bool) : List Wd :=
  if k = 0 then
    Lx.told 0 (b 0) [] 1 sType ++ ([nw [32] nm, sg 123] ++ (Lx.told 1 (b 1) [] 1 [97] ++ ([sg 40] ++ (Lx.told 2 (b 2) [] 1 [98] ++ ([sg 58, nw [] wInt] ++ (Lx.told 3 (b 3) [32] 1 [99] ++
      ([sg 58, nw [] wInt, sg 61, ⟨[], 2, [49], [49]⟩, sg 41, sg 58, nw [] [84]] ++ (Lx.told 4 (b 4) [32] 1 [100] ++ [sg 58, nw [] [84], sg 125]))))))))
  else if k = 1 then Lx.told 0 (b 0) [] 1 sEnum ++ ([nw [32] nm, sg 123] ++ (Lx.told 1 (b 1) [] 1 [65] ++ (Lx.told 2 (b 2) [32] 1 [66] ++ [sg 125])))
  else Lx.told 0 (b 0) [] 1 sInput ++ ([nw [32] nm, sg 123] ++ (Lx.told 1 (b 1) [] 1 [97] ++ ([sg 58, nw [] wInt] ++ (Lx.told 2 (b 2) [32] 1 [98] ++ [sg 58, nw [] wInt, sg 125]))))
/-- The texts, as they are put together. -/
def sText (k : Nat) (nm : List UInt8) (b : Nat → Bool) : List UInt8 :=
  if k = 0 then Lx.ahead 0 (b 0) ++ [116, 121, 112, 101, 32] ++ nm ++ [123] ++ Lx.ahead 1 (b 1) ++ [97, 40] ++ Lx.ahead 2 (b 2) ++ [98, 58, 73, 110, 116, 32] ++ Lx.ahead 3 (b 3) ++ [99, 58, 73, 110, 116, 61, 49, 41, 58, 84, 32] ++ Lx.ahead 4 (b 4) ++ [100, 58, 84, 125]
  else if k = 1 then Lx.ahead 0 (b 0) ++ [101, 110, 117, 109, 32] ++ nm ++ [123] ++ Lx.ahead 1 (b 1) ++ [65, 32] ++ Lx.ahead 2 (b 2) ++ [66, 125]
  else Lx.ahead 0 (b 0) ++ [105, 110, 112, 117, 116, 32] ++ nm ++ [123] ++ Lx.ahead 1 (b 1) ++ [97, 58, 73, 110, 116, 32] ++ Lx.ahead 2 (b 2) ++ [98, 58, 73, 110, 116, 125]
theorem flat_sW (k : Nat) (nm : List UInt8) (b : Nat → Bool) : flat (sW k nm b) = sText k nm b := by
  unfold sW sText
  split
  · simp only [flat_app, flat_told, flat, nw, sg, sType, wInt, List.append_assoc, List.nil_append, List.cons_append, List.append_nil]
  split
  · simp only [flat_app, flat_told, flat, nw, sg, sEnum, wInt, List.append_assoc, List.nil_append, List.cons_append, List.append_nil]
  · simp only [flat_app, flat_told, flat, nw, sg, sInput, wInt, List.append_assoc, List.nil_append, List.cons_append, List.append_nil]
theorem st_name {w : List UInt8} (h1 : isLetter (hd w) = true) (h2 : ∀ c ∈ w, isWord c = true) {l : List UInt8} (hl : isWord (hd l) = false) : ∀ g : List UInt8, (∀ d ∈ g, isBlank d = true) → StandsW ⟨g, 1, w, w⟩ l := fun g hg => stands_name g hg h1 h2 hl
theorem hd_told (i : Nat) (b : Bool) (g : List UInt8) (k : Nat) (w l : List UInt8) (p : UInt8 → Bool) (hg : g ≠ [] → p (hd g) = false) (hs : p 34 = false) (hw : g = [] → b = false → p (hd (w ++ l)) = false) : p (hd (flat (Lx.told i b g k w) ++ l)) = false := by
  rw [flat_told]
  cases g with
  | cons c g => exact hg (by simp)
  | nil =>
    cases b
    · exact hw rfl rfl
    · unfold Lx.ahead
      simp only [if_true]
      split <;> exact hs
theorem one1_stands (c : UInt8) (h : c = 41) (l : List UInt8) : StandsW ⟨[], 2, [49], [49]⟩ (c :: l) := by
  subst h
  refine ⟨by simp, by decide, by simp, ?_⟩
  show token (49 :: 41 :: l) = some (2, [49], 41 :: l)
  have hn : number (49 :: 41 :: l) = some (2, 41 :: l) := by
    simp (decide := true) [number, hd, digits, isDigit, numFrac, numExp, numEnd, isLetter]
  unfold token
  rw [hd_cons, if_neg (by decide), if_pos (.inr (by decide)), hn]
  simp only [Option.map_some, List.length_cons]
  congr 3
  simp
theorem nw_st {g w l : List UInt8} (hg : ∀ d ∈ g, isBlank d = true) (h1 : isLetter (hd w) = true) (h2 : ∀ c ∈ w, isWord c = true) (hl : isWord (hd l) = false) : StandsW (nw g w) l := stands_name g hg h1 h2 hl
theorem sg_st (c : UInt8) (h : signs.contains c = true) (l : List UInt8) : StandsW (sg c) l := stands_sign [] (by simp) h l
theorem stand_sW (k : Nat) (nm : List UInt8) (b : Nat → Bool) (h1 : isLetter (hd nm) = true) (h2 : ∀ c ∈ nm, isWord c = true) : StandAll (sW k nm b) [] := by
  have kw : ∀ (i : Nat) (w l : List UInt8), isLetter (hd w) = true → (∀ c ∈ w, isWord c = true) → isWord (hd l) = false → StandAll (Lx.told i (b i) [] 1 w) l := fun i w l a1 a2 a3 => standAll_told i (b i) [] (by simp) 1 w l (st_name a1 a2 a3)
  have kw2 : ∀ (i : Nat) (w l : List UInt8), isLetter (hd w) = true → (∀ c ∈ w, isWord c = true) → isWord (hd l) = false → StandAll (Lx.told i (b i) [32] 1 w) l := fun i w l a1 a2 a3 => standAll_told i (b i) [32] (by decide) 1 w l (st_name a1 a2 a3)
  have hb : ∀ d ∈ [(32 : UInt8)], isBlank d = true := by decide
  unfold sW
  split
  · refine standAll_app (kw 0 _ _ (by decide) (by decide) (show isWord 32 = false by decide)) ?_
    refine standAll_app ⟨nw_st hb h1 h2 (show isWord 123 = false by decide), sg_st 123 (by decide) _, trivial⟩ ?_
    refine standAll_app (kw 1 _ _ (by decide) (by decide) (show isWord 40 = false by decide)) ?_
    refine standAll_app ⟨sg_st 40 (by decide) _, trivial⟩ ?_
    refine standAll_app (kw 2 _ _ (by decide) (by decide) (show isWord 58 = false by decide)) ?_
    refine standAll_app ⟨sg_st 58 (by decide) _, nw_st (by simp) (by decide) (by decide) ?_, trivial⟩ ?_
    · show isWord (hd (flat _ ++ [])) = false
      rw [List.append_nil, flat_app]
      exact hd_told 3 (b 3) [32] 1 _ _ isWord (fun _ => by decide) (by decide) (fun h => by cases h)
    refine standAll_app (kw2 3 _ _ (by decide) (by decide) (show isWord 58 = false by decide)) ?_
    refine standAll_app ⟨sg_st 58 (by decide) _, nw_st (by simp) (by decide) (by decide) (show isWord 61 = false by decide), sg_st 61 (by decide) _, one1_stands 41 rfl _, sg_st 41 (by decide) _, sg_st 58 (by decide) _, nw_st (by simp) (by decide) (by decide) ?_, trivial⟩ ?_
    · show isWord (hd (flat _ ++ [])) = false
      rw [List.append_nil, flat_app]
      exact hd_told 4 (b 4) [32] 1 _ _ isWord (fun _ => by decide) (by decide) (fun h => by cases h)
    refine standAll_app (kw2 4 _ _ (by decide) (by decide) (show isWord 58 = false by decide)) ?_
    exact ⟨sg_st 58 (by decide) _, nw_st (by simp) (by decide) (by decide) (show isWord 125 = false by decide), sg_st 125 (by decide) _, trivial⟩
  split
  · refine standAll_app (kw 0 _ _ (by decide) (by decide) (show isWord 32 = false by decide)) ?_
    refine standAll_app ⟨nw_st hb h1 h2 (show isWord 123 = false by decide), sg_st 123 (by decide) _, trivial⟩ ?_
    refine standAll_app (kw 1 _ _ (by decide) (by decide) ?_) ?_
    · show isWord (hd (flat _ ++ [])) = false
      rw [List.append_nil, flat_app]
      exact hd_told 2 (b 2) [32] 1 _ _ isWord (fun _ => by decide) (by decide) (fun h => by cases h)
    refine standAll_app (kw2 2 _ _ (by decide) (by decide) (show isWord 125 = false by decide)) ?_
    exact ⟨sg_st 125 (by decide) _, trivial⟩
  · refine standAll_app (kw 0 _ _ (by decide) (by decide) (show isWord 32 = false by decide)) ?_
    refine standAll_app ⟨nw_st hb h1 h2 (show isWord 123 = false by decide), sg_st 123 (by decide) _, trivial⟩ ?_
    refine standAll_app (kw 1 _ _ (by decide) (by decide) (show isWord 58 = false by decide)) ?_
    refine standAll_app ⟨sg_st 58 (by decide) _, nw_st (by simp) (by decide) (by decide) ?_, trivial⟩ ?_
    · show isWord (hd (flat _ ++ [])) = false
      rw [List.append_nil, flat_app]
      exact hd_told 2 (b 2) [32] 1 _ _ isWord (fun _ => by decide) (by decide) (fun h => by cases h)
    refine standAll_app (kw2 2 _ _ (by decide) (by decide) (show isWord 58 = false by decide)) ?_
    exact ⟨sg_st 58 (by decide) _, nw_st (by simp) (by decide) (by decide) (show isWord 125 = false by decide), sg_st 125 (by decide) _, trivial⟩
theorem ahead_len (i : Nat) (b : Bool) : (Lx.ahead i b).length ≤ 12 := by
  unfold Lx.ahead
  repeat' split
  all_goals decide
theorem sText_len (k : Nat) (nm : List UInt8) (b : Nat → Bool) (h : nm.length ≤ 50) : (sText k nm b).length ≤ 200 := by
  have h0 := ahead_len 0 (b 0)
  have h1 := ahead_len 1 (b 1)
  have h2 := ahead_len 2 (b 2)
  have h3 := ahead_len 3 (b 3)
  have h4 := ahead_len 4 (b 4)
  unfold sText
  repeat' split
  all_goals (simp only [List.length_append, List.length_cons, List.length_nil]; omega)
theorem told_words (i : Nat) (b : Bool) (g : List UInt8) (k : Nat) (w : List UInt8) : (Lx.told i b g k w).length ≤ 2 := by
  unfold Lx.told
  split <;> simp
theorem sW_len (k : Nat) (nm : List UInt8) (b : Nat → Bool) : (sW k nm b).length ≤ 40 := by
  have h := fun i g w => told_words i (b i) g 1 w
  have a0 := h 0 [] sType
  have a1 := h 0 [] sEnum
  have a2 := h 0 [] sInput
  have a3 := h 1 [] [97]
  have a4 := h 1 [] [65]
  have a5 := h 2 [] [98]
  have a6 := h 2 [32] [66]
  have a7 := h 2 [32] [98]
  have a8 := h 3 [32] [99]
  have a9 := h 4 [32] [100]
  unfold sW
  repeat' split
  all_goals (simp only [List.length_append, List.length_cons, List.length_nil]; omega)
/-- What is read, but for places. -/
def sIn (nm : List UInt8) (h : Bool) (v : V) : In := ⟨nm, wInt, h, v, 0⟩
def sWant (k : Nat) (nm : List UInt8) : Td :=
  if k = 0 then ⟨2, nm, [], [⟨[97], [sIn [98] false V.none, sIn [99] true (.mk 2 [49] [] [] 0)], [84], 0⟩, ⟨[100], [], [84], 0⟩], [], [], 0⟩
  else if k = 1 then ⟨5, nm, [], [], [[65], [66]], [], 0⟩
  else ⟨6, nm, [], [], [], [sIn [97] false V.none, sIn [98] false V.none], 0⟩
def sRead (ts : List Tok) : Nat × List Td :=
  let s : St := ⟨ts, 0, 0, 0⟩
  let n := s.rest.length + 1
  let r := defs n n (def_ n s).1 [(def_ n s).2]
  (r.1.err, r.2.map Td.un)
set_option maxRecDepth 100000 in
theorem sRead_0 (nm : List UInt8) (L : Nat) (b : Nat → Bool) : ∀ b0 b1 b2 b3 b4, b 0 = b0 → b 1 = b1 → b 2 = b2 → b 3 = b3 → b 4 = b4 → sRead (toksAt 0 (sW 0 nm b) ++ [⟨0, [], L⟩]) = (0, [sWant 0 nm]) := by
  intro b0 b1 b2 b3 b4 e0 e1 e2 e3 e4
  unfold sW
  rw [e0, e1, e2, e3, e4, if_pos rfl]
  cases b0 <;> cases b1 <;> cases b2 <;> cases b3 <;> cases b4 <;> kernel_rfl
set_option maxRecDepth 100000 in
theorem sRead_1 (nm : List UInt8) (L : Nat) (b : Nat → Bool) : ∀ b0 b1 b2, b 0 = b0 → b 1 = b1 → b 2 = b2 → sRead (toksAt 0 (sW 1 nm b) ++ [⟨0, [], L⟩]) = (0, [sWant 1 nm]) := by
  intro b0 b1 b2 e0 e1 e2
  unfold sW
  rw [e0, e1, e2, if_neg (by decide), if_pos rfl]
  cases b0 <;> cases b1 <;> cases b2 <;> kernel_rfl
set_option maxRecDepth 100000 in
theorem sRead_2 (nm : List UInt8) (L : Nat) (b : Nat → Bool) : ∀ b0 b1 b2, b 0 = b0 → b 1 = b1 → b 2 = b2 → sRead (toksAt 0 (sW 2 nm b) ++ [⟨0, [], L⟩]) = (0, [sWant 2 nm]) := by
  intro b0 b1 b2 e0 e1 e2
  unfold sW
  rw [e0, e1, e2, if_neg (by decide), if_neg (by decide)]
  cases b0 <;> cases b1 <;> cases b2 <;> kernel_rfl
/-- What 'Parse' reads. -/
theorem parse_told (k : Nat) (hk : k < 3) (nm : List UInt8) (b : Nat → Bool) (h1 : isLetter (hd nm) = true) (h2 : ∀ c ∈ nm, isWord c = true) (hl : nm.length ≤ 50) :
    (parse (sText k nm b)).1.err = 0 ∧ (parse (sText k nm b)).2.map Td.un = [sWant k nm] := by
  have hx := words_lex (t := []) (stand_sW k nm b h1 h2) (by simp) (by have := sW_len k nm b; omega) (by rw [List.append_nil, flat_sW]; have := sText_len k nm b hl; omega)
  rw [List.append_nil, flat_sW] at hx
  have hr : sRead (toksAt 0 (sW k nm b) ++ [⟨0, [], (sText k nm b).length⟩]) = (0, [sWant k nm]) := by
    have : k = 0 ∨ k = 1 ∨ k = 2 := by omega
    rcases this with rfl | rfl | rfl
    · exact sRead_0 nm _ b _ _ _ _ _ rfl rfl rfl rfl rfl
    · exact sRead_1 nm _ b _ _ _ rfl rfl rfl
    · exact sRead_2 nm _ b _ _ _ rfl rfl rfl
  unfold parse begin_
  rw [hx]
  unfold sRead at hr
  have p := Prod.mk.inj hr
  exact p
end Sd
end Go.Proofs.YtabcaljnpahgpaaGreatDoor
