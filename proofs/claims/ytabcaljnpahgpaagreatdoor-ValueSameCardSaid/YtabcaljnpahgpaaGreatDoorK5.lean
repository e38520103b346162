/-
  Selection sets and lists in one another, plain: what 'Parse' answers (no program in sight). The reader, plain: which tokens are eaten, and where what is read stands (no program in sight). The reader of types, plain: where what is read stands, and what is so of it (no program in sight).
-/
import Derived.Test.YtabcaljnpahgpaaGreatDoorK4
import Derived.Test.YtabcaljnpahgpaaGreatDoorK2
import Derived.Test.YtabcaljnpahgpaaGreatDoorK1
namespace Go.Proofs.YtabcaljnpahgpaaGreatDoor
set_option linter.unusedSimpArgs false
set_option linter.unusedVariables false
namespace Qr
open Lx

def nmA : Wd := ⟨[], 1, [97], [97]⟩
def nmB : Wd := ⟨[], 1, [98], [98]⟩
def one1 : Wd := ⟨[], 2, [49], [49]⟩
def dpOpen : Nat → List Wd
  | 0 => []
  | n + 1 => sg 123 :: nmA :: dpOpen n
/-- The words of QueryDeep's text. -/
def dpW (n l : Nat) : List Wd := dpOpen n ++ ([sg 123, nmA, sg 40, nmB, sg 58] ++ (List.replicate l (sg 91) ++ ([one1] ++ (List.replicate l (sg 93) ++ ([sg 41, sg 125] ++ List.replicate n (sg 125))))))
/-- The text, as it is put together. -/
def rep (n : Nat) (x : List UInt8) : List UInt8 := (List.replicate n x).flatten
def dpText (n l : Nat) : List UInt8 := rep n [123, 97] ++ [123, 97, 40, 98, 58] ++ rep l [91] ++ [49] ++ rep l [93] ++ [41, 125] ++ rep n [125]
theorem flat_rep (c : UInt8) : ∀ n, flat (List.replicate n (sg c)) = rep n [c]
  | 0 => rfl
  | n + 1 => by rw [List.replicate_succ, flat, flat_rep c n]; rfl
theorem flat_open : ∀ n, flat (dpOpen n) = rep n [123, 97]
  | 0 => rfl
  | n + 1 => by rw [dpOpen, flat, flat, flat_open n]; rfl
theorem flat_dp (n l : Nat) : flat (dpW n l) = dpText n l := by
  unfold dpW dpText
  simp only [flat_app, flat_rep, flat_open, List.append_assoc]
  rfl
theorem stand_rep (c : UInt8) (h : signs.contains c = true) (t : List UInt8) : ∀ n, StandAll (List.replicate n (sg c)) t
  | 0 => trivial
  | n + 1 => ⟨stands_sign [] (by simp) h _, stand_rep c h t n⟩
theorem hd_rep (c : UInt8) (p : UInt8 → Bool) (h : p c = false) (t : List UInt8) (ht : p (hd t) = false) : ∀ n, p (hd (flat (List.replicate n (sg c)) ++ t)) = false
  | 0 => ht
  | n + 1 => h
theorem stand_open (t : List UInt8) (ht : isWord (hd t) = false) : ∀ n, StandAll (dpOpen n) t
  | 0 => trivial
  | n + 1 => ⟨stands_sign [] (by simp) (by decide) _, stands_name [] (by simp) (by decide) (by decide) (by
      cases n with
      | zero => exact ht
      | succ n => exact (by decide : isWord 123 = false)), stand_open t ht n⟩
theorem one_tok (c : UInt8) (h : c = 93 ∨ c = 41) (l : List UInt8) : StandsW one1 (c :: l) := by
  refine ⟨by simp [one1], by decide, by simp [one1], ?_⟩
  show token (49 :: c :: l) = some (2, [49], c :: l)
  have hn : number (49 :: c :: l) = some (2, c :: l) := by
    rcases h with rfl | rfl <;> simp (decide := true) [number, hd, digits, isDigit, numFrac, numExp, numEnd, isLetter]
  unfold token
  rw [hd_cons, if_neg (by decide), if_pos (.inr (by decide)), hn]
  simp only [Option.map_some, List.length_cons]
  congr 3
  simp
theorem stand_dp (n l : Nat) : StandAll (dpW n l) [] := by
  unfold dpW
  refine standAll_app (stand_open _ ?_ n) ?_
  · show isWord 123 = false
    decide
  refine standAll_app ⟨stands_sign [] (by simp) (by decide) _, stands_name [] (by simp) (by decide) (by decide) (show isWord 40 = false by decide), stands_sign [] (by simp) (by decide) _, stands_name [] (by simp) (by decide) (by decide) (show isWord 58 = false by decide), stands_sign [] (by simp) (by decide) _, trivial⟩ ?_
  refine standAll_app (stand_rep _ (by decide) _ l) ?_
  refine standAll_app ⟨?_, trivial⟩ ?_
  · cases l with
    | zero => exact one_tok 41 (.inr rfl) _
    | succ l => exact one_tok 93 (.inl rfl) _
  refine standAll_app (stand_rep _ (by decide) _ l) ?_
  exact standAll_app ⟨stands_sign [] (by simp) (by decide) _, stands_sign [] (by simp) (by decide) _, trivial⟩ (stand_rep _ (by decide) _ n)
theorem rep_len (x : List UInt8) : ∀ n, (rep n x).length = n * x.length
  | 0 => by simp [rep]
  | n + 1 => by
    have := rep_len x n
    unfold rep at *
    rw [List.replicate_succ, List.flatten_cons, List.length_append, this, Nat.succ_mul]
    omega
theorem dp_len (n l : Nat) : (dpText n l).length = 3 * n + 2 * l + 8 := by
  unfold dpText
  simp only [List.length_append, rep_len, List.length_cons, List.length_nil]
  omega
theorem open_len : ∀ n, (dpOpen n).length = 2 * n
  | 0 => rfl
  | n + 1 => by rw [dpOpen, List.length_cons, List.length_cons, open_len n]; omega
theorem lex_dp (n l : Nat) (hn : n < 20) (hl : l < 20) : Lx.lex (dpText n l) = .ok (toksAt 0 (dpW n l) ++ [⟨0, [], 3 * n + 2 * l + 8⟩]) := by
  have := words_lex (t := []) (stand_dp n l) (by simp) (by unfold dpW; simp [open_len]; omega) (by rw [List.append_nil, flat_dp, dp_len]; omega)
  rw [List.append_nil, flat_dp, dp_len] at this
  exact this
/-- What is answered, off the tokens. -/
def dpEnd (n l : Nat) : Nat × Nat :=
  let s : Rd.St := ⟨toksAt 0 (dpW n l) ++ [⟨0, [], 3 * n + 2 * l + 8⟩], 0, 0, 0⟩
  let r := (go (s.rest.length + 1) true (s.rest.length + 2) s ([], [])).1
  (r.err, r.at_)
def dpWant (n l : Nat) : Nat × Nat := if 16 ≤ n then (42, 32) else if 16 ≤ n + l then (42, 2 * n + 5 + (15 - n)) else (0, 0)
set_option maxRecDepth 100000 in
theorem dp_fin : ∀ n : Fin 20, ∀ l : Fin 20, dpEnd n.val l.val = dpWant n.val l.val := by decide +kernel
theorem parse_dp (n l : Nat) (hn : n < 20) (hl : l < 20) : ((parse (dpText n l)).1.err, (parse (dpText n l)).1.at_) = dpWant n l := by
  have := dp_fin ⟨n, hn⟩ ⟨l, hl⟩
  unfold parse Rd.begin_
  rw [lex_dp n l hn hl]
  exact this
end Qr
end Go.Proofs.YtabcaljnpahgpaaGreatDoor
namespace Go.Proofs.YtabcaljnpahgpaaGreatDoor
set_option linter.unusedSimpArgs false
set_option linter.unusedVariables false
open Go Go.RowKit
namespace Rd
open Lx (Tok)

/-- A place, and the text that stands there, if it is told. -/
abbrev Pl := Nat × Option (List UInt8)
def Fits (p : Pl) (t : Tok) : Prop := p.1 = t.at_ ∧ ∀ x, p.2 = some x → t.kind ≠ 4 ∧ t.text = x
/-- Places of tokens, in order. -/
def Match : List Pl → List Tok → Prop
  | [], _ => True
  | _ :: _, [] => False
  | p :: ps, t :: ts => (Fits p t ∧ Match ps ts) ∨ Match (p :: ps) ts
theorem match_nil (ts : List Tok) : Match [] ts := by unfold Match; trivial
theorem match_weak {t : Tok} {ts : List Tok} : ∀ {ps : List Pl}, Match ps ts → Match ps (t :: ts)
  | [], _ => match_nil _
  | p :: ps, h => by unfold Match; exact .inr h
theorem match_pre {ps : List Pl} {ts : List Tok} (h : Match ps ts) : ∀ l : List Tok, Match ps (l ++ ts)
  | [] => h
  | t :: l => match_weak (match_pre h l)
theorem match_app {qs : List Pl} {r : List Tok} (k : Match qs r) : ∀ {ts : List Tok} {ps : List Pl}, Match ps ts → Match (ps ++ qs) (ts ++ r)
  | ts, [], _ => match_pre k ts
  | [], p :: ps, h => by unfold Match at h; exact h.elim
  | t :: ts, p :: ps, h => by
    unfold Match at h
    show Match (p :: (ps ++ qs)) (t :: (ts ++ r))
    unfold Match
    rcases h with ⟨h1, h2⟩ | h
    · exact .inl ⟨h1, match_app k h2⟩
    · exact .inr (match_app k h)
theorem match_drop {ts : List Tok} {p : Pl} : ∀ {ps : List Pl}, Match (p :: ps) ts → Match ps ts := by
  induction ts with
  | nil => intro ps h; unfold Match at h; exact h.elim
  | cons t ts ih =>
    intro ps h
    unfold Match at h
    rcases h with ⟨_, h⟩ | h
    · exact match_weak h
    · exact match_weak (ih h)
theorem match_sub {ps qs : List Pl} (h : List.Sublist ps qs) : ∀ {ts : List Tok}, Match qs ts → Match ps ts := by
  induction h with
  | slnil => exact fun h => h
  | cons a _ ih => exact fun h => ih (match_drop h)
  | cons_cons a hs ih =>
    intro ts
    induction ts with
    | nil => intro h; unfold Match at h; exact h.elim
    | cons t ts it =>
      intro h
      unfold Match at h ⊢
      rcases h with ⟨h1, h2⟩ | h
      · exact .inl ⟨h1, ih h2⟩
      · exact .inr (it h)

/-- From s to s' tokens were eaten, if nothing is wrong; among them these places. -/
def Eats (s s' : St) (ps : List Pl) : Prop := s'.err = 0 → s.err = 0 ∧ ∃ pre, s.rest = pre ++ s'.rest ∧ (∀ t ∈ pre, t.kind ≠ 0) ∧ Match ps pre
section
variable {s s' a b c : St} {p q : List Pl}
theorem Eats.refl (s : St) : Eats s s [] := fun h => ⟨h, [], rfl, fun t ht => absurd ht (by simp), match_nil _⟩
theorem Eats.trans (h : Eats a b p) (k : Eats b c q) : Eats a c (p ++ q) := fun he => by
  obtain ⟨h1, x, h2, h3, h4⟩ := k he
  obtain ⟨k1, y, k2, k3, k4⟩ := h h1
  refine ⟨k1, y ++ x, by rw [k2, h2, List.append_assoc], fun t ht => ?_, match_app h4 k4⟩
  rcases List.mem_append.1 ht with ht | ht
  · exact k3 t ht
  · exact h3 t ht
theorem Eats.bad (h : s'.err ≠ 0) : Eats s s' p := fun he => absurd he h
theorem Eats.sub (h : Eats a b p) (k : List.Sublist q p) : Eats a b q := fun he => by
  obtain ⟨h1, x, h2, h3, h4⟩ := h he
  exact ⟨h1, x, h2, h3, match_sub k h4⟩
theorem Eats.then0 (h : Eats a b p) (k : Eats b c []) : Eats a c p := by have := h.trans k; rwa [List.append_nil] at this
theorem Eats.to (h : Eats a b p) (e : b = c) : Eats a c p := e ▸ h
/-- A name that comes is a text. -/
def NE (s : St) : Prop := ∀ t ∈ s.rest, t.kind = 1 → t.text ≠ []
theorem Eats.ne (h : Eats a b p) (he : b.err = 0) (k : NE a) : NE b := fun t ht => by
  obtain ⟨_, x, h2, _⟩ := h he
  exact k t (by rw [h2]; exact List.mem_append_right _ ht)
theorem Eats.err (h : Eats a b p) (he : b.err = 0) : a.err = 0 := (h he).1
theorem eats_wrong : Eats s (wrong s) p := .bad wrong_bad
theorem eats_fail (e : Nat) (h : e ≠ 0) : Eats s (fail e s) p := .bad (by
  unfold fail
  split
  · exact h
  · assumption)
theorem eats_deep (d : Int) : Eats s { s with deep := d } [] := fun h => ⟨h, [], rfl, fun t ht => absurd ht (by simp), match_nil _⟩
/-- The token at hand, if it is no end. -/
theorem peek_head (h : (peek s).kind ≠ 0) : ∃ r, s.rest = peek s :: r ∧ s.rest.drop 1 = r := by
  unfold peek at *
  cases hr : s.rest with
  | nil => rw [hr] at h; exact absurd rfl h
  | cons t r => exact ⟨r, by simp, rfl⟩
theorem eats_nextT (h : (peek s).kind ≠ 0) {x : Option (List UInt8)} (hx : ∀ y, x = some y → (peek s).kind ≠ 4 ∧ (peek s).text = y) : Eats s (next s) [((peek s).at_, x)] := by
  obtain ⟨r, h1, h2⟩ := peek_head h
  unfold next
  split
  · rename_i hh
    intro _
    refine ⟨hh.1, [peek s], by show s.rest = [peek s] ++ s.rest.drop 1; rw [h2]; exact h1, fun t ht => by rw [List.mem_singleton.1 ht]; exact h, ?_⟩
    unfold Match
    exact .inl ⟨⟨rfl, hx⟩, match_nil _⟩
  · rename_i hh
    exact .bad (fun e => hh ⟨e, h⟩)
theorem eats_next : Eats s (next s) [] := by
  by_cases h : (peek s).kind = 0
  · unfold next
    rw [if_neg (fun x => x.2 h)]
    exact .refl s
  · exact (eats_nextT h (x := none) (fun y hy => by cases hy)).sub (List.nil_sublist _)
theorem isS_parts {c : List UInt8} (h : isS s c = true) : s.err = 0 ∧ (peek s).kind = 5 ∧ (peek s).text = c := by
  unfold isS at h
  simpa [and_assoc] using h
theorem isN_parts (h : isN s = true) : s.err = 0 ∧ (peek s).kind = 1 := by
  unfold isN at h
  simpa using h
theorem isW_parts {ws : List (List UInt8)} (h : isW s ws = true) : s.err = 0 ∧ (peek s).kind = 1 ∧ ((peek s).text ∈ ws ∨ ws = []) := by
  unfold isW at h
  simp only [Bool.and_eq_true, Bool.or_eq_true, List.any_eq_true, decide_eq_true_eq, List.isEmpty_iff] at h
  obtain ⟨h1, h2⟩ := h
  refine ⟨(isN_parts h1).1, (isN_parts h1).2, ?_⟩
  rcases h2 with ⟨w, hw, e⟩ | h2
  · exact .inl (by rw [e]; exact hw)
  · exact .inr h2
theorem eats_nextW {ws : List (List UInt8)} (h : isW s ws = true) : Eats s (next s) [((peek s).at_, some (peek s).text)] := by
  have := isW_parts h
  exact eats_nextT (by omega) (fun y hy => ⟨by omega, by simpa using hy⟩)
theorem eats_sign {c : List UInt8} (h : isS s c = true) : Eats s (next s) [((peek s).at_, some c)] := by
  have := isS_parts h
  exact eats_nextT (by omega) (fun y hy => ⟨by omega, by rw [this.2.2]; simpa using hy⟩)
theorem eats_take (c : List UInt8) : Eats s (take c s) [] := by
  unfold take
  split
  · exact eats_next
  · exact .refl s
theorem eats_want (c : List UInt8) : Eats s (want c s) [] := by
  unfold want
  split
  · exact eats_next
  · exact eats_wrong
theorem eats_wantS (c : List UInt8) : Eats s (want c s) [((peek s).at_, some c)] := by
  unfold want
  split
  · rename_i h; exact eats_sign h
  · exact eats_wrong
theorem eats_name : Eats s (name s).1 [((peek s).at_, some (name s).2)] := by
  unfold name
  split
  · rename_i h
    have := isN_parts h
    exact eats_nextT (by omega) (fun y hy => ⟨by omega, by simpa using hy⟩)
  · exact eats_wrong
theorem name_ne (h : NE s) (he : (name s).1.err = 0) : (name s).2 ≠ [] := by
  unfold name at he ⊢
  split
  · rename_i hh
    have := isN_parts hh
    obtain ⟨r, h1, _⟩ := peek_head (s := s) (by omega)
    exact h (peek s) (by rw [h1]; exact List.mem_cons_self) this.2
  · rename_i hh
    rw [if_neg hh] at he
    exact absurd he wrong_bad
theorem eats_down (c : List UInt8) : Eats s (down c s) [] := by
  unfold down
  dsimp only
  refine Eats.trans (p := []) (q := []) (b := want c (if isS s c = true ∧ s.deep = 16 then fail 42 s else s)) ?_ (eats_deep _)
  refine Eats.trans (p := []) (q := []) (b := if isS s c = true ∧ s.deep = 16 then fail 42 s else s) ?_ (eats_want c)
  split
  · exact eats_fail 42 (by decide)
  · exact .refl s
theorem eats_up (c : List UInt8) : Eats s (up c s) [] := (eats_want c).trans (q := []) (eats_deep _)
end

/-- What a reading function reads: its places, and what is so of it. -/
structure Rds {α : Type} (f : St → St × α) (pl : St → α → List Pl) (q : α → Prop) : Prop where
  eats : ∀ s, Eats s (f s).1 (pl s (f s).2)
  good : ∀ s, NE s → (f s).1.err = 0 → q (f s).2
section
variable {α : Type} {f : St → St × α} {pl : α → List Pl} {q : α → Prop}
theorem rds_loop (h : Rds f (fun _ => pl) q) (c : List UInt8) : ∀ (n : Nat) (s : St) (out : List α), ∃ new, (loop c f n s out).2 = out ++ new ∧ Eats s (loop c f n s out).1 (new.flatMap pl) ∧ (NE s → (loop c f n s out).1.err = 0 → ∀ x ∈ new, q x)
  | 0, s, out => ⟨[], by simp [loop], .refl s, fun _ _ x hx => absurd hx (by simp)⟩
  | n + 1, s, out => by
    unfold loop
    split
    · obtain ⟨new, h1, h2, h3⟩ := rds_loop h c n (f s).1 (out ++ [(f s).2])
      refine ⟨(f s).2 :: new, by rw [h1]; simp, (h.eats s).trans h2, fun hn he x hx => ?_⟩
      have e1 := h2.err he
      rcases List.mem_cons.1 hx with rfl | hx
      · exact h.good s hn e1
      · exact h3 ((h.eats s).ne e1 hn) he x hx
    · exact ⟨[], by simp, .refl s, fun _ _ x hx => absurd hx (by simp)⟩
theorem rds_loop0 (h : Rds f (fun _ => pl) q) (c : List UInt8) (n : Nat) : Rds (fun s => loop c f n s []) (fun _ l => l.flatMap pl) (fun l => ∀ x ∈ l, q x) :=
  ⟨fun s => by
    obtain ⟨new, h1, h2, h3⟩ := rds_loop h c n s []
    rw [h1]; exact h2, fun s hn he => by
    obtain ⟨new, h1, h2, h3⟩ := rds_loop h c n s []
    show ∀ x ∈ (loop c f n s []).2, q x
    rw [h1]; exact h3 hn he⟩
theorem rds_loop1 (h : Rds f (fun _ => pl) q) (c : List UInt8) (n : Nat) : Rds (loop1 c f n) (fun _ l => l.flatMap pl) (fun l => l ≠ [] ∧ ∀ x ∈ l, q x) :=
  ⟨fun s => by
    obtain ⟨new, h1, h2, h3⟩ := rds_loop h c n (f s).1 [(f s).2]
    unfold loop1
    rw [h1]
    exact (h.eats s).trans h2, fun s hn he => by
    obtain ⟨new, h1, h2, h3⟩ := rds_loop h c n (f s).1 [(f s).2]
    unfold loop1 at he ⊢
    rw [h1]
    have e1 := h2.err he
    refine ⟨by simp, fun x hx => ?_⟩
    rcases List.mem_cons.1 hx with rfl | hx
    · exact h.good s hn e1
    · exact h3 ((h.eats s).ne e1 hn) he x hx⟩
end

/-- A value stands where its first token stands. -/
theorem eats_argOf {f : St → St × V} (hf : ∀ s, Eats s (f s).1 [((f s).2.at_, none)]) (s : St) : Eats s (argOf f s).1 [((argOf f s).2.at_, some (argOf f s).2.name), ((argOf f s).2.v.at_, none)] :=
  (((eats_name (s := s)).then0 (eats_want colon)).trans (hf (want colon (name s).1)))
theorem eats_value (fixed : Bool) : ∀ (n : Nat) (s : St), Eats s (value fixed (n + 1) s).1 [((value fixed (n + 1) s).2.at_, none)] ∧ Eats s (value fixed n s).1 []
  | n, s => by
    have hne : ∀ (b : St), Eats s b [] → (peek s).kind ≠ 0 → True := fun _ _ _ => trivial
    have h0 : ∀ (m : Nat) (s : St), Eats s (value fixed m s).1 [] := by
      intro m
      induction m with
      | zero => exact fun s => .refl s
      | succ m ih =>
        intro s
        unfold value
        dsimp only
        split
        · refine Eats.trans (p := []) (q := []) (b := next (if fixed = true then wrong s else s)) (Eats.trans (p := []) (q := []) (b := if fixed = true then wrong s else s) ?_ eats_next) ((eats_name).sub (List.nil_sublist _))
          split
          · exact eats_wrong
          · exact .refl s
        split
        · refine Eats.trans (p := []) (q := []) (Eats.trans (p := []) (q := []) (eats_down lbrk) ?_) (eats_up _)
          exact ((rds_loop0 (f := value fixed m) (pl := fun _ => []) (q := fun _ => True) ⟨ih, fun _ _ _ => trivial⟩ rbrk ((down lbrk s).rest.length + 1)).eats (down lbrk s)).sub (List.nil_sublist _)
        split
        · refine Eats.trans (p := []) (q := []) (Eats.trans (p := []) (q := []) (eats_down lbrc) ?_) (eats_up _)
          exact ((rds_loop0 (f := argOf (value fixed m)) (pl := fun _ => []) (q := fun _ => True) ⟨fun s => (((eats_name (s := s)).then0 (eats_want colon)).trans (ih (want colon (name s).1))).sub (List.nil_sublist _), fun _ _ _ => trivial⟩ rbrc ((down lbrc s).rest.length + 1)).eats (down lbrc s)).sub (List.nil_sublist _)
        repeat (split; exact eats_next)
        exact eats_wrong
    refine ⟨?_, h0 n s⟩
    have hT : ∀ (x : List UInt8), (peek s).kind ≠ 0 → Eats s (next s) [((peek s).at_, none)] := fun _ h => eats_nextT h (fun y hy => by cases hy)
    have hD : ∀ c, isS s c = true → Eats s (down c s) [((peek s).at_, none)] := fun c hs => by
      have hk := isS_parts hs
      unfold down
      dsimp only
      refine Eats.then0 (b := want c (if isS s c = true ∧ s.deep = 16 then fail 42 s else s)) ?_ (eats_deep _)
      split
      · rename_i hh
        have hb : (fail 42 s).err ≠ 0 := by unfold fail; rw [if_pos hk.1]; simp
        exact .bad (by rw [(ok_want c _).err hb]; exact hb)
      · unfold want
        rw [if_pos hs]
        exact hT [] (by omega)
    unfold value
    dsimp only
    split
    · rename_i hs
      have hk := isS_parts hs
      refine Eats.then0 (b := next (if fixed = true then wrong s else s)) ?_ ((eats_name).sub (List.nil_sublist _))
      split
      · exact .bad (by rw [next_err wrong_bad]; exact wrong_bad)
      · exact hT [] (by omega)
    split
    · rename_i hs
      refine Eats.then0 (Eats.then0 (hD _ hs) ?_) (eats_up _)
      exact ((rds_loop0 (f := value fixed n) (pl := fun _ => []) (q := fun _ => True) ⟨h0 n, fun _ _ _ => trivial⟩ rbrk ((down lbrk s).rest.length + 1)).eats (down lbrk s)).sub (List.nil_sublist _)
    split
    · rename_i hs
      refine Eats.then0 (Eats.then0 (hD _ hs) ?_) (eats_up _)
      exact ((rds_loop0 (f := argOf (value fixed n)) (pl := fun _ => []) (q := fun _ => True) ⟨fun s => (((eats_name (s := s)).then0 (eats_want colon)).trans (h0 n (want colon (name s).1))).sub (List.nil_sublist _), fun _ _ _ => trivial⟩ rbrc ((down lbrc s).rest.length + 1)).eats (down lbrc s)).sub (List.nil_sublist _)
    split
    · exact hT [] (by omega)
    split
    · exact hT [] (by omega)
    split
    · exact hT [] (by omega)
    split
    · rename_i hs; have := isW_parts hs; exact hT [] (by omega)
    split
    · rename_i hs; have := isW_parts hs; exact hT [] (by omega)
    split
    · rename_i hs; have := isN_parts hs; exact hT [] (by omega)
    exact eats_wrong
/-- A value that was read is one. -/
theorem value_kind (fixed : Bool) (n : Nat) (s : St) (h : (value fixed (n + 1) s).1.err = 0) : (value fixed (n + 1) s).2.kind ≠ 0 := by
  unfold value at h ⊢
  dsimp only at h ⊢
  repeat' split
  all_goals first
    | (show _ ≠ 0; unfold V.kind; simp; done)
    | skip
  simp only [*] at h
  exact absurd h (by simp [wrong_bad])
theorem rds_arg (fixed : Bool) (n : Nat) : Rds (arg fixed (n + 1)) (fun _ a => [(a.at_, some a.name), (a.v.at_, none)]) (fun _ => True) := ⟨fun s => eats_argOf (fun s => (eats_value fixed n s).1) s, fun _ _ _ => trivial⟩
theorem rds_args (fixed : Bool) (n : Nat) : Rds (args fixed (n + 1)) (fun _ l => l.flatMap fun a => [(a.at_, some a.name), (a.v.at_, none)]) (fun _ => True) :=
  ⟨fun s => by
    unfold args
    split
    · exact Eats.then0 (Eats.trans (p := []) eats_next ((rds_loop1 (rds_arg fixed n) rpar (n + 1)).eats (next s))) (eats_want _)
    · exact .refl s, fun _ _ _ => trivial⟩
theorem eats_type : ∀ (n : Nat) (s : St), Eats s (type n s).1 []
  | 0, s => .refl s
  | n + 1, s => by
    unfold type
    have h1 : Eats s (typeCore (type n) s).1 [] := by
      unfold typeCore
      split
      · exact Eats.trans (p := []) (q := []) (Eats.trans (p := []) (q := []) (eats_down _) (eats_type n _)) (eats_up _)
      · exact (eats_name).sub (List.nil_sublist _)
    refine Eats.trans (p := []) (q := []) h1 ?_
    unfold bangOf
    split
    · exact eats_next
    · exact .refl _
theorem type_ne (n : Nat) (s : St) (h : NE s) (he : (type (n + 1) s).1.err = 0) : (type (n + 1) s).2 ≠ [] := by
  unfold type at he ⊢
  have h1 : (bangOf (typeCore (type n) s)).1.err = 0 → (typeCore (type n) s).1.err = 0 := by
    unfold bangOf
    split
    · exact fun e => (eats_next (s := (typeCore (type n) s).1)).err e
    · exact id
  have h2 : (typeCore (type n) s).2 ≠ [] := by
    have h3 := h1 he
    unfold typeCore at h3 ⊢
    split
    · simp [lbrk]
    · rename_i hh
      rw [if_neg hh] at h3
      exact name_ne h h3
  unfold bangOf
  split
  · simp [bang]
  · exact h2

/-- Places that rise in a text, and what stands there. -/
def Rise (s : ByteArray) : Int → List Pl → Prop
  | _, [] => True
  | last, (a, x) :: r => last < a ∧ a < s.size ∧ (∀ t, x = some t → a + t.length ≤ s.size ∧ t = (sfx s a).take t.length) ∧ Rise s a r
theorem rise_of {s : ByteArray} : ∀ {ts : List Tok} {ps : List Pl} {p q : Nat} {last : Int}, Chain s p ts q → Match ps ts → last < p → Rise s last ps
  | _, [], _, _, _, _, _, _ => by unfold Rise; trivial
  | [], _ :: _, _, _, _, _, h, _ => by unfold Match at h; exact h.elim
  | t :: ts, (a, x) :: ps, p, q, last, hc, h, hl => by
    unfold Match at h
    obtain ⟨h1, h2⟩ := hc
    have hlo := h1.lo
    have hend : t.at_ < endOf t := by
      unfold endOf
      split
      · omega
      · rename_i hk; have := h1.pos hk; omega
    rcases h with ⟨⟨f1, f2⟩, h⟩ | h
    · simp only at f1
      unfold Rise
      refine ⟨by omega, by have := h1.hi; omega, fun y hy => ?_, rise_of h2 h (by omega)⟩
      obtain ⟨k4, e⟩ := f2 y (by simpa using hy)
      subst e
      rw [f1]
      exact ⟨h1.fits k4, h1.same k4⟩
    · exact rise_of h2 h (by omega)
theorem rise_all {s : ByteArray} {all pre suf : List Tok} {ps : List Pl} (hs : Std s all) (h : all = pre ++ suf) (hk : ∀ t ∈ pre, t.kind ≠ 0) (hm : Match ps pre) : Rise s (-1) ps := by
  obtain ⟨ts, h1, h2⟩ := hs.chain
  have hp : ∃ r, ts = pre ++ r := by
    rw [h1] at h
    have hlen : pre.length ≤ ts.length := by
      rcases Nat.lt_or_ge ts.length pre.length with hl | hl
      · exfalso
        have e := congrArg (fun l => l[ts.length]?) h
        simp only [List.getElem?_append_right (Nat.le_refl _), Nat.sub_self, List.getElem?_append_left hl, List.getElem?_cons_zero] at e
        exact hk _ (List.mem_of_getElem? e.symm) rfl
      · exact hl
    refine ⟨ts.drop pre.length, ?_⟩
    have e := congrArg (List.take pre.length) h
    rw [List.take_append_of_le_length hlen, List.take_append_of_le_length (Nat.le_refl _), List.take_length] at e
    have := List.take_append_drop pre.length ts
    rw [e] at this
    exact this.symm
  obtain ⟨r, rfl⟩ := hp
  have hc : ∃ q, Chain s 0 pre q := by
    clear h h1 hm hk hs
    have : ∀ (pre : List Tok) (p : Nat), Chain s p (pre ++ r) s.size → ∃ q, Chain s p pre q := by
      intro pre
      induction pre with
      | nil => exact fun p _ => ⟨p, Nat.le_refl p⟩
      | cons t l ih =>
        intro p hc
        obtain ⟨q, hq⟩ := ih _ hc.2
        exact ⟨q, hc.1, hq⟩
    exact this pre 0 h2
  obtain ⟨q, hq⟩ := hc
  exact rise_of hq hm (by omega)
end Rd
end Go.Proofs.YtabcaljnpahgpaaGreatDoor
namespace Go.Proofs.YtabcaljnpahgpaaGreatDoor
set_option linter.unusedSimpArgs false
set_option linter.unusedVariables false
open Go Go.RowKit
namespace Sd
open Rd
def In.pl (x : In) : List Pl := [(x.at_, some x.name)]
def In.ok (x : In) : Prop := x.type ≠ [] ∧ x.has = decide (x.dflt.kind ≠ 0)
def Fd.pl (x : Fd) : List Pl := (x.at_, some x.name) :: x.args.flatMap In.pl
def Fd.ok (x : Fd) : Prop := x.type ≠ [] ∧ ∀ a ∈ x.args, a.ok
def Td.pl (x : Td) : List Pl := (x.at_, some (words.getD (x.kind - 1) [])) :: (x.fields.flatMap Fd.pl ++ x.inputs.flatMap In.pl)
structure Td.ok (x : Td) : Prop where
  k1 : 1 ≤ x.kind
  k6 : x.kind ≤ 6
  name : x.name ≠ []
  fields : ∀ f ∈ x.fields, f.ok
  inputs : ∀ a ∈ x.inputs, a.ok
theorem eats_told {s : St} : Eats s (told s) [] := by
  unfold told
  split
  · exact eats_next
  · exact .refl s
theorem eats_dflt (n : Nat) (s : St) : Eats s (dflt (n + 1) s).1 [] := by
  unfold dflt
  split
  · exact Eats.trans (p := []) (q := []) eats_next (eats_value true (n + 1) (next s)).2
  · exact .refl s
theorem rds_input (n : Nat) : Rds (input (n + 1)) (fun _ => In.pl) In.ok :=
  ⟨fun s => Eats.then0 (Eats.then0 (Eats.then0 (Eats.trans (p := []) eats_told eats_name) (eats_want colon)) (eats_type (n + 1) _)) (eats_dflt n _), fun s hn he => by
    have h3 := (eats_dflt n (type (n + 1) (want colon (name (told s)).1)).1).err he
    have hb : Eats s (want colon (name (told s)).1) [] := Eats.trans (p := []) (q := []) (Eats.trans (p := []) (q := []) eats_told (eats_name.sub (List.nil_sublist _))) (eats_want colon)
    have h4 := (eats_type (n + 1) (want colon (name (told s)).1)).err h3
    refine ⟨type_ne n _ (hb.ne h4 hn) h3, ?_⟩
    show isS _ eq_ = decide ((dflt (n + 1) _).2.kind ≠ 0)
    have he2 : (dflt (n + 1) (type (n + 1) (want colon (name (told s)).1)).1).1.err = 0 := he
    generalize (type (n + 1) (want colon (name (told s)).1)).1 = b at he2
    unfold dflt at he2 ⊢
    by_cases hs : isS b eq_ = true
    · rw [if_pos hs] at he2 ⊢
      rw [hs, decide_eq_true (value_kind true n _ he2)]
    · rw [if_neg hs]
      have : isS b eq_ = false := by simpa using hs
      rw [this]
      rfl⟩
theorem rds_between {α : Type} {f : St → St × α} {pl : α → List Pl} {q : α → Prop} (h : Rds f (fun _ => pl) q) (c e : List UInt8) (n : Nat) : Rds (between c e f n) (fun _ l => l.flatMap pl) (fun l => ∀ x ∈ l, q x) :=
  ⟨fun s => by
    unfold between
    split
    · exact Eats.then0 (Eats.trans (p := []) eats_next ((rds_loop1 h e n).eats (next s))) (eats_want e)
    · exact .refl s, fun s hn he => by
    unfold between at he ⊢
    split
    · rename_i hs
      rw [if_pos hs] at he
      have h1 := (eats_want e (s := (loop1 e f n (next s)).1)).err he
      exact ((rds_loop1 h e n).good (next s) ((eats_next (s := s)).ne ((rds_loop1 h e n).eats (next s) |>.err h1) hn) h1).2
    · exact fun x hx => absurd hx (by simp)⟩
theorem rds_field (n : Nat) : Rds (field (n + 1)) (fun _ => Fd.pl) Fd.ok :=
  ⟨fun s => by
    have := Eats.then0 (Eats.then0 (Eats.trans (Eats.trans (p := []) (eats_told (s := s)) eats_name) ((rds_between (rds_input n) lpar rpar (n + 1)).eats (name (told s)).1)) (eats_want colon)) (eats_type (n + 1) _)
    exact this, fun s hn he => by
    have hE := (rds_between (rds_input n) lpar rpar (n + 1)).eats (name (told s)).1
    have hG := (rds_between (rds_input n) lpar rpar (n + 1)).good (name (told s)).1
    have h1 := (eats_type (n + 1) (want colon (between lpar rpar (input (n + 1)) (n + 1) (name (told s)).1).1)).err he
    have h2 := (eats_want colon (s := (between lpar rpar (input (n + 1)) (n + 1) (name (told s)).1).1)).err h1
    have h3 := hE.err h2
    have ha : Eats s (name (told s)).1 [] := Eats.trans (p := []) (q := []) eats_told (eats_name.sub (List.nil_sublist _))
    have n1 := ha.ne h3 hn
    have n2 := hE.ne h2 n1
    have n3 := (eats_want colon (s := (between lpar rpar (input (n + 1)) (n + 1) (name (told s)).1).1)).ne h1 n2
    exact ⟨type_ne n _ n3 he, hG n1 h2⟩⟩
theorem rds_member : Rds member (fun _ _ => []) (fun _ => True) :=
  ⟨fun s => by
    unfold member
    split
    · exact .bad (by rw [(ok_name (wrong (told s))).err wrong_bad]; exact wrong_bad)
    · exact Eats.trans (p := []) (q := []) eats_told (eats_name.sub (List.nil_sublist _)), fun _ _ _ => trivial⟩
theorem eats_namesGo (c : List UInt8) : ∀ (n : Nat) (s : St) (out : List (List UInt8)), Eats s (namesGo c n s out).1 []
  | 0, s, out => .refl s
  | n + 1, s, out => by
    unfold namesGo
    split
    · exact Eats.trans (p := []) (q := []) (Eats.trans (p := []) (q := []) eats_next (eats_name.sub (List.nil_sublist _))) (eats_namesGo c n _ _)
    · exact .refl s
theorem eats_names (c : List UInt8) (s : St) : Eats s (names c s).1 [] :=
  Eats.trans (p := []) (q := []) (Eats.trans (p := []) (q := []) (eats_take c) (eats_name.sub (List.nil_sublist _))) (eats_namesGo c _ _ _)
theorem eats_impl (s : St) : Eats s (impl s).1 [] := by
  unfold impl
  split
  · exact Eats.trans (p := []) (q := []) eats_next (eats_names amp _)
  · exact .refl s
/-- What is behind a definition's name. -/
theorem body_parts (n k : Nat) (nm : List UInt8) (a : Nat) (s : St) (hk : 1 ≤ k ∧ k ≤ 6) (hnm : nm ≠ []) (hn : NE s) :
    Eats s (body (n + 1) k nm a s).1 ((body (n + 1) k nm a s).2.fields.flatMap Fd.pl ++ (body (n + 1) k nm a s).2.inputs.flatMap In.pl) ∧ (body (n + 1) k nm a s).2.kind = k ∧ (body (n + 1) k nm a s).2.at_ = a ∧
      ((body (n + 1) k nm a s).1.err = 0 → (body (n + 1) k nm a s).2.ok) := by
  have hF := rds_between (rds_field n) lbrc rbrc (n + 1)
  have hI := rds_between (rds_input n) lbrc rbrc (n + 1)
  have hM := rds_between rds_member lbrc rbrc (n + 1)
  unfold body
  split
  · refine ⟨?_, rfl, rfl, fun he => ⟨hk.1, hk.2, hnm, hF.good (impl s).1 ((eats_impl s).ne ((hF.eats (impl s).1).err he) hn) he, fun a ha => absurd ha (by simp)⟩⟩
    show Eats s _ (_ ++ [])
    rw [List.append_nil]
    exact Eats.trans (p := []) (eats_impl s) (hF.eats _)
  split
  · split
    · exact ⟨Eats.trans (p := []) (q := []) eats_next (eats_names bar _), rfl, rfl, fun he => ⟨hk.1, hk.2, hnm, fun a ha => absurd ha (by simp), fun a ha => absurd ha (by simp)⟩⟩
    · exact ⟨.refl s, rfl, rfl, fun he => ⟨hk.1, hk.2, hnm, fun a ha => absurd ha (by simp), fun a ha => absurd ha (by simp)⟩⟩
  split
  · exact ⟨(hM.eats s).sub (List.nil_sublist _), rfl, rfl, fun he => ⟨hk.1, hk.2, hnm, fun a ha => absurd ha (by simp), fun a ha => absurd ha (by simp)⟩⟩
  split
  · exact ⟨hI.eats s, rfl, rfl, fun he => ⟨hk.1, hk.2, hnm, fun a ha => absurd ha (by simp), hI.good s hn he⟩⟩
  · exact ⟨.refl s, rfl, rfl, fun he => ⟨hk.1, hk.2, hnm, fun a ha => absurd ha (by simp), fun a ha => absurd ha (by simp)⟩⟩
theorem kindOf_in {t : List UInt8} (h : t ∈ words) : 1 ≤ kindOf t ∧ kindOf t ≤ 6 ∧ words.getD (kindOf t - 1) [] = t := by
  simp only [words, List.mem_cons, List.not_mem_nil, or_false] at h
  rcases h with rfl | rfl | rfl | rfl | rfl | rfl <;> decide
theorem rds_def (n : Nat) : Rds (def_ (n + 1)) (fun _ => Td.pl) Td.ok := by
  have key : ∀ s : St, Eats s (def_ (n + 1) s).1 (def_ (n + 1) s).2.pl ∧ (NE s → (def_ (n + 1) s).1.err = 0 → (def_ (n + 1) s).2.ok) := by
    intro s
    by_cases hw : isW (told s) words = true
    · have hp := isW_parts hw
      have hkk := kindOf_in (t := (peek (told s)).text) (by rcases hp.2.2 with h | h; exact h; exact absurd h (by decide))
      have hnx := Eats.trans (p := []) (eats_told (s := s)) (eats_nextW hw)
      have hnm : Eats s (name (next (told s))).1 [((peek (told s)).at_, some (peek (told s)).text)] := hnx.then0 (eats_name.sub (List.nil_sublist _))
      have e : def_ (n + 1) s = body (n + 1) (kindOf (peek (told s)).text) (name (next (told s))).2 (peek (told s)).at_ (name (next (told s))).1 := by
        unfold def_; dsimp only; rw [if_pos hw]
      rw [e]
      by_cases he : (body (n + 1) (kindOf (peek (told s)).text) (name (next (told s))).2 (peek (told s)).at_ (name (next (told s))).1).1.err = 0
      · have hok := ok_body (n + 1) (kindOf (peek (told s)).text) (name (next (told s))).2 (peek (told s)).at_ (name (next (told s))).1
        have he1 : (name (next (told s))).1.err = 0 := by
          by_cases h0 : (name (next (told s))).1.err = 0
          · exact h0
          · have := hok.err h0; rw [this] at he; exact absurd he h0
        refine ⟨fun hz => ?_, fun hn _ => ?_⟩
        · -- the places need no more than that the name is one
          have hE : ∀ nm, Eats (name (next (told s))).1 (body (n + 1) (kindOf (peek (told s)).text) nm (peek (told s)).at_ (name (next (told s))).1).1 ((body (n + 1) (kindOf (peek (told s)).text) nm (peek (told s)).at_ (name (next (told s))).1).2.fields.flatMap Fd.pl ++ (body (n + 1) (kindOf (peek (told s)).text) nm (peek (told s)).at_ (name (next (told s))).1).2.inputs.flatMap In.pl) := fun nm => by
            have hF := rds_between (rds_field n) lbrc rbrc (n + 1)
            have hI := rds_between (rds_input n) lbrc rbrc (n + 1)
            have hM := rds_between rds_member lbrc rbrc (n + 1)
            unfold body
            split
            · show Eats _ _ (_ ++ [])
              rw [List.append_nil]
              exact Eats.trans (p := []) (eats_impl _) (hF.eats _)
            split
            · split
              · exact Eats.trans (p := []) (q := []) eats_next (eats_names bar _)
              · exact .refl _
            split
            · exact (hM.eats _).sub (List.nil_sublist _)
            split
            · exact hI.eats _
            · exact .refl _
          have hk2 : (body (n + 1) (kindOf (peek (told s)).text) (name (next (told s))).2 (peek (told s)).at_ (name (next (told s))).1).2.kind = kindOf (peek (told s)).text ∧ (body (n + 1) (kindOf (peek (told s)).text) (name (next (told s))).2 (peek (told s)).at_ (name (next (told s))).1).2.at_ = (peek (told s)).at_ := by
            unfold body
            repeat' split
            all_goals exact ⟨rfl, rfl⟩
          have h2 := hnm.trans (hE (name (next (told s))).2)
          unfold Td.pl
          rw [hk2.1, hk2.2, hkk.2.2]
          exact h2 hz
        · have hb := body_parts n (kindOf (peek (told s)).text) (name (next (told s))).2 (peek (told s)).at_ (name (next (told s))).1 ⟨hkk.1, hkk.2.1⟩ (name_ne (hnx.ne ((eats_name (s := next (told s))).err he1) hn) he1) (hnm.ne he1 hn)
          exact hb.2.2.2 he
      · exact ⟨.bad he, fun _ h => absurd h he⟩
    · have hb : (def_ (n + 1) s).1.err ≠ 0 := by
        unfold def_
        dsimp only
        rw [if_neg hw]
        have hb : (wrong (told s)).err ≠ 0 := wrong_bad
        rw [((ok_next (wrong (told s))).trans ((ok_name (next (wrong (told s)))).trans (ok_body (n + 1) (kindOf (peek (wrong (told s))).text) (name (next (wrong (told s)))).2 (peek (wrong (told s))).at_ _))).err hb]
        exact hb
      exact ⟨.bad hb, fun _ h => absurd h hb⟩
  exact ⟨fun s => (key s).1, fun s => (key s).2⟩
theorem rds_defs (n : Nat) : ∀ (k : Nat) (s : St) (out : List Td), ∃ new, (defs (n + 1) k s out).2 = out ++ new ∧ Eats s (defs (n + 1) k s out).1 (new.flatMap Td.pl) ∧ (NE s → (defs (n + 1) k s out).1.err = 0 → ∀ x ∈ new, x.ok)
  | 0, s, out => ⟨[], by simp [defs], .refl s, fun _ _ x hx => absurd hx (by simp)⟩
  | k + 1, s, out => by
    unfold defs
    split
    · obtain ⟨new, h1, h2, h3⟩ := rds_defs n k (def_ (n + 1) s).1 (out ++ [(def_ (n + 1) s).2])
      have hd := rds_def n
      refine ⟨(def_ (n + 1) s).2 :: new, by rw [h1]; simp, (hd.eats s).trans h2, fun hn he x hx => ?_⟩
      have e1 := h2.err he
      rcases List.mem_cons.1 hx with rfl | hx
      · exact hd.good s hn e1
      · exact h3 ((hd.eats s).ne e1 hn) he x hx
    · exact ⟨[], by simp, .refl s, fun _ _ x hx => absurd hx (by simp)⟩
/-- What is parsed without an error. -/
theorem parse_ok {s : ByteArray} {ts : List Lx.Tok} (hl : Lx.lex s.data.toList = .ok ts) (hs : Std s ts) (he : (parse s.data.toList).1.err = 0) :
    (parse s.data.toList).2 ≠ [] ∧ Rise s (-1) ((parse s.data.toList).2.flatMap Td.pl) ∧ ∀ t ∈ (parse s.data.toList).2, t.ok := by
  have hb : begin_ s.data.toList = ⟨ts, 0, 0, 0⟩ := by unfold begin_; rw [hl]
  have hne : NE ⟨ts, 0, 0, 0⟩ := fun t ht hk => by
    obtain ⟨l, h1, h2⟩ := hs.chain
    have hm : t ∈ l := by
      have ht2 : t ∈ ts := ht
      rw [h1] at ht2
      rcases List.mem_append.1 ht2 with h | h
      · exact h
      · rw [List.mem_singleton.1 h] at hk; cases hk
    have : ∀ (l : List Lx.Tok) (p : Nat), Chain s p l s.size → t ∈ l → t.text ≠ [] := by
      intro l
      induction l with
      | nil => intro p _ h; cases h
      | cons x l ih =>
        intro p hc h
        rcases List.mem_cons.1 h with rfl | h
        · intro e
          have := hc.1.pos (by omega)
          rw [e] at this
          exact absurd this (by simp)
        · exact ih _ hc.2 h
    exact this l 0 h2 hm
  unfold parse at he ⊢
  dsimp only at he ⊢
  rw [hb] at he ⊢
  simp only [if_true] at he ⊢
  have hd := rds_def ts.length
  obtain ⟨new, h1, h2, h3⟩ := rds_defs ts.length (ts.length + 1) (def_ (ts.length + 1) ⟨ts, 0, 0, 0⟩).1 [(def_ (ts.length + 1) ⟨ts, 0, 0, 0⟩).2]
  have e1 := h2.err he
  rw [h1]
  refine ⟨by simp, ?_, fun x hx => ?_⟩
  · have := (hd.eats ⟨ts, 0, 0, 0⟩).trans h2
    obtain ⟨_, pre, k1, k2, k3⟩ := this he
    exact rise_all hs k1 k2 (by simpa using k3)
  · rcases List.mem_append.1 hx with hx | hx
    · rw [List.mem_singleton.1 hx]; exact hd.good _ hne e1
    · exact h3 ((hd.eats _).ne e1 hne) he x hx
/-- No place is in a text of no tokens. -/
theorem none_of {a c : Nat} {s' : St} {p : Pl} {ps : List Pl} (h : Eats ⟨[⟨0, [], 0⟩], 0, a, c⟩ s' (p :: ps)) (he : s'.err = 0) : False := by
  obtain ⟨_, pre, h2, h3, h4⟩ := h he
  cases pre with
  | nil => exact h4
  | cons t l =>
    have e : (⟨0, [], 0⟩ : Lx.Tok) = t := by
      have := congrArg (fun x => x[0]?) h2
      simpa using this
    exact h3 t List.mem_cons_self (by rw [← e])
theorem parse_ok2 {s : ByteArray} (hstd : ∀ ts, Lx.lex s.data.toList = .ok ts → Std s ts) (he : (parse s.data.toList).1.err = 0) :
    (parse s.data.toList).2 ≠ [] ∧ Rise s (-1) ((parse s.data.toList).2.flatMap Td.pl) ∧ ∀ t ∈ (parse s.data.toList).2, t.ok := by
  cases hl : Lx.lex s.data.toList with
  | ok ts => exact parse_ok hl (hstd ts hl) he
  | err a c =>
    exfalso
    have hb : begin_ s.data.toList = ⟨[⟨0, [], 0⟩], 0, a, c⟩ := by unfold begin_; rw [hl]
    unfold parse at he
    dsimp only at he
    rw [hb] at he
    by_cases hc : c = 0
    · rw [if_pos hc] at he
      have hd := rds_def 1
      obtain ⟨new, h1, h2, h3⟩ := rds_defs 1 2 (def_ 2 ⟨[⟨0, [], 0⟩], 0, a, c⟩).1 [(def_ 2 ⟨[⟨0, [], 0⟩], 0, a, c⟩).2]
      exact none_of (hd.eats ⟨[⟨0, [], 0⟩], 0, a, c⟩) (h2.err he)
    · rw [if_neg hc] at he
      exact hc he
end Sd
end Go.Proofs.YtabcaljnpahgpaaGreatDoor
