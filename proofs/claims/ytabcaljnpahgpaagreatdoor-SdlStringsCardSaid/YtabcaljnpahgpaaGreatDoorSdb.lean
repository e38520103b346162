/-
  The reader of types, plain: how much is read is bounded by the tokens.
-/
import Derived.Test.YtabcaljnpahgpaaGreatDoorSdj
import Derived.Test.YtabcaljnpahgpaaGreatDoorVsh
namespace Go.Proofs.YtabcaljnpahgpaaGreatDoor
set_option linter.unusedSimpArgs false
set_option linter.unusedVariables false
namespace Rd
/-- What a reading function reads, of so many tokens, is no more than what it eats. -/
def Meas {α : Type} (k : Nat) (f : St → St × α) (m : α → Nat) : Prop := ∀ s, s.rest.length ≤ k → (f s).1.err = 0 → m (f s).2 + (f s).1.rest.length ≤ s.rest.length
theorem next_one {s : St} (he : s.err = 0) (hk : (peek s).kind ≠ 0) : (next s).rest.length + 1 ≤ s.rest.length := by
  unfold next
  rw [if_pos ⟨he, hk⟩]
  unfold peek at hk
  cases h : s.rest with
  | nil => rw [h] at hk; exact absurd rfl hk
  | cons x r => simp
theorem name_one {s : St} (he : (name s).1.err = 0) : (name s).1.rest.length + 1 ≤ s.rest.length := by
  unfold name at he ⊢
  split
  · rename_i hn
    have := isN_parts hn
    exact next_one this.1 (by omega)
  · rename_i hn
    rw [if_neg hn] at he
    exact absurd he wrong_bad
theorem sign_one {s : St} {c : List UInt8} (h : isS s c = true) : (next s).rest.length + 1 ≤ s.rest.length := by
  have := isS_parts h
  exact next_one this.1 (by omega)
theorem want_one {s : St} {c : List UInt8} (he : (want c s).err = 0) : (want c s).rest.length + 1 ≤ s.rest.length := by
  unfold want at he ⊢
  split
  · rename_i h; exact sign_one h
  · rename_i h; rw [if_neg h] at he; exact absurd he wrong_bad
theorem down_one {s : St} {c : List UInt8} (he : (down c s).err = 0) : (down c s).rest.length + 1 ≤ s.rest.length := by
  unfold down at he ⊢
  dsimp only at he ⊢
  have h1 := want_one he
  have h2 : (if isS s c = true ∧ s.deep = 16 then fail 42 s else s).rest = s.rest := by
    split
    · unfold fail; split <;> rfl
    · rfl
  rw [h2] at h1
  exact h1
theorem loop_m {α : Type} {k : Nat} {f : St → St × α} {m : α → Nat} (c : List UInt8) (ho : ∀ s, Ok s (f s).1) (h : Meas k f m) : ∀ (n : Nat) (s : St) (out : List α), s.rest.length ≤ k → (loop c f n s out).1.err = 0 →
    ((loop c f n s out).2.map m).sum + (loop c f n s out).1.rest.length ≤ (out.map m).sum + s.rest.length
  | 0, s, out, _, _ => by unfold loop; exact Nat.le_refl _
  | n + 1, s, out, hk, he => by
    unfold loop at he ⊢
    split
    · rename_i hh
      rw [if_pos hh] at he
      have e1 := err_back (ok_loop c f ho n _ _) he
      have h1 := h s hk e1
      have h2 := loop_m c ho h n _ _ (Nat.le_trans (ho s).len hk) he
      rw [List.map_append, List.sum_append] at h2
      simp only [List.map_cons, List.map_nil, List.sum_cons, List.sum_nil] at h2
      omega
    · exact Nat.le_refl _
theorem loop1_m {α : Type} {k : Nat} {f : St → St × α} {m : α → Nat} (c : List UInt8) (ho : ∀ s, Ok s (f s).1) (h : Meas k f m) (n : Nat) (s : St) (hk : s.rest.length ≤ k) (he : (loop1 c f n s).1.err = 0) :
    ((loop1 c f n s).2.map m).sum + (loop1 c f n s).1.rest.length ≤ s.rest.length := by
  unfold loop1 at he ⊢
  have e1 := err_back (ok_loop c f ho n _ _) he
  have h1 := h s hk e1
  have h2 := loop_m c ho h n _ _ (Nat.le_trans (ho s).len hk) he
  simp only [List.map_cons, List.map_nil, List.sum_cons, List.sum_nil] at h2
  omega
def mV (v : V) : Nat := (Vl.ofV v).n
def mA (a : A) : Nat := (Vl.ofA a).n
theorem ns_sum : ∀ l : List V, Vl.Z.ns (Vl.ofVs l) = (l.map mV).sum
  | [] => by rw [Vl.ofVs, Vl.Z.ns]; rfl
  | x :: r => by rw [Vl.ofVs, Vl.Z.ns, ns_sum r]; rfl
theorem nas_sum : ∀ l : List A, Vl.ZA.ns (Vl.ofAs l) = (l.map mA).sum
  | [] => by rw [Vl.ofAs, Vl.ZA.ns]; rfl
  | x :: r => by rw [Vl.ofAs, Vl.ZA.ns, nas_sum r]; rfl
theorem mV_mk (k : Nat) (t : List UInt8) (i : List V) (f : List A) (a : Nat) : mV (.mk k t i f a) = 1 + (i.map mV).sum + (f.map mA).sum := by
  show (Vl.ofV (.mk k t i f a)).n = _
  rw [Vl.ofV, Vl.Z.n, ns_sum, nas_sum]
theorem mA_mk (n : List UInt8) (v : V) (a : Nat) : mA (.mk n v a) = 1 + mV v := by
  show (Vl.ofA (.mk n v a)).n = _
  rw [Vl.ofA, Vl.ZA.n]
  rfl
theorem argOf_m {k : Nat} {f : St → St × V} (ho : ∀ s, Ok s (f s).1) (h : Meas k f mV) : Meas k (argOf f) mA := fun s hk he => by
  have z2 : (want colon (name s).1).err = 0 := err_back (ho _) he
  have z1 : (name s).1.err = 0 := err_back (ok_want colon _) z2
  have h1 := name_one z1
  have h2 := (ok_want colon (name s).1).len
  have h3 := h (want colon (name s).1) (by omega) he
  show mA (.mk (name s).2 (f (want colon (name s).1)).2 _) + (f (want colon (name s).1)).1.rest.length ≤ _
  rw [mA_mk]
  omega
theorem value_m (fixed : Bool) : ∀ n : Nat, Meas n (value fixed (n + 1)) mV := by
  intro n
  induction n with
  | zero =>
    intro s hk he
    exfalso
    have p0 : (peek s).kind = 0 := by
      unfold peek
      rw [List.eq_nil_of_length_eq_zero (l := s.rest) (by omega)]
      rfl
    have hS : ∀ c, isS s c = false := fun c => by unfold isS; rw [p0]; simp
    have hN : isN s = false := by unfold isN; rw [p0]; simp
    have hW : ∀ ws, isW s ws = false := fun ws => by unfold isW; rw [hN]; rfl
    unfold value at he
    dsimp only at he
    rw [hS, hS, hS, hW, hW, hN, p0] at he
    simp at he
    exact absurd he wrong_bad
  | succ n ih =>
    intro s hk he
    have nk : ∀ (k : Nat) (t : List UInt8), s.err = 0 → (peek s).kind ≠ 0 → mV (.mk k t [] [] (peek s).at_) + (next s).rest.length ≤ s.rest.length := fun k t h1 h2 => by
      have := next_one h1 h2
      rw [mV_mk]
      simp only [List.map_nil, List.sum_nil]
      omega
    unfold value at he ⊢
    dsimp only at he ⊢
    by_cases c1 : isS s dollar = true
    · rw [if_pos c1] at he ⊢
      have e1 : (if fixed = true then wrong s else s).err = 0 := err_back ((ok_next _).trans (ok_name _)) he
      cases fixed with
      | true => exact absurd e1 wrong_bad
      | false =>
        have h1 := sign_one c1
        have h2 := (ok_name (next s)).len
        rw [mV_mk]
        simp only [List.map_nil, List.sum_nil, Bool.false_eq_true, if_false]
        omega
    rw [if_neg c1] at he ⊢
    by_cases c2 : isS s lbrk = true
    · rw [if_pos c2] at he ⊢
      have z2 := err_back (ok_want rbrk _) (show (want rbrk _).err = 0 from he)
      have z1 := err_back (ok_loop rbrk _ (ok_value fixed (n + 1)) _ _ _) z2
      have hd := down_one z1
      have hu := (ok_up rbrk (loop rbrk (value fixed (n + 1)) ((down lbrk s).rest.length + 1) (down lbrk s) []).1).len
      have h2 := loop_m rbrk (ok_value fixed (n + 1)) ih ((down lbrk s).rest.length + 1) (down lbrk s) [] (by omega) z2
      rw [mV_mk]
      simp only [List.map_nil, List.sum_nil] at h2 ⊢
      omega
    rw [if_neg c2] at he ⊢
    by_cases c3 : isS s lbrc = true
    · rw [if_pos c3] at he ⊢
      have z2 := err_back (ok_want rbrc _) (show (want rbrc _).err = 0 from he)
      have z1 := err_back (ok_loop rbrc _ (ok_argOf _ (ok_value fixed (n + 1))) _ _ _) z2
      have hd := down_one z1
      have hu := (ok_up rbrc (loop rbrc (argOf (value fixed (n + 1))) ((down lbrc s).rest.length + 1) (down lbrc s) []).1).len
      have h2 := loop_m rbrc (ok_argOf _ (ok_value fixed (n + 1))) (argOf_m (ok_value fixed (n + 1)) ih) ((down lbrc s).rest.length + 1) (down lbrc s) [] (by omega) z2
      rw [mV_mk]
      simp only [List.map_nil, List.sum_nil] at h2 ⊢
      omega
    rw [if_neg c3] at he ⊢
    have ez : ∀ {a : St}, a = next s → a.err = 0 → s.err = 0 := fun ha h => err_back (ok_next s) (by rw [← ha]; exact h)
    by_cases c4 : (peek s).kind = 2
    · rw [if_pos c4] at he ⊢; exact nk 2 _ (ez rfl he) (by omega)
    rw [if_neg c4] at he ⊢
    by_cases c5 : (peek s).kind = 3
    · rw [if_pos c5] at he ⊢; exact nk 3 _ (ez rfl he) (by omega)
    rw [if_neg c5] at he ⊢
    by_cases c6 : (peek s).kind = 4
    · rw [if_pos c6] at he ⊢; exact nk 4 _ (ez rfl he) (by omega)
    rw [if_neg c6] at he ⊢
    by_cases c7 : isW s [sNull] = true
    · rw [if_pos c7] at he ⊢; exact nk 6 _ (ez rfl he) (by have := isW_parts c7; omega)
    rw [if_neg c7] at he ⊢
    by_cases c8 : isW s [sTrue, sFalse] = true
    · rw [if_pos c8] at he ⊢; exact nk 5 _ (ez rfl he) (by have := isW_parts c8; omega)
    rw [if_neg c8] at he ⊢
    by_cases c9 : isN s = true
    · rw [if_pos c9] at he ⊢; exact nk 7 _ (ez rfl he) (by have := isN_parts c9; omega)
    rw [if_neg c9] at he
    exact absurd he wrong_bad
end Rd
namespace Sd
open Rd
def mIn (x : In) : Nat := mV x.dflt
def mFd (x : Fd) : Nat := 1 + (x.args.map mIn).sum
def mTd (x : Td) : Nat := 1 + x.impl.length + (x.fields.map mFd).sum + x.members.length + (x.inputs.map mIn).sum
theorem mV_none : mV V.none = 1 := by unfold V.none; rw [mV_mk]; rfl
theorem input_m (n : Nat) : Meas n (input (n + 1)) mIn := fun s hk he => by
  unfold input at he ⊢
  dsimp only at he ⊢
  have okd : ∀ (n : Nat) (s : Rd.St), Ok s (dflt n s).1 := fun n s => by
    unfold dflt
    split
    · exact (ok_next s).trans (ok_value true n _)
    · exact Ok.refl s
  have z3 := err_back (okd (n + 1) _) he
  have z2 := err_back (ok_type (n + 1) _) z3
  have z1 := err_back (ok_want colon _) z2
  have h0 := (ok_told s).len
  have h1 := name_one z1
  have h2 := (ok_want colon (name (told s)).1).len
  have h3 := (ok_type (n + 1) (want colon (name (told s)).1)).len
  generalize (type (n + 1) (want colon (name (told s)).1)).1 = t at *
  show mV (dflt (n + 1) t).2 + (dflt (n + 1) t).1.rest.length ≤ _
  unfold dflt at he ⊢
  split
  · rename_i hs
    rw [if_pos hs] at he
    have h4 := sign_one hs
    have h5 := value_m true n (next t) (by omega) he
    omega
  · rw [mV_none]; show 1 + t.rest.length ≤ _; omega
theorem between_m {α : Type} {k : Nat} {f : Rd.St → Rd.St × α} {m : α → Nat} (c e : List UInt8) (ho : ∀ s, Ok s (f s).1) (h : Meas k f m) (n : Nat) (s : Rd.St) (hk : s.rest.length ≤ k) (he : (between c e f n s).1.err = 0) :
    ((between c e f n s).2.map m).sum + (between c e f n s).1.rest.length ≤ s.rest.length := by
  unfold between at he ⊢
  split
  · rename_i hs
    rw [if_pos hs] at he
    have z1 := err_back (ok_want e _) he
    have h1 := sign_one hs
    have h2 := loop1_m e ho h n (next s) (by omega) z1
    have h3 := (ok_want e (loop1 e f n (next s)).1).len
    show (((loop1 e f n (next s)).2).map m).sum + (want e (loop1 e f n (next s)).1).rest.length ≤ _
    omega
  · simp
theorem field_m (n : Nat) : Meas n (field (n + 1)) mFd := fun s hk he => by
  unfold field at he ⊢
  dsimp only at he ⊢
  have z3 := err_back (ok_type (n + 1) _) he
  have z2 := err_back (ok_want colon _) z3
  have z1 := err_back (ok_between lpar rpar (input (n + 1)) (ok_input (n + 1)) (n + 1) _) z2
  have h0 := (ok_told s).len
  have h1 := name_one z1
  have h2 := between_m lpar rpar (ok_input (n + 1)) (input_m n) (n + 1) (name (told s)).1 (by omega) z2
  have h3 := (ok_want colon (between lpar rpar (input (n + 1)) (n + 1) (name (told s)).1).1).len
  have h4 := (ok_type (n + 1) (want colon (between lpar rpar (input (n + 1)) (n + 1) (name (told s)).1).1)).len
  show 1 + (((between lpar rpar (input (n + 1)) (n + 1) (name (told s)).1).2).map mIn).sum + _ ≤ _
  omega
theorem namesGo_m (c : List UInt8) : ∀ (n : Nat) (s : Rd.St) (o : List (List UInt8)), (namesGo c n s o).1.err = 0 → (namesGo c n s o).2.length + (namesGo c n s o).1.rest.length ≤ o.length + s.rest.length
  | 0, s, o, _ => by unfold namesGo; exact Nat.le_refl _
  | n + 1, s, o, he => by
    unfold namesGo at he ⊢
    split
    · rename_i hs
      rw [if_pos hs] at he
      have z1 : (name (next s)).1.err = 0 := err_back (ok_namesGo c n _ _) he
      have h1 := sign_one hs
      have h2 := name_one z1
      have h3 := namesGo_m c n _ _ he
      rw [List.length_append, List.length_cons, List.length_nil] at h3
      omega
    · exact Nat.le_refl _
theorem names_m (c : List UInt8) (s : Rd.St) (he : (names c s).1.err = 0) : (names c s).2.length + (names c s).1.rest.length ≤ s.rest.length := by
  unfold names at he ⊢
  have z1 : (name (take c s)).1.err = 0 := err_back (ok_namesGo c _ _ _) he
  have h1 := name_one z1
  have h2 := (ok_take c s).len
  have h3 := namesGo_m c _ _ _ he
  rw [List.length_cons, List.length_nil] at h3
  omega
theorem member_m (k : Nat) : Meas k member (fun _ => 1) := fun s hk he => by
  unfold member at he ⊢
  have h0 := (ok_told s).len
  have h1 := name_one he
  have h2 : (if isW (told s) [sTrue, sFalse, sNull] = true then wrong (told s) else told s).rest = (told s).rest := by
    split
    · unfold wrong fail; split <;> rfl
    · rfl
  rw [h2] at h1
  show 1 + _ ≤ _
  omega
theorem impl_m (s : Rd.St) (he : (impl s).1.err = 0) : (impl s).2.length + (impl s).1.rest.length ≤ s.rest.length := by
  unfold impl at he ⊢
  split
  · rename_i hs
    rw [if_pos hs] at he
    have h1 := names_m amp (next s) he
    have h2 := (ok_next s).len
    omega
  · simp
theorem sum_ones {α : Type} (l : List α) : (l.map (fun _ => 1)).sum = l.length := by
  induction l with
  | nil => rfl
  | cons x r ih => rw [List.map_cons, List.sum_cons, ih, List.length_cons]; omega
theorem body_m (n k : Nat) (nm : List UInt8) (a : Nat) (s : Rd.St) (hk : s.rest.length ≤ n) (he : (body (n + 1) k nm a s).1.err = 0) : mTd (body (n + 1) k nm a s).2 + (body (n + 1) k nm a s).1.rest.length ≤ 1 + s.rest.length := by
  unfold body at he ⊢
  split
  · rename_i h
    rw [if_pos h] at he
    have z1 := err_back (ok_between lbrc rbrc (field (n + 1)) (ok_field (n + 1)) (n + 1) _) he
    have h1 := impl_m s z1
    have h2 := between_m lbrc rbrc (ok_field (n + 1)) (field_m n) (n + 1) (impl s).1 (by omega) he
    show 1 + (impl s).2.length + (((between lbrc rbrc (field (n + 1)) (n + 1) (impl s).1).2).map mFd).sum + 0 + 0 + (between lbrc rbrc (field (n + 1)) (n + 1) (impl s).1).1.rest.length ≤ _
    omega
  rename_i h
  rw [if_neg h] at he
  split
  · rename_i h
    rw [if_pos h] at he
    split
    · rename_i hs
      rw [if_pos hs] at he
      have h1 := sign_one hs
      have h2 := names_m bar (next s) he
      show 1 + 0 + 0 + (names bar (next s)).2.length + 0 + (names bar (next s)).1.rest.length ≤ _
      omega
    · show 1 + 0 + 0 + 0 + 0 + s.rest.length ≤ _; omega
  rename_i h
  rw [if_neg h] at he
  split
  · rename_i h
    rw [if_pos h] at he
    have h2 := between_m lbrc rbrc ok_member (member_m n) (n + 1) s hk he
    rw [sum_ones] at h2
    show 1 + 0 + 0 + (between lbrc rbrc member (n + 1) s).2.length + 0 + (between lbrc rbrc member (n + 1) s).1.rest.length ≤ _
    omega
  rename_i h
  rw [if_neg h] at he
  split
  · rename_i h
    rw [if_pos h] at he
    have h2 := between_m lbrc rbrc (ok_input (n + 1)) (input_m n) (n + 1) s hk he
    show 1 + 0 + 0 + 0 + (((between lbrc rbrc (input (n + 1)) (n + 1) s).2).map mIn).sum + (between lbrc rbrc (input (n + 1)) (n + 1) s).1.rest.length ≤ _
    omega
  · show 1 + 0 + 0 + 0 + 0 + s.rest.length ≤ _; omega
theorem def_m (n : Nat) : Meas n (def_ (n + 1)) mTd := fun s hk he => by
  unfold def_ at he ⊢
  dsimp only at he ⊢
  have z1 := err_back (ok_body (n + 1) _ _ _ _) he
  have h0 := (ok_told s).len
  have h1 := name_one z1
  have h2 := (ok_next (if isW (told s) words = true then told s else wrong (told s))).len
  have h3 : (if isW (told s) words = true then told s else wrong (told s)).rest = (told s).rest := by
    split
    · rfl
    · unfold wrong fail; split <;> rfl
  rw [h3] at h2
  have h4 := body_m n _ _ _ _ (by omega) he
  omega
theorem defs_m (n : Nat) : ∀ (k : Nat) (s : Rd.St) (out : List Td), s.rest.length ≤ n → (defs (n + 1) k s out).1.err = 0 → ((defs (n + 1) k s out).2.map mTd).sum + (defs (n + 1) k s out).1.rest.length ≤ (out.map mTd).sum + s.rest.length
  | 0, s, out, _, _ => by rw [defs]; exact Nat.le_refl _
  | k + 1, s, out, hk, he => by
    rw [defs_succ] at he ⊢
    split
    · rename_i hh
      rw [if_pos hh] at he
      have z1 := err_back (ok_defs (n + 1) k _ _) he
      have h1 := def_m n s hk z1
      have h2 := defs_m n k _ _ (Nat.le_trans (ok_def (n + 1) s).len hk) he
      rw [List.map_append, List.sum_append] at h2
      simp only [List.map_cons, List.map_nil, List.sum_cons, List.sum_nil] at h2
      omega
    · exact Nat.le_refl _
/-- What 'Parse' reads is no more than its tokens. -/
theorem parse_m {l : List UInt8} (h : (parse l).1.err = 0) : ((parse l).2.map mTd).sum ≤ (begin_ l).rest.length := by
  unfold parse at h ⊢
  dsimp only at h ⊢
  split
  · rename_i he
    rw [if_pos he] at h
    have z1 := err_back (ok_defs _ _ _ _) h
    have h1 := def_m (begin_ l).rest.length (begin_ l) (Nat.le_refl _) z1
    have h2 := defs_m (begin_ l).rest.length _ _ _ (ok_def _ (begin_ l)).len h
    simp only [List.map_cons, List.map_nil, List.sum_cons, List.sum_nil] at h2
    omega
  · simp
theorem mem_sum {α : Type} {m : α → Nat} : ∀ {l : List α} {x : α}, x ∈ l → m x ≤ (l.map m).sum
  | y :: r, x, h => by
    rw [List.map_cons, List.sum_cons]
    rcases List.mem_cons.1 h with rfl | h
    · omega
    · have := mem_sum (m := m) h; omega
theorem len_sum {α : Type} {m : α → Nat} (hm : ∀ x, 1 ≤ m x) : ∀ l : List α, l.length ≤ (l.map m).sum
  | [] => Nat.le_refl _
  | x :: r => by
    have := hm x
    have := len_sum hm r
    rw [List.map_cons, List.sum_cons, List.length_cons]; omega
end Sd
end Go.Proofs.YtabcaljnpahgpaaGreatDoor
