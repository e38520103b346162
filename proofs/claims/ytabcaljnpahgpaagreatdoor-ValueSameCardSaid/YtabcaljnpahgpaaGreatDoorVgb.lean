/-
  A good value's text, and its words (plain).
-/
import Derived.Test.YtabcaljnpahgpaaGreatDoorVsh
import Derived.Test.YtabcaljnpahgpaaGreatDoorVga
import Derived.Test.YtabcaljnpahgpaaGreatDoorSdj
namespace Go.Proofs.YtabcaljnpahgpaaGreatDoor
set_option linter.unusedSimpArgs false
set_option linter.unusedVariables false
namespace Vl
def many (k : Int) : Prop := k = 8 ∨ k = 9
instance (k : Int) : Decidable (many k) := by unfold many; infer_instance
-- Has a value a text?
mutual
def Z.good : Nat → Z → Bool
  | deep, .mk k t i f _ => parts k i.length f.length && (if 1 ≤ k ∧ k ≤ 7 then (leaf k t).1 else if many k then (decide (t = []) && decide (deep < 16)) && (Z.goods (deep + 1) i && ZA.goods (deep + 1) f) else false)
def Z.goods : Nat → List Z → Bool
  | _, [] => true
  | deep, x :: r => Z.good deep x && Z.goods deep r
def ZA.good : Nat → ZA → Bool
  | deep, .mk n v _ => Lx.isName n && Z.good deep v
def ZA.goods : Nat → List ZA → Bool
  | _, [] => true
  | deep, x :: r => ZA.good deep x && ZA.goods deep r
end
-- Its text.
def gp (b : Bool) : List UInt8 := if b then [] else [44, 32]
mutual
def Z.str : Z → List UInt8
  | .mk k t i f _ => if many k then opn k ++ (Z.strs true i ++ (ZA.strs true f ++ shut k)) else (leaf k t).2
def Z.strs : Bool → List Z → List UInt8
  | _, [] => []
  | b, x :: r => gp b ++ (Z.str x ++ Z.strs false r)
def ZA.str : ZA → List UInt8
  | .mk n v _ => n ++ ([58, 32] ++ Z.str v)
def ZA.strs : Bool → List ZA → List UInt8
  | _, [] => []
  | b, x :: r => gp b ++ (ZA.str x ++ ZA.strs false r)
end
theorem Z.good_eq (deep : Nat) (z : Z) : z.good deep = (parts z.kind z.items.length z.fields.length && (if 1 ≤ z.kind ∧ z.kind ≤ 7 then (leaf z.kind z.text).1 else if many z.kind then (decide (z.text = []) && decide (deep < 16)) && (Z.goods (deep + 1) z.items && ZA.goods (deep + 1) z.fields) else false)) := by
  cases z; rw [Z.good]; rfl
theorem Z.str_eq (z : Z) : z.str = if many z.kind then opn z.kind ++ (Z.strs true z.items ++ (ZA.strs true z.fields ++ shut z.kind)) else (leaf z.kind z.text).2 := by
  cases z; rw [Z.str]; rfl
theorem sep_put (b : Bool) (s : Sh) : sep b s = put (gp b) s := by
  unfold sep gp put
  cases b <;> simp
theorem put_bad (t : List UInt8) (s : Sh) : (put t s).bad = s.bad := rfl
/-- What 'show' does: what is good is put; what isn't is bad. -/
def Does (f : Sh → Sh) (g : Bool) (t : List UInt8) : Prop := (∀ s, s.bad = true → (f s).bad = true) ∧ ∀ s, s.bad = false → (g = true → f s = ⟨s.out ++ t, false⟩) ∧ (g = false → (f s).bad = true)
theorem does_put (t : List UInt8) : Does (put t) true t := ⟨fun s h => h, fun s h => ⟨fun _ => by unfold put; rw [h], fun e => by cases e⟩⟩
theorem does_need (b : Bool) : Does (need b) b [] := ⟨fun s h => by unfold need; rw [h]; rfl, fun s h => ⟨fun e => by unfold need; rw [h, e]; simp, fun e => by unfold need; rw [h, e]; rfl⟩⟩
theorem does_id : Does (fun s => s) true [] := ⟨fun s h => h, fun s h => ⟨fun _ => by cases s; simp at h ⊢; exact h, fun e => by cases e⟩⟩
theorem Does.comp {f f2 : Sh → Sh} {g g2 : Bool} {t t2 : List UInt8} (h : Does f g t) (h2 : Does f2 g2 t2) : Does (fun s => f2 (f s)) (g && g2) (t ++ t2) := by
  refine ⟨fun s hs => h2.1 _ (h.1 _ hs), fun s hs => ⟨fun hg => ?_, fun hg => ?_⟩⟩
  · rw [Bool.and_eq_true] at hg
    show f2 (f s) = _
    rw [(h.2 s hs).1 hg.1, (h2.2 _ rfl).1 hg.2, List.append_assoc]
  · show (f2 (f s)).bad = true
    cases g with
    | false => exact h2.1 _ ((h.2 s hs).2 rfl)
    | true =>
      rw [(h.2 s hs).1 rfl]
      exact (h2.2 _ rfl).2 (by simpa using hg)
theorem Does.to {f : Sh → Sh} {g g2 : Bool} {t t2 : List UInt8} (h : Does f g t) (e : g = g2) (e2 : t = t2) : Does f g2 t2 := by subst e e2; exact h
mutual
theorem show_does : ∀ (z : Z) (deep : Nat), Does (z.show deep) (z.good deep) z.str
  | .mk k t i f a, deep => by
    by_cases h1 : 1 ≤ k ∧ k ≤ 7
    · have hm : ¬ many k := by unfold many; omega
      have e : (Z.mk k t i f a).show deep = fun s => put (leaf k t).2 (need (leaf k t).1 (need (parts k i.length f.length) s)) := by
        funext s
        exact Z.show_leaf (x := Z.mk k t i f a) h1
      rw [e]
      exact (((does_need (parts k i.length f.length)).comp (does_need (leaf k t).1)).comp (does_put (leaf k t).2)).to (by rw [Z.good, if_pos h1, Bool.and_true]) (by rw [Z.str, if_neg hm]; rfl)
    by_cases h2 : many k
    · have e : (Z.mk k t i f a).show deep = fun s => if (need (decide (t = []) && decide (deep < 16)) (need (parts k i.length f.length) s)).bad = true then need (decide (t = []) && decide (deep < 16)) (need (parts k i.length f.length) s)
          else put (shut k) (ZA.shows (deep + 1) true f (Z.shows (deep + 1) true i (put (opn k) (need (decide (t = []) && decide (deep < 16)) (need (parts k i.length f.length) s))))) := by
        funext s
        exact Z.show_many (x := Z.mk k t i f a) h2
      have hin := ((((does_put (opn k)).comp (shows_does i (deep + 1) true)).comp (showas_does f (deep + 1) true)).comp (does_put (shut k)))
      have hpre := (does_need (parts k i.length f.length)).comp (does_need (decide (t = []) && decide (deep < 16)))
      have hg : (Z.mk k t i f a).good deep = ((parts k i.length f.length && (decide (t = []) && decide (deep < 16))) && (((true && Z.goods (deep + 1) i) && ZA.goods (deep + 1) f) && true)) := by
        rw [Z.good, if_neg h1, if_pos h2, Bool.true_and, Bool.and_true, Bool.and_assoc (parts k i.length f.length)]
      have ht : (Z.mk k t i f a).str = ([] ++ []) ++ (((opn k ++ Z.strs true i) ++ ZA.strs true f) ++ shut k) := by
        rw [Z.str, if_pos h2]; simp
      rw [e, hg, ht]
      have hc := hpre.comp hin
      refine ⟨fun s hs => ?_, fun s hs => ⟨fun hg => ?_, fun hg => ?_⟩⟩
      · show (if _ then _ else _ : Sh).bad = true
        rw [if_pos (hpre.1 s hs)]
        exact hpre.1 s hs
      · have h3 := (hc.2 s hs).1 hg
        rw [Bool.and_eq_true] at hg
        have h4 := (hpre.2 s hs).1 hg.1
        show (if _ then _ else _ : Sh) = _
        rw [if_neg (by show ¬ (need _ (need _ s)).bad = true; rw [show need (decide (t = []) && decide (deep < 16)) (need (parts k i.length f.length) s) = _ from h4]; simp)]
        exact h3
      · have h3 := (hc.2 s hs).2 hg
        show (if _ then _ else _ : Sh).bad = true
        split
        · assumption
        · exact h3
    · have e : (Z.mk k t i f a).show deep = fun s => need false (need (parts k i.length f.length) s) := by
        funext s
        exact Z.show_else (x := Z.mk k t i f a) h1 h2
      have hg : (Z.mk k t i f a).good deep = (parts k i.length f.length && false) := by rw [Z.good, if_neg h1, if_neg h2]
      rw [e, hg]
      have := (does_need (parts k i.length f.length)).comp (does_need false)
      refine ⟨this.1, fun s hs => ⟨fun h => by simp at h, (this.2 s hs).2⟩⟩
theorem shows_does : ∀ (l : List Z) (deep : Nat) (b : Bool), Does (Z.shows deep b l) (Z.goods deep l) (Z.strs b l)
  | [], deep, b => by
    have e : Z.shows deep b [] = fun s => s := by funext s; exact Z.shows_nil _ _ _
    rw [e, Z.goods, Z.strs]; exact does_id
  | x :: r, deep, b => by
    have e : Z.shows deep b (x :: r) = fun s => Z.shows deep false r (Z.show deep x (put (gp b) s)) := by funext s; rw [Z.shows_cons, sep_put]
    rw [e, Z.goods, Z.strs]
    exact (((does_put (gp b)).comp (show_does x deep)).comp (shows_does r deep false)).to (by rw [Bool.true_and]) (by rw [List.append_assoc])
theorem showa_does : ∀ (x : ZA) (deep : Nat), Does (ZA.show deep x) (ZA.good deep x) x.str
  | .mk n v a, deep => by
    have e : ZA.show deep (.mk n v a) = fun s => Z.show deep v (put (n ++ [58, 32]) (need (Lx.isName n) s)) := by funext s; rw [ZA.show]
    rw [e, ZA.good, ZA.str]
    exact (((does_need (Lx.isName n)).comp (does_put (n ++ [58, 32]))).comp (show_does v deep)).to (by rw [Bool.and_true]) (by simp)
theorem showas_does : ∀ (l : List ZA) (deep : Nat) (b : Bool), Does (ZA.shows deep b l) (ZA.goods deep l) (ZA.strs b l)
  | [], deep, b => by
    have e : ZA.shows deep b [] = fun s => s := by funext s; exact ZA.shows_nil _ _ _
    rw [e, ZA.goods, ZA.strs]; exact does_id
  | x :: r, deep, b => by
    have e : ZA.shows deep b (x :: r) = fun s => ZA.shows deep false r (ZA.show deep x (put (gp b) s)) := by funext s; rw [ZA.shows_cons, sep_put]
    rw [e, ZA.goods, ZA.strs]
    exact (((does_put (gp b)).comp (showa_does x deep)).comp (showas_does r deep false)).to (by rw [Bool.true_and]) (by rw [List.append_assoc])
end
theorem shown_good {z : Z} (h : z.good 0 = true) : z.show 0 ⟨[], false⟩ = ⟨z.str, false⟩ := ((show_does z 0).2 ⟨[], false⟩ rfl).1 h
theorem shown_bad {z : Z} (h : z.good 0 = false) : (z.show 0 ⟨[], false⟩).bad = true := ((show_does z 0).2 ⟨[], false⟩ rfl).2 h
-- The same but for places: the same text, good likewise.
mutual
theorem same_str : ∀ (x y : Z), x.same y = true → x.str = y.str ∧ ∀ deep, x.good deep = y.good deep
  | .mk k t i f a, .mk k' t' i' f' a', h => by
    rw [Z.same] at h
    simp only [Bool.and_eq_true, decide_eq_true_eq] at h
    obtain ⟨rfl, rfl, h3, h4⟩ := h
    have e1 := sames_str i i' h3
    have e2 := samesA_str f f' h4
    refine ⟨by rw [Z.str, Z.str, e1.1, e2.1], fun deep => ?_⟩
    rw [Z.good, Z.good, e1.2.1, e2.2.1, e1.2.2, e2.2.2]
theorem sames_str : ∀ (l m : List Z), Z.sames l m = true → (∀ b, Z.strs b l = Z.strs b m) ∧ (∀ deep, Z.goods deep l = Z.goods deep m) ∧ l.length = m.length
  | [], [], _ => ⟨fun _ => rfl, fun _ => rfl, rfl⟩
  | x :: r, y :: s, h => by
    rw [Z.sames_cons, Bool.and_eq_true] at h
    have e1 := same_str x y h.1
    have e2 := sames_str r s h.2
    exact ⟨fun b => by rw [Z.strs, Z.strs, e1.1, e2.1], fun deep => by rw [Z.goods, Z.goods, e1.2, e2.2.1], by rw [List.length_cons, List.length_cons, e2.2.2]⟩
  | [], _ :: _, h => by rw [Z.sames] at h; cases h
  | _ :: _, [], h => by rw [Z.sames] at h; cases h
theorem sameA_str : ∀ (x y : ZA), x.same y = true → x.str = y.str ∧ ∀ deep, x.good deep = y.good deep
  | .mk n v a, .mk n' v' a', h => by
    rw [ZA.same] at h
    simp only [Bool.and_eq_true, decide_eq_true_eq] at h
    obtain ⟨rfl, h2⟩ := h
    have e1 := same_str v v' h2
    exact ⟨by rw [ZA.str, ZA.str, e1.1], fun deep => by rw [ZA.good, ZA.good, e1.2]⟩
theorem samesA_str : ∀ (l m : List ZA), ZA.sames l m = true → (∀ b, ZA.strs b l = ZA.strs b m) ∧ (∀ deep, ZA.goods deep l = ZA.goods deep m) ∧ l.length = m.length
  | [], [], _ => ⟨fun _ => rfl, fun _ => rfl, rfl⟩
  | x :: r, y :: s, h => by
    rw [ZA.sames_cons, Bool.and_eq_true] at h
    have e1 := sameA_str x y h.1
    have e2 := samesA_str r s h.2
    exact ⟨fun b => by rw [ZA.strs, ZA.strs, e1.1, e2.1], fun deep => by rw [ZA.goods, ZA.goods, e1.2, e2.2.1], by rw [List.length_cons, List.length_cons, e2.2.2]⟩
  | [], _ :: _, h => by rw [ZA.sames] at h; cases h
  | _ :: _, [], h => by rw [ZA.sames] at h; cases h
end
-- Its words.
def leafW (g : List UInt8) (k : Int) (t : List UInt8) : List Lx.Wd :=
  if k = 1 then [⟨g, 5, [36], [36]⟩, ⟨[], 1, t, t⟩]
  else if k = 2 then [⟨g, 2, t, t⟩]
  else if k = 3 then [⟨g, 3, t, t⟩]
  else if k = 4 then [⟨g, 4, t, quoteOf t⟩]
  else if k = 5 then [⟨g, 1, t, t⟩]
  else if k = 6 then [⟨g, 1, Rd.sNull, Rd.sNull⟩]
  else [⟨g, 1, t, t⟩]
mutual
def Z.wds : List UInt8 → Z → List Lx.Wd
  | g, .mk k t i f _ => if many k then ⟨g, 5, opn k, opn k⟩ :: (Z.wdss true i ++ (ZA.wdss true f ++ [⟨[], 5, shut k, shut k⟩])) else leafW g k t
def Z.wdss : Bool → List Z → List Lx.Wd
  | _, [] => []
  | b, x :: r => Z.wds (gp b) x ++ Z.wdss false r
def ZA.wds : List UInt8 → ZA → List Lx.Wd
  | g, .mk n v _ => ⟨g, 1, n, n⟩ :: ⟨[], 5, [58], [58]⟩ :: Z.wds [32] v
def ZA.wdss : Bool → List ZA → List Lx.Wd
  | _, [] => []
  | b, x :: r => ZA.wds (gp b) x ++ ZA.wdss false r
end
theorem flat_leaf (g : List UInt8) (k : Int) (t : List UInt8) : Lx.flat (leafW g k t) = g ++ (leaf k t).2 := by
  unfold leafW leaf
  repeat' split
  all_goals simp [Lx.flat]
mutual
theorem flat_wds : ∀ (z : Z) (g : List UInt8), Lx.flat (Z.wds g z) = g ++ z.str
  | .mk k t i f a, g => by
    rw [Z.wds, Z.str]
    split
    · rw [Lx.flat, Lx.flat_app, Lx.flat_app, flat_wdss i true, flat_wdas f true]
      simp [Lx.flat]
    · exact flat_leaf g k t
theorem flat_wdss : ∀ (l : List Z) (b : Bool), Lx.flat (Z.wdss b l) = Z.strs b l
  | [], b => by rw [Z.wdss, Z.strs]; rfl
  | x :: r, b => by rw [Z.wdss, Z.strs, Lx.flat_app, flat_wds x, flat_wdss r false, List.append_assoc]
theorem flat_wda : ∀ (z : ZA) (g : List UInt8), Lx.flat (ZA.wds g z) = g ++ z.str
  | .mk n v a, g => by
    rw [ZA.wds, ZA.str, Lx.flat, Lx.flat, flat_wds v]
    simp
theorem flat_wdas : ∀ (l : List ZA) (b : Bool), Lx.flat (ZA.wdss b l) = ZA.strs b l
  | [], b => by rw [ZA.wdss, ZA.strs]; rfl
  | x :: r, b => by rw [ZA.wdss, ZA.strs, Lx.flat_app, flat_wda x, flat_wdas r false, List.append_assoc]
end
theorem neu_strs (r : List Z) (l : List UInt8) (h : Lx.Neu l) : Lx.Neu (Z.strs false r ++ l) := by
  cases r with
  | nil => rw [Z.strs]; exact h
  | cons x r => rw [Z.strs]; exact Lx.neu_cons 44 _ (by decide)
theorem neu_strsA (r : List ZA) (l : List UInt8) (h : Lx.Neu l) : Lx.Neu (ZA.strs false r ++ l) := by
  cases r with
  | nil => rw [ZA.strs]; exact h
  | cons x r => rw [ZA.strs]; exact Lx.neu_cons 44 _ (by decide)
theorem isName_parts {t : List UInt8} (h : Lx.isName t = true) : Lx.isLetter (Lx.hd t) = true ∧ ∀ c ∈ t, Lx.isWord c = true := by
  unfold Lx.isName at h
  rw [Bool.and_eq_true, List.all_eq_true] at h
  exact h
theorem one_parts {t : List UInt8} {k : Nat} (h : one t k = true) (hk : k = 2 ∨ k = 3) : Lx.numAll k t ∧ t.length ≤ 4096 := by
  unfold one at h
  split at h
  · rename_i x y hx
    rw [Bool.and_eq_true, decide_eq_true_eq, decide_eq_true_eq] at h
    exact Lx.numAll_one hx h.1 h.2 hk
  · cases h
theorem one_of {t : List UInt8} {k : Nat} (h : Lx.numAll k t) (hl : t.length ≤ 4096) : one t k = true := by
  have := Lx.lex_alone (Lx.stands_num (g := []) (by simp) h Lx.neu_nil) hl
  unfold one
  rw [this]
  simp
theorem st_name {g t l : List UInt8} (hg : ∀ d ∈ g, Lx.isBlank d = true) (h : Lx.isName t = true) (hl : Lx.Neu l) : Lx.StandsW ⟨g, 1, t, t⟩ l :=
  Lx.stands_name g hg (isName_parts h).1 (isName_parts h).2 hl.w
theorem stand_leaf {g l t : List UInt8} {k : Int} (hg : ∀ d ∈ g, Lx.isBlank d = true) (h : (leaf k t).1 = true) (hl : Lx.Neu l) : Lx.StandAll (leafW g k t) l := by
  unfold leaf at h
  unfold leafW
  by_cases c1 : k = 1
  · rw [if_pos c1] at h ⊢
    exact ⟨Lx.stands_sign g hg (by decide) _, st_name (by simp) h hl, trivial⟩
  rw [if_neg c1] at h ⊢
  by_cases c2 : k = 2
  · rw [if_pos c2] at h ⊢
    exact ⟨Lx.stands_num hg (one_parts h (.inl rfl)).1 hl, trivial⟩
  rw [if_neg c2] at h ⊢
  by_cases c3 : k = 3
  · rw [if_pos c3] at h ⊢
    exact ⟨Lx.stands_num hg (one_parts h (.inr rfl)).1 hl, trivial⟩
  rw [if_neg c3] at h ⊢
  by_cases c4 : k = 4
  · rw [if_pos c4] at h ⊢
    have h : Lx.valid t = true := h
    unfold quoteOf
    rw [if_pos h]
    exact ⟨Lx.stands_quote hg h hl, trivial⟩
  rw [if_neg c4] at h ⊢
  by_cases c5 : k = 5
  · rw [if_pos c5] at h ⊢
    have h : (decide (t = Rd.sTrue) || decide (t = Rd.sFalse)) = true := h
    rw [Bool.or_eq_true, decide_eq_true_eq, decide_eq_true_eq] at h
    refine ⟨?_, trivial⟩
    rcases h with rfl | rfl
    · exact st_name hg (by decide) hl
    · exact st_name hg (by decide) hl
  rw [if_neg c5] at h ⊢
  by_cases c6 : k = 6
  · rw [if_pos c6]
    exact ⟨st_name hg (by decide) hl, trivial⟩
  rw [if_neg c6] at h ⊢
  have h : (Lx.isName t && _) = true := h
  rw [Bool.and_eq_true] at h
  exact ⟨st_name hg h.1 hl, trivial⟩
theorem gp_blank (b : Bool) : ∀ d ∈ gp b, Lx.isBlank d = true := by
  cases b <;> decide
mutual
theorem stand_wds : ∀ (z : Z) (g l : List UInt8) (deep : Nat), (∀ d ∈ g, Lx.isBlank d = true) → z.good deep = true → Lx.Neu l → Lx.StandAll (Z.wds g z) l
  | .mk k t i f a, g, l, deep, hg, h, hl => by
    rw [Z.good, Bool.and_eq_true] at h
    rw [Z.wds]
    by_cases hm : many k
    · rw [if_neg (by unfold many at hm; omega), if_pos hm] at h
      simp only [Bool.and_eq_true] at h
      obtain ⟨hp, ⟨ht, hd⟩, hi, hf⟩ := h
      rw [if_pos hm]
      have hsg : (Lx.signs.contains (if k = 9 then 123 else 91) = true ∧ opn k = [if k = 9 then 123 else 91]) ∧ (Lx.signs.contains (if k = 9 then 125 else 93) = true ∧ shut k = [if k = 9 then 125 else 93]) := by
        unfold opn shut
        split <;> exact ⟨⟨by decide, rfl⟩, by decide, rfl⟩
      have hns : Lx.Neu (shut k ++ l) := by
        unfold shut
        split <;> exact Lx.neu_cons _ _ (by decide)
      refine ⟨by rw [hsg.1.2]; exact Lx.stands_sign g hg hsg.1.1 _, ?_⟩
      refine Lx.standAll_app ?_ (Lx.standAll_app ?_ ⟨by rw [hsg.2.2]; exact Lx.stands_sign [] (by simp) hsg.2.1 _, trivial⟩)
      · by_cases h9 : k = 9
        · have : i = [] := by
            unfold parts at hp
            simp [h9] at hp
            exact hp
          subst this
          rw [Z.wdss]; trivial
        · have : f = [] := by
            unfold parts at hp
            simp [h9] at hp
            exact hp.2
          subst this
          rw [ZA.wdss]
          refine stand_wdss i _ (deep + 1) true hi ?_
          simpa [Lx.flat] using hns
      · refine stand_wdas f _ (deep + 1) true hf ?_
        simpa [Lx.flat] using hns
    · rw [if_neg hm]
      by_cases h1 : 1 ≤ k ∧ k ≤ 7
      · rw [if_pos h1] at h
        exact stand_leaf hg h.2 hl
      · rw [if_neg h1, if_neg hm] at h
        cases h.2
theorem stand_wdss : ∀ (r : List Z) (l : List UInt8) (deep : Nat) (b : Bool), Z.goods deep r = true → Lx.Neu l → Lx.StandAll (Z.wdss b r) l
  | [], l, deep, b, h, hl => by rw [Z.wdss]; trivial
  | x :: r, l, deep, b, h, hl => by
    rw [Z.goods, Bool.and_eq_true] at h
    rw [Z.wdss]
    refine Lx.standAll_app (stand_wds x _ _ deep (gp_blank b) h.1 ?_) (stand_wdss r l deep false h.2 hl)
    rw [flat_wdss]
    exact neu_strs r l hl
theorem stand_wda : ∀ (z : ZA) (g l : List UInt8) (deep : Nat), (∀ d ∈ g, Lx.isBlank d = true) → z.good deep = true → Lx.Neu l → Lx.StandAll (ZA.wds g z) l
  | .mk n v a, g, l, deep, hg, h, hl => by
    rw [ZA.good, Bool.and_eq_true] at h
    rw [ZA.wds]
    refine ⟨st_name hg h.1 ?_, Lx.stands_sign [] (by simp) (by decide) _, stand_wds v [32] l deep (by decide) h.2 hl⟩
    exact Lx.neu_cons 58 _ (by decide)
theorem stand_wdas : ∀ (r : List ZA) (l : List UInt8) (deep : Nat) (b : Bool), ZA.goods deep r = true → Lx.Neu l → Lx.StandAll (ZA.wdss b r) l
  | [], l, deep, b, h, hl => by rw [ZA.wdss]; trivial
  | x :: r, l, deep, b, h, hl => by
    rw [ZA.goods, Bool.and_eq_true] at h
    rw [ZA.wdss]
    refine Lx.standAll_app (stand_wda x _ _ deep (gp_blank b) h.1 ?_) (stand_wdas r l deep false h.2 hl)
    rw [flat_wdas]
    exact neu_strsA r l hl
end
end Vl
end Go.Proofs.YtabcaljnpahgpaaGreatDoor
