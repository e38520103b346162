/-
  The reader of documents, plain: where what is read stands, and what is so of it (no program in sight).
-/
import Derived.Test.YtabcaljnpahgpaaDoorK2
import Derived.Test.YtabcaljnpahgpaaDoorK5
namespace Go.Proofs.YtabcaljnpahgpaaDoor
set_option linter.unusedSimpArgs false
set_option linter.unusedVariables false
open Go Go.RowKit
namespace Qr
open Rd
def Ap (x : A) : List Pl := [(x.at_, some x.name), (x.v.at_, none)]
def Dir.pl (x : Dir) : List Pl := [(x.at_, none)]
mutual
def Sel.pl : Sel → List Pl
  | .mk _ _ _ ar ds ss a => (a, none) :: (ar.flatMap Ap ++ (ds.flatMap Dir.pl ++ Sel.pls ss))
def Sel.pls : List Sel → List Pl
  | [] => []
  | x :: r => Sel.pl x ++ Sel.pls r
end
theorem Sel.pls_map : ∀ l : List Sel, Sel.pls l = l.flatMap Sel.pl
  | [] => by rw [Sel.pls]; rfl
  | x :: r => by rw [Sel.pls, Sel.pls_map r]; rfl
def Vd.pl (x : Vd) : List Pl := [(x.at_, some dollar)]
def Op.pl (x : Op) : List Pl := (x.at_, none) :: (x.vars.flatMap Vd.pl ++ (x.dirs.flatMap Dir.pl ++ x.sels.flatMap Sel.pl))
def Fr.pl (x : Fr) : List Pl := (x.at_, none) :: (x.dirs.flatMap Dir.pl ++ x.sels.flatMap Sel.pl)
/-- Names are texts; there is an end; so many tokens. -/
structure C (k : Nat) (s : St) : Prop where
  ne : NE s
  has : ∃ t ∈ s.rest, t.kind = 0
  len : s.rest.length ≤ k
section
variable {s s' a b c : St} {p q : List Pl} {k n : Nat}
theorem keepC (h : Eats a b p) (he : b.err = 0) (hc : C k a) : C k b := by
  obtain ⟨_, x, h2, h3, _⟩ := h he
  obtain ⟨t, ht, h0⟩ := hc.has
  refine ⟨h.ne he hc.ne, ⟨t, ?_, h0⟩, ?_⟩
  · rw [h2] at ht
    rcases List.mem_append.1 ht with ht | ht
    · exact absurd h0 (h3 t ht)
    · exact ht
  · have := hc.len
    rw [h2, List.length_append] at this
    omega
theorem C.to (h : C k s) (hn : s.rest.length ≤ n) : C n s := ⟨h.ne, h.has, hn⟩
theorem err_of (h : Ok a b) (he : b.err = 0) : a.err = 0 := by
  by_cases h0 : a.err = 0
  · exact h0
  · have := h.err h0; rw [this] at he; exact absurd he h0
end
/-- What a reading function reads, where nothing is wrong. -/
def RdC {α : Type} (k : Nat) (f : St → St × α) (pl : α → List Pl) (q : α → Prop) : Prop := ∀ s, C k s → (f s).1.err = 0 → Eats s (f s).1 (pl (f s).2) ∧ q (f s).2
section
variable {α : Type} {k : Nat} {f : St → St × α} {pl : α → List Pl} {q : α → Prop}
theorem rdc_loop (hok : ∀ s, Ok s (f s).1) (h : RdC k f pl q) (c : List UInt8) : ∀ (n : Nat) (s : St) (out : List α), C k s → (loop c f n s out).1.err = 0 →
    ∃ new, (loop c f n s out).2 = out ++ new ∧ Eats s (loop c f n s out).1 (new.flatMap pl) ∧ ∀ x ∈ new, q x
  | 0, s, out, _, _ => ⟨[], by simp [loop], .refl s, fun x hx => absurd hx (by simp)⟩
  | n + 1, s, out, hc, he => by
    unfold loop at he ⊢
    split
    · rename_i hh
      rw [if_pos hh] at he
      have e1 := err_of (ok_loop c f hok n (f s).1 (out ++ [(f s).2])) he
      obtain ⟨h4, h5⟩ := h s hc e1
      obtain ⟨new, h1, h2, h3⟩ := rdc_loop hok h c n (f s).1 (out ++ [(f s).2]) (keepC h4 e1 hc) he
      refine ⟨(f s).2 :: new, by rw [h1]; simp, h4.trans h2, fun x hx => ?_⟩
      rcases List.mem_cons.1 hx with rfl | hx
      · exact h5
      · exact h3 x hx
    · exact ⟨[], by simp, .refl s, fun x hx => absurd hx (by simp)⟩
theorem rdc_loop1 (hok : ∀ s, Ok s (f s).1) (h : RdC k f pl q) (c : List UInt8) (n : Nat) : RdC k (loop1 c f n) (fun l => l.flatMap pl) (fun l => l ≠ [] ∧ ∀ x ∈ l, q x) := fun s hc he => by
  unfold loop1 at he ⊢
  have e1 := err_of (ok_loop c f hok n (f s).1 [(f s).2]) he
  obtain ⟨h4, h5⟩ := h s hc e1
  obtain ⟨new, h1, h2, h3⟩ := rdc_loop hok h c n (f s).1 [(f s).2] (keepC h4 e1 hc) he
  rw [h1]
  refine ⟨h4.trans h2, by simp, fun x hx => ?_⟩
  rcases List.mem_cons.1 hx with rfl | hx
  · exact h5
  · exact h3 x hx
theorem rdc_selsOf {f : St → St × Sel} (hok : ∀ s, Ok s (f s).1) (h : RdC k f Sel.pl (fun _ => True)) : RdC (k + 1) (selsOf f) (fun l => l.flatMap Sel.pl) (fun l => l ≠ []) := fun s hc he => by
  have e1 : (loop1 rbrc f ((down lbrc s).rest.length + 1) (down lbrc s)).1.err = 0 := err_of (ok_up rbrc _) he
  have e2 : (down lbrc s).err = 0 := err_of (ok_loop1 rbrc f hok _ _) e1
  have hd := eats_down (s := s) lbrc
  have hcd : C k (down lbrc s) := (keepC hd e2 hc).to (by
    rcases down_less lbrc s with h | h
    · exact absurd e2 h
    · have := hc.len; omega)
  obtain ⟨h4, h5, _⟩ := rdc_loop1 hok h rbrc ((down lbrc s).rest.length + 1) (down lbrc s) hcd e1
  exact ⟨Eats.then0 (Eats.trans (p := []) hd h4) (eats_up rbrc), h5⟩
end
theorem eats_dir (n : Nat) (s : St) (h : isS s sAt = true) : Eats s (dir (n + 1) s).1 (dir (n + 1) s).2.pl :=
  ((eats_sign h).sub (q := []) (List.nil_sublist _) |> fun _ => ((((eats_nextT (x := none) (by have := isS_parts h; omega) (fun y hy => by cases hy))).then0 (eats_name.sub (List.nil_sublist _))).then0 (((rds_args false n).eats _).sub (List.nil_sublist _))))
theorem eats_dirsGo (n : Nat) : ∀ (k : Nat) (s : St) (out : List Dir), ∃ new, (dirsGo (n + 1) k s out).2 = out ++ new ∧ Eats s (dirsGo (n + 1) k s out).1 (new.flatMap Dir.pl)
  | 0, s, out => ⟨[], by simp [dirsGo], .refl s⟩
  | k + 1, s, out => by
    unfold dirsGo
    split
    · rename_i hh
      obtain ⟨new, h1, h2⟩ := eats_dirsGo n k (dir (n + 1) s).1 (out ++ [(dir (n + 1) s).2])
      exact ⟨(dir (n + 1) s).2 :: new, by rw [h1]; simp, (eats_dir n s hh).trans h2⟩
    · exact ⟨[], by simp, .refl s⟩
theorem eats_dirs (n : Nat) (s : St) : Eats s (dirs (n + 1) s).1 ((dirs (n + 1) s).2.flatMap Dir.pl) := by
  obtain ⟨new, h1, h2⟩ := eats_dirsGo n (s.rest.length + 1) s []
  unfold dirs
  rw [h1]
  exact h2
theorem eats_aliasOf (s : St) : Eats s (aliasOf s).1 [((peek s).at_, none)] := by
  have h1 : Eats s (name s).1 [((peek s).at_, none)] := by
    unfold name
    split
    · rename_i h
      have := isN_parts h
      exact eats_nextT (by omega) (fun y hy => by cases hy)
    · exact eats_wrong
  unfold aliasOf
  split
  · exact h1.then0 (Eats.trans (p := []) (q := []) eats_next (eats_name.sub (List.nil_sublist _)))
  · exact h1
theorem rdc_field {k : Nat} {f : St → St × Sel} (hok : ∀ s, Ok s (f s).1) (h : RdC k f Sel.pl (fun _ => True)) (n : Nat) (s : St) (hc : C (k + 1) s) (he : (fieldOf f (n + 1) (peek s).at_ s).1.err = 0) :
    Eats s (fieldOf f (n + 1) (peek s).at_ s).1 (fieldOf f (n + 1) (peek s).at_ s).2.pl := by
  have h1 := eats_aliasOf s
  have h2 := (rds_args false n).eats (aliasOf s).1
  have h3 := eats_dirs n (args false (n + 1) (aliasOf s).1).1
  have e3 : (dirs (n + 1) (args false (n + 1) (aliasOf s).1).1).1.err = 0 := err_of (ok_setIf f hok _) he
  have h123 := (h1.trans (h2.trans h3))
  have hc3 := keepC h123 e3 hc
  have h4 : Eats (dirs (n + 1) (args false (n + 1) (aliasOf s).1).1).1 (setIf f (dirs (n + 1) (args false (n + 1) (aliasOf s).1).1).1).1 ((setIf f (dirs (n + 1) (args false (n + 1) (aliasOf s).1).1).1).2.flatMap Sel.pl) := by
    have he2 : (setIf f (dirs (n + 1) (args false (n + 1) (aliasOf s).1).1).1).1.err = 0 := he
    unfold setIf at he2 ⊢
    split
    · rename_i hh
      rw [if_pos hh] at he2
      exact (rdc_selsOf hok h _ hc3 he2).1
    · exact .refl _
  have := h1.trans (h2.trans (h3.trans h4))
  unfold fieldOf Sel.pl
  dsimp only
  rw [Sel.pls_map]
  exact this
theorem rdc_sel (n : Nat) : ∀ k : Nat, RdC k (sel (n + 1) k) Sel.pl (fun _ => True)
  | 0 => fun s hc _ => by
    obtain ⟨t, ht, _⟩ := hc.has
    have := hc.len
    have := List.length_pos_of_mem ht
    omega
  | k + 1 => fun s hc he => by
    refine ⟨?_, trivial⟩
    have hf := rdc_sel n k
    have hok := ok_sel (n + 1) k
    unfold sel selOf at he ⊢
    split
    · rename_i hs
      rw [if_pos hs] at he
      have h1 : Eats s (next s) [((peek s).at_, none)] := eats_nextT (by have := isS_parts hs; omega) (fun y hy => by cases hy)
      split
      · rename_i hw
        rw [if_pos hw] at he
        have h2 : Eats (next s) (name (next s)).1 [] := eats_name.sub (List.nil_sublist _)
        have h3 := eats_dirs n (name (next s)).1
        have := h1.trans (Eats.trans (p := []) h2 h3)
        unfold spreadOf Sel.pl
        dsimp only
        rw [Sel.pls_map, List.flatMap_nil, List.flatMap_nil, List.nil_append, List.append_nil]
        exact this
      · rename_i hw
        rw [if_neg hw] at he
        have h2 : Eats (next s) (onOf (next s)).1 [] := by
          unfold onOf
          split
          · exact Eats.trans (p := []) (q := []) eats_next (eats_name.sub (List.nil_sublist _))
          · exact .refl _
        have h3 := eats_dirs n (onOf (next s)).1
        have e3 : (dirs (n + 1) (onOf (next s)).1).1.err = 0 := err_of (ok_selsOf _ hok _) he
        have h4 := (rdc_selsOf hok hf (dirs (n + 1) (onOf (next s)).1).1 (keepC (h1.trans (Eats.trans (p := []) h2 h3)) e3 hc) he).1
        have := h1.trans (Eats.trans (p := []) h2 (h3.trans h4))
        unfold inlineOf Sel.pl
        dsimp only
        rw [Sel.pls_map, List.flatMap_nil, List.nil_append]
        exact this
    · rename_i hs
      rw [if_neg hs] at he
      exact rdc_field hok hf n s hc he
theorem rdc_sels (n k : Nat) : RdC (k + 1) (sels (n + 1) k) (fun l => l.flatMap Sel.pl) (fun l => l ≠ []) := rdc_selsOf (ok_sel (n + 1) k) (rdc_sel n k)
theorem eats_dflt (n : Nat) (s : St) : Eats s (dflt n s).1 [] := by
  unfold dflt
  split
  · exact Eats.trans (p := []) (q := []) eats_next (eats_value true n (next s)).2
  · exact .refl s
theorem eats_variable (n : Nat) (s : St) : Eats s (variable_ n s).1 (variable_ n s).2.pl :=
  ((((eats_wantS dollar (s := s)).then0 (eats_name.sub (List.nil_sublist _))).then0 (eats_want colon)).then0 (eats_type n _)).then0 (eats_dflt n _)
theorem eats_vars (n : Nat) (s : St) : Eats s (vars n s).1 ((vars n s).2.flatMap Vd.pl) := by
  unfold vars
  split
  · exact (Eats.trans (p := []) eats_next ((rds_loop1 (f := variable_ n) (pl := Vd.pl) (q := fun _ => True) ⟨fun s => eats_variable n s, fun _ _ _ => trivial⟩ rpar n).eats (next s))).then0 (eats_want rpar)
  · exact .refl s
theorem eats_nameIf (s : St) : Eats s (nameIf s).1 [] := by
  unfold nameIf
  split
  · exact eats_name.sub (List.nil_sublist _)
  · exact .refl s
structure Op.ok (x : Op) : Prop where
  k1 : 1 ≤ x.kind
  k3 : x.kind ≤ 3
  ne : x.sels ≠ []
structure Fr.ok (x : Fr) : Prop where
  name : x.name ≠ []
  on : x.on ≠ []
  ne : x.sels ≠ []
theorem kindOf_in {t : List UInt8} (h : t ∈ kinds) : 1 ≤ kindOf t ∧ kindOf t ≤ 3 := by
  simp only [kinds, List.mem_cons, List.not_mem_nil, or_false] at h
  rcases h with rfl | rfl | rfl <;> decide
theorem rd_op (n k : Nat) (s : St) (hc : C (n + 2) s) (hw : isS s lbrc = true ∨ isW s kinds = true) (he : (op (n + 1) s).1.err = 0) : Eats s (op (n + 1) s).1 (op (n + 1) s).2.pl ∧ (op (n + 1) s).2.ok := by
  by_cases hs : isS s lbrc = true
  · rw [op_set hs] at he ⊢
    -- the place is the brace's own: no token of it is told twice
    have hp := isS_parts hs
    have hlk := rdc_sel n (n + 1)
    have e1 : (loop1 rbrc (sel (n + 1) (n + 1)) ((down lbrc s).rest.length + 1) (down lbrc s)).1.err = 0 := err_of (ok_up rbrc _) he
    have e2 : (down lbrc s).err = 0 := err_of (ok_loop1 rbrc _ (ok_sel (n + 1) (n + 1)) _ _) e1
    have hd : Eats s (down lbrc s) [((peek s).at_, none)] := by
      unfold down
      dsimp only
      refine Eats.then0 (b := want lbrc (if isS s lbrc = true ∧ s.deep = 16 then fail 42 s else s)) ?_ (eats_deep _)
      split
      · have hb : (fail 42 s).err ≠ 0 := by unfold fail; rw [if_pos hp.1]; simp
        exact .bad (by rw [(ok_want lbrc _).err hb]; exact hb)
      · unfold want
        rw [if_pos hs]
        exact eats_nextT (by omega) (fun y hy => by cases hy)
    have hcd : C (n + 1) (down lbrc s) := (keepC hd e2 hc).to (by
      rcases down_less lbrc s with h | h
      · exact absurd e2 h
      · have := hc.len; omega)
    obtain ⟨h4, h5, _⟩ := rdc_loop1 (ok_sel (n + 1) (n + 1)) hlk rbrc ((down lbrc s).rest.length + 1) (down lbrc s) hcd e1
    refine ⟨?_, ⟨Nat.le_refl 1, show (1 : Nat) ≤ 3 by decide, h5⟩⟩
    have := hd.trans (h4.then0 (eats_up rbrc))
    unfold Op.pl
    dsimp only
    rw [List.flatMap_nil, List.flatMap_nil, List.nil_append, List.nil_append]
    exact this
  · have hw2 := hw.resolve_left hs
    have hp := isW_parts hw2
    rw [op_rest (by simpa using hs)] at he ⊢
    have h1 : Eats s (next s) [((peek s).at_, none)] := eats_nextT (by omega) (fun y hy => by cases hy)
    obtain ⟨m, hm⟩ : ∃ z, z = nameIf (next s) := ⟨_, rfl⟩
    obtain ⟨v, hv⟩ : ∃ z, z = vars (n + 1) m.1 := ⟨_, rfl⟩
    obtain ⟨d, hd⟩ : ∃ z, z = dirs (n + 1) v.1 := ⟨_, rfl⟩
    obtain ⟨z, hz⟩ : ∃ z, z = sels (n + 1) (n + 1) d.1 := ⟨_, rfl⟩
    have hop : opRest (n + 1) (kindOf (peek s).text) (peek s).at_ (next s) = (z.1, ⟨kindOf (peek s).text, m.2, v.2, d.2, z.2, (peek s).at_⟩) := by rw [hz, hd, hv, hm]; rfl
    rw [hop] at he ⊢
    have h2 : Eats (next s) m.1 [] := by rw [hm]; exact eats_nameIf (next s)
    have h3 : Eats m.1 v.1 (v.2.flatMap Vd.pl) := by rw [hv]; exact eats_vars (n + 1) m.1
    have h4 : Eats v.1 d.1 (d.2.flatMap Dir.pl) := by rw [hd]; exact eats_dirs n v.1
    have he : z.1.err = 0 := he
    have e4 : d.1.err = 0 := err_of (by rw [hz]; exact ok_sels (n + 1) (n + 1) d.1) he
    have hc4 := keepC (h1.trans (Eats.trans (p := []) h2 (h3.trans h4))) e4 hc
    have h56 := rdc_sels n (n + 1) d.1 hc4
    rw [← hz] at h56
    obtain ⟨h5, h6⟩ := h56 he
    have hk := kindOf_in (hp.2.2.resolve_right (by decide))
    exact ⟨h1.trans (Eats.trans (p := []) h2 (h3.trans (h4.trans h5))), ⟨hk.1, hk.2, h6⟩⟩
theorem rd_frag (n : Nat) (s : St) (hc : C (n + 2) s) (hw : isW s [sFrag] = true) (he : (frag (n + 1) s).1.err = 0) : Eats s (frag (n + 1) s).1 (frag (n + 1) s).2.pl ∧ (frag (n + 1) s).2.ok := by
  have hp := isW_parts hw
  have h1 : Eats s (next s) [((peek s).at_, none)] := eats_nextT (by omega) (fun y hy => by cases hy)
  obtain ⟨s1, hs1⟩ : ∃ z, z = next s := ⟨_, rfl⟩
  obtain ⟨b, hb⟩ : ∃ z, z = but s1 := ⟨_, rfl⟩
  obtain ⟨s2, hs2⟩ : ∃ z, z = (if isW b.1 [sOn] = true then b.1 else wrong b.1) := ⟨_, rfl⟩
  obtain ⟨o, ho⟩ : ∃ z, z = name (next s2) := ⟨_, rfl⟩
  obtain ⟨d, hd⟩ : ∃ z, z = dirs (n + 1) o.1 := ⟨_, rfl⟩
  have hfr : frag (n + 1) s = ((sels (n + 1) (n + 1) d.1).1, ⟨b.2, o.2, d.2, (sels (n + 1) (n + 1) d.1).2, (peek s).at_⟩) := by
    rw [hd, ho, hs2, hb, hs1]
    rfl
  rw [hfr] at he ⊢
  have e5 : d.1.err = 0 := err_of (ok_sels (n + 1) (n + 1) _) he
  have e4 : o.1.err = 0 := err_of (by rw [hd]; exact ok_dirs (n + 1) _) e5
  have e3 : (next s2).err = 0 := err_of (by rw [ho]; exact ok_name _) e4
  have e2 : s2.err = 0 := err_of (ok_next _) e3
  have hon : isW b.1 [sOn] = true := by
    by_cases hh : isW b.1 [sOn] = true
    · exact hh
    · rw [if_neg hh] at hs2
      rw [hs2] at e2
      exact absurd e2 wrong_bad
  rw [if_pos hon] at hs2
  subst hs2
  have hnot : ¬ isW s1 [sOn] = true := fun hh => by
    unfold but at hb
    rw [if_pos hh] at hb
    rw [hb, (ok_name (wrong s1)).err wrong_bad] at e2
    exact absurd e2 wrong_bad
  have hbn : b = name s1 := by unfold but at hb; rw [if_neg hnot] at hb; exact hb
  have h2 : Eats s1 b.1 [] := by rw [hbn]; exact eats_name.sub (List.nil_sublist _)
  rw [← hs1] at h1
  have h3 : Eats b.1 (next b.1) [] := eats_next
  have h4 : Eats (next b.1) o.1 [] := by rw [ho]; exact eats_name.sub (List.nil_sublist _)
  have h5 : Eats o.1 d.1 (d.2.flatMap Dir.pl) := by rw [hd]; exact eats_dirs n o.1
  have c1 := keepC h1 (h2.err e2) hc
  have hc5 := keepC (h1.trans (Eats.trans (p := []) h2 (Eats.trans (p := []) h3 (Eats.trans (p := []) h4 h5)))) e5 hc
  have c2 := keepC (h1.trans (Eats.trans (p := []) h2 h3)) e3 hc
  obtain ⟨h6, h7⟩ := rdc_sels n (n + 1) _ hc5 he
  refine ⟨h1.trans (Eats.trans (p := []) h2 (Eats.trans (p := []) h3 (Eats.trans (p := []) h4 (h5.trans h6)))), ⟨?_, ?_, h7⟩⟩
  · show b.2 ≠ []
    rw [hbn]
    exact name_ne c1.ne (by rw [← hbn]; exact e2)
  · show o.2 ≠ []
    rw [ho]
    exact name_ne c2.ne (by rw [← ho]; exact e4)
theorem rd_go (n : Nat) : ∀ (k : Nat) (ff : Bool) (s : St) (d : List Op × List Fr), C (n + 2) s → (go (n + 1) ff k s d).1.err = 0 →
    ∃ (no : List Op) (nf : List Fr), (go (n + 1) ff k s d).2 = (d.1 ++ no, d.2 ++ nf) ∧ Eats s (go (n + 1) ff k s d).1 (no.flatMap Op.pl) ∧ Eats s (go (n + 1) ff k s d).1 (nf.flatMap Fr.pl) ∧ (∀ x ∈ no, x.ok) ∧ (∀ x ∈ nf, x.ok) ∧ (k ≠ 0 → s.err = 0 → ff = true → no ≠ [] ∨ nf ≠ [])
  | 0, ff, s, d, _, _ => ⟨[], [], by simp [go], .refl s, .refl s, fun x hx => absurd hx (by simp), fun x hx => absurd hx (by simp), fun h => absurd rfl h⟩
  | k + 1, ff, s, d, hc, he => by
    unfold go at he ⊢
    split
    · rename_i hh
      rw [if_pos hh] at he
      have okgo : ∀ (k : Nat) (ff : Bool) (s : St) (d : List Op × List Fr), Ok s (go (n + 1) ff k s d).1 := by
        intro k
        induction k with
        | zero => intro ff s d; unfold go; exact Ok.refl s
        | succ k ih =>
          intro ff s d
          unfold go
          split
          · exact (ok_step (n + 1) s d).trans (ih _ _ _)
          · exact Ok.refl s
      have e1 := err_of (okgo k false _ _) he
      have hst : ∃ (xo : List Op) (xf : List Fr), (step (n + 1) s d).2 = (d.1 ++ xo, d.2 ++ xf) ∧ Eats s (step (n + 1) s d).1 (xo.flatMap Op.pl) ∧ Eats s (step (n + 1) s d).1 (xf.flatMap Fr.pl) ∧ (∀ x ∈ xo, x.ok) ∧ (∀ x ∈ xf, x.ok) ∧ (xo ≠ [] ∨ xf ≠ []) := by
        unfold step at e1 ⊢
        split
        · rename_i hw
          rw [if_pos hw] at e1
          obtain ⟨h1, h2⟩ := rd_frag n s hc hw e1
          exact ⟨[], [(frag (n + 1) s).2], by simp, h1.sub (List.nil_sublist _), by simpa using h1, fun x hx => absurd hx (by simp), fun x hx => by rw [List.mem_singleton.1 hx]; exact h2, .inr (by simp)⟩
        rename_i hw1
        rw [if_neg hw1] at e1
        split
        · rename_i hw
          rw [if_pos hw] at e1
          obtain ⟨h1, h2⟩ := rd_op n k s hc (by simpa using hw) e1
          exact ⟨[(op (n + 1) s).2], [], by simp, by simpa using h1, h1.sub (List.nil_sublist _), fun x hx => by rw [List.mem_singleton.1 hx]; exact h2, fun x hx => absurd hx (by simp), .inl (by simp)⟩
        · rename_i hw
          rw [if_neg hw] at e1
          exact absurd e1 wrong_bad
      obtain ⟨xo, xf, g1, g2, g3, g4, g5, g6⟩ := hst
      obtain ⟨no, nf, k1, k2, k3, k4, k5, -⟩ := rd_go n k false (step (n + 1) s d).1 (step (n + 1) s d).2 (keepC g2 e1 hc) he
      refine ⟨xo ++ no, xf ++ nf, by rw [k1, g1]; simp, by rw [List.flatMap_append]; exact g2.trans k2, by rw [List.flatMap_append]; exact g3.trans k3, fun x hx => ?_, fun x hx => ?_, fun _ _ _ => ?_⟩
      · rcases List.mem_append.1 hx with hx | hx
        · exact g4 x hx
        · exact k4 x hx
      · rcases List.mem_append.1 hx with hx | hx
        · exact g5 x hx
        · exact k5 x hx
      · rcases g6 with g6 | g6
        · exact .inl (by simp [g6])
        · exact .inr (by simp [g6])
    · rename_i hh
      exact ⟨[], [], by simp, .refl s, .refl s, fun x hx => absurd hx (by simp), fun x hx => absurd hx (by simp), fun _ h1 h2 => absurd ⟨h1, .inl h2⟩ hh⟩
/-- What is parsed without an error. -/
theorem parse_ok {s : ByteArray} (hstd : ∀ ts, Lx.lex s.data.toList = .ok ts → Std s ts) (he : (parse s.data.toList).1.err = 0) :
    ((parse s.data.toList).2.1 ≠ [] ∨ (parse s.data.toList).2.2 ≠ []) ∧ Rise s (-1) ((parse s.data.toList).2.1.flatMap Op.pl) ∧ Rise s (-1) ((parse s.data.toList).2.2.flatMap Fr.pl) ∧ (∀ x ∈ (parse s.data.toList).2.1, x.ok) ∧ ∀ x ∈ (parse s.data.toList).2.2, x.ok := by
  have hC : C ((begin_ s.data.toList).rest.length + 2) (begin_ s.data.toList) := by
    unfold begin_
    cases hl : Lx.lex s.data.toList with
    | ok ts =>
      obtain ⟨l, h1, h2⟩ := (hstd ts hl).chain
      refine ⟨fun t ht hk => ?_, ⟨⟨0, [], s.size⟩, by show _ ∈ ts; rw [h1]; simp, rfl⟩, by simp⟩
      have hm : t ∈ l := by
        have ht2 : t ∈ ts := ht
        rw [h1] at ht2
        rcases List.mem_append.1 ht2 with h | h
        · exact h
        · rw [List.mem_singleton.1 h] at hk; cases hk
      have : ∀ (l : List Lx.Tok) (p : Nat), Chain s p l s.size → t ∈ l → t.text ≠ [] := by
        intro l
        induction l with
        | nil => intro p _ h; cases h
        | cons x l ih =>
          intro p hc h
          rcases List.mem_cons.1 h with rfl | h
          · intro e
            have := hc.1.pos (by omega)
            rw [e] at this
            exact absurd this (by simp)
          · exact ih _ hc.2 h
      exact this l 0 h2 hm
    | err a c => exact ⟨fun t ht hk => by have := List.mem_singleton.1 ht; rw [this] at hk; exact absurd hk (by decide), ⟨⟨0, [], 0⟩, List.mem_singleton.2 rfl, rfl⟩, Nat.le_succ_of_le (Nat.le_succ _)⟩
  obtain ⟨s0, hs0⟩ : ∃ z, z = begin_ s.data.toList := ⟨_, rfl⟩
  have hpa : parse s.data.toList = go (s0.rest.length + 1) true (s0.rest.length + 2) s0 ([], []) := by rw [hs0]; rfl
  rw [← hs0] at hC
  rw [hpa] at he ⊢
  obtain ⟨no, nf, h1, h2, h3, h4, h5, h6⟩ := rd_go s0.rest.length (s0.rest.length + 2) true s0 ([], []) hC he
  rw [h1, List.nil_append, List.nil_append]
  obtain ⟨e0, pre, k1, k2, k3⟩ := h2 he
  obtain ⟨_, pre', l1, l2, l3⟩ := h3 he
  refine ⟨h6 (by omega) e0 rfl, ?_, ?_, h4, h5⟩
  all_goals
    cases hl : Lx.lex s.data.toList with
    | ok ts =>
      have hb : s0 = ⟨ts, 0, 0, 0⟩ := by rw [hs0]; unfold begin_; rw [hl]
      rw [hb] at k1 l1
      first
        | exact rise_all (hstd ts hl) k1 k2 k3
        | exact rise_all (hstd ts hl) l1 l2 l3
    | err a c =>
      exfalso
      have hb : s0 = ⟨[⟨0, [], 0⟩], 0, a, c⟩ := by rw [hs0]; unfold begin_; rw [hl]
      rw [hb] at k1 e0
      have hne : no = [] := by
        cases no with
        | nil => rfl
        | cons x r =>
          cases pre with
          | nil => unfold Op.pl at k3; exact k3.elim
          | cons t l =>
            have e : (⟨0, [], 0⟩ : Lx.Tok) = t := by
              have := congrArg (fun x => x[0]?) k1
              simpa using this
            exact absurd (by rw [← e]) (k2 t List.mem_cons_self)
      have hnf : nf = [] := by
        cases nf with
        | nil => rfl
        | cons x r =>
          rw [hb] at l1
          cases pre' with
          | nil => unfold Fr.pl at l3; exact l3.elim
          | cons t l =>
            have e : (⟨0, [], 0⟩ : Lx.Tok) = t := by
              have := congrArg (fun x => x[0]?) l1
              simpa using this
            exact absurd (by rw [← e]) (l2 t List.mem_cons_self)
      rcases h6 (by omega) (by rw [hb]; exact e0) rfl with h | h
      · exact h hne
      · exact h hnf
end Qr
end Go.Proofs.YtabcaljnpahgpaaDoor
