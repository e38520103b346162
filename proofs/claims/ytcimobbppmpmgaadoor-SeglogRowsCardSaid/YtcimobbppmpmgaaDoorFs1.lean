/-
  The file system in memory: its words (tags of blocks, what is kept), its maps.
-/
import Derived.Test.YtcimobbppmpmgaaDoorFs0
import Derived.Maps.OwnSet
import Derived.Maps.AppendAt
namespace Go.Proofs.YtcimobbppmpmgaaDoor
set_option linter.unusedSimpArgs false
set_option linter.unusedVariables false
open Go Go.RowKit
open Go.Maps

/-! ### A map from names to numbers -/
namespace Fs
abbrev Names := List (List UInt8 × Int)
def mins (x : List UInt8 × Int) : Names → Names
  | [] => [x]
  | y :: r => if (Lit.string x.1).before (.string y.1) then x :: y :: r else y :: mins x r
def mdel (l : Names) (k : List UInt8) : Names := l.filter fun p => !(p.1 == k)
def mput (l : Names) (k : List UInt8) (v : Int) : Names := mins (k, v) (mdel l k)
def mhas (l : Names) (k : List UInt8) : Bool := l.any fun p => p.1 == k
def mget (l : Names) (k : List UInt8) : Int := match l.find? (fun p => p.1 == k) with | some p => p.2 | none => 0
def ent (p : List UInt8 × Int) : Lit × DataW Unit := (.string p.1, .lit (.int .i64 p.2))
def datum (l : Names) : DataW Unit := .map (l.map ent)

theorem ins_ent (x : List UInt8 × Int) : ∀ l : Names, DataW.insert (ent x) (l.map ent) = (mins x l).map ent
  | [] => rfl
  | y :: r => by
    rw [List.map_cons]
    unfold DataW.insert mins
    by_cases h : (Lit.string x.1).before (.string y.1) = true
    · rw [if_pos h, if_pos (by exact h)]; rfl
    · rw [if_neg h, if_neg (by exact h), List.map_cons, ins_ent x r]
theorem same_str (a b : List UInt8) : (Lit.string a).sameKey (.string b) = (a == b) := rfl
theorem filter_ent (k : List UInt8) : ∀ l : Names, (l.map ent).filter (fun p => !p.1.sameKey (.string k)) = (mdel l k).map ent := by
  intro l
  unfold mdel
  rw [List.filter_map]
  rfl
theorem datum_del (l : Names) (k : List UInt8) : (datum l).del (.string k) = datum (mdel l k) := by
  unfold datum DataW.del
  simp only [filter_ent]
theorem datum_put (l : Names) (k : List UInt8) (v : Int) : (datum l).put (.string k) (.lit (.int .i64 v)) = datum (mput l k v) := by
  unfold datum DataW.put mput
  simp only [filter_ent]
  rw [show ((Lit.string k, DataW.lit (Lit.int .i64 v)) : Lit × DataW Unit) = ent (k, v) from rfl, ins_ent]
theorem datum_has (l : Names) (k : List UInt8) : Maps.has (datum l) (.string k) = mhas l k := by
  unfold datum mhas
  rw [Maps.has_eq, List.any_map]
  rfl
theorem datum_get (l : Names) (k : List UInt8) : (datum l).atKey (.string k) (.lit (.int .i64 0)) = .lit (.int .i64 (mget l k)) := by
  unfold datum DataW.atKey mget
  simp only [List.find?_map]
  have : ((fun p : Lit × DataW Unit => p.1.sameKey (.string k)) ∘ ent) = fun p => p.1 == k := rfl
  rw [this]
  cases l.find? (fun p => p.1 == k) <;> rfl
theorem datum_size (l : Names) : Maps.size (datum l) = l.length := by
  unfold datum
  rw [Maps.size_eq, List.length_map]
end Fs

theorem strKeyed : Keyed Tryd.prog 9 := string_keyed Tryd.underlying9
theorem zeroInt (w : World) : (zeroValue 3).run Tryd.prog w = .ok (.int .i64 0) w := by kernel_rfl
/-- A block that is a map of names. -/
def MapOf (w : World) (b : Nat) (l : Fs.Names) : Prop := w.ownsMap Tryd.prog 9 (plainElem Tryd.prog 3) b l.length (Fs.datum l)
theorem MapOf.of {w : World} {b n : Nat} {l : Fs.Names} (h : w.ownsMap Tryd.prog 9 (plainElem Tryd.prog 3) b n (Fs.datum l)) : MapOf w b l := by
  obtain ⟨es, clock, hb, F, hs, hD⟩ := h
  refine ⟨es, clock, hb, F, ?_, hD⟩
  have h1 := congrArg Maps.size hD
  rw [Fs.datum_size] at h1
  rw [h1]
  simp [Maps.size, length_sorted]
theorem MapOf.heap {w w' : World} {b : Nat} {l : Fs.Names} (h : MapOf w b l) (he : w'.heap[b]? = w.heap[b]?) : MapOf w' b l := by
  obtain ⟨es, clock, hb, r⟩ := h
  exact ⟨es, clock, by rw [he]; exact hb, r⟩
theorem MapOf.lt {w : World} {b : Nat} {l : Fs.Names} (h : MapOf w b l) : b < w.heap.size := World.ownsMap.lt h
theorem MapOf.nodup {w : World} {b : Nat} {l : Fs.Names} (h : MapOf w b l) : l.Pairwise (fun p q => p.1 ≠ q.1) := by
  obtain ⟨es, he, hp⟩ := World.ownsMap.tidy h strKeyed
  unfold Fs.datum at he
  simp only [DataW.map.injEq] at he
  subst he
  rw [List.pairwise_map] at hp
  exact hp.imp (fun {a b} h e => h (by simp [Fs.ent, e]))

/-! ### Tags -/
inductive Tag where
  | root | plan | files | file (i : Nat) | data (i : Nat) | dir | sure | chg | chgs | other
deriving DecidableEq

/-- w' is w but for blocks of these tags, and new ones. -/
structure Kept (own : Nat → Tag) (T : Tag → Prop) (w w' : World) : Prop where
  os : w'.os = w.os
  tape : w'.tape = w.tape
  output : w'.output = w.output
  size : w.heap.size ≤ w'.heap.size
  block : ∀ k, k < w.heap.size → ¬ T (own k) → w'.heap[k]? = w.heap[k]?
theorem Kept.refl (own : Nat → Tag) (T : Tag → Prop) (w : World) : Kept own T w w := ⟨rfl, rfl, rfl, Nat.le_refl _, fun _ _ _ => rfl⟩
theorem Kept.trans {own : Nat → Tag} {T : Tag → Prop} {a b c : World} (h : Kept own T a b) (k : Kept own T b c) : Kept own T a c :=
  ⟨k.os.trans h.os, k.tape.trans h.tape, k.output.trans h.output, Nat.le_trans h.size k.size, fun i hi ht => (k.block i (Nat.lt_of_lt_of_le hi h.size) ht).trans (h.block i hi ht)⟩
theorem Kept.mono {own : Nat → Tag} {T U : Tag → Prop} {w w' : World} (h : Kept own T w w') (hTU : ∀ t, T t → U t) : Kept own U w w' := ⟨h.os, h.tape, h.output, h.size, fun k hk hu => h.block k hk (fun ht => hu (hTU _ ht))⟩
theorem Kept.setCell {own : Nat → Tag} {T : Tag → Prop} {a w : World} (h : Kept own T a w) (p : Addr) (hp : T (own p.block)) (v : Value) : Kept own T a (w.setCell p v) :=
  ⟨h.os, h.tape, h.output, by simp [World.setCell]; exact h.size, fun k hk ht => by
    rw [Below.heap_setCell _ _ _ _ (fun e => ht (by rw [e]; exact hp))]; exact h.block k hk ht⟩
theorem Kept.alloc {own : Nat → Tag} {T : Tag → Prop} {a w : World} (h : Kept own T a w) (o : Obj) : Kept own T a (w.alloc o) :=
  ⟨h.os, h.tape, h.output, by have := h.size; simp; omega, fun k hk ht => by rw [Lib.alloc_old w o k (Nat.lt_of_lt_of_le hk h.size)]; exact h.block k hk ht⟩
theorem Kept.grown {own : Nat → Tag} {T : Tag → Prop} {a w w' : World} {r : Option Nat} (h : Kept own T a w) (hg : w.grownBy w' r) (hr : ∀ k, r = some k → T (own k) ∨ a.heap.size ≤ k) : Kept own T a w' :=
  ⟨hg.os.trans h.os, hg.tape.trans h.tape, hg.output.trans h.output, Nat.le_trans h.size hg.size, fun k hk ht => by
    rw [hg.block k (Nat.lt_of_lt_of_le hk h.size) (fun e => by rcases hr k e.symm with x | x <;> first | exact ht x | omega)]
    exact h.block k hk ht⟩
theorem Kept.below {own : Nat → Tag} {T : Tag → Prop} {a w w' : World} (h : Kept own T a w) (hb : Below w.heap.size w w') : Kept own T a w' :=
  ⟨hb.os.trans h.os, hb.tape.trans h.tape, hb.output.trans h.output, Nat.le_trans h.size hb.size, fun k hk ht => (hb.block k (Nat.lt_of_lt_of_le hk h.size)).trans (h.block k hk ht)⟩
theorem Kept.drewN {own : Nat → Tag} {T : Tag → Prop} {a w : World} (h : Kept own T a w) (n : Nat) : Kept own T a (w.drewN n) := ⟨h.os, h.tape, h.output, h.size, h.block⟩
/-- Another's tags, alike on what stood. -/
theorem Kept.tags {own own' : Nat → Tag} {T : Tag → Prop} {w w' : World} (h : Kept own T w w') (ho : ∀ k, k < w.heap.size → own' k = own k) : Kept own' T w w' :=
  ⟨h.os, h.tape, h.output, h.size, fun k hk ht => h.block k hk (by rw [← ho k hk]; exact ht)⟩

theorem Kept.tagsO {own own' : Nat → Tag} {T : Tag → Prop} {w w' : World} (h : Kept own T w w') (ho : ∀ k, k < w.heap.size → own k ≠ .other → own' k = own k) (hT : ¬ T .other) : Kept own' T w w' :=
  ⟨h.os, h.tape, h.output, h.size, fun k hk ht => by
    by_cases hx : own k = .other
    · exact h.block k hk (by rw [hx]; exact hT)
    · exact h.block k hk (by rw [← ho k hk hx]; exact ht)⟩
theorem heap_lt {w : World} {k : Nat} {o : Obj} (h : w.heap[k]? = some o) : k < w.heap.size := by
  rcases Nat.lt_or_ge k w.heap.size with h' | h'
  · exact h'
  · simp [Array.getElem?_eq_none h'] at h
theorem heap_set {w : World} {b k : Nat} {cs : Array Value} {t : TypeId} {fz : Nat × Nat} (h : w.heap[b]? = some (.cells cs t fz)) (v : Value) :
    (w.setCell ⟨b, k, none⟩ v).heap[b]? = some (.cells (cs.setIfInBounds k v) t fz) := by
  simp [World.setCell, Array.getElem?_modify, h]

/-- A row's block stands: the row stands. -/
theorem row_kept {w w' : World} {base : Nat} {t : TypeId} {k n : Nat} {v : Value} {cs : List Value} (h : w.ownsRow base t k v n cs) (he : ∀ g, v.ownBlock = some g → w'.heap[g]? = w.heap[g]?) : w'.ownsRow base t k v n cs := by
  refine ⟨h.1, ?_⟩
  rcases h.2 with h2 | ⟨g, cap, cur, hv, hg, hc, h3⟩
  · exact .inl h2
  · refine .inr ⟨g, cap, cur, hv, hg, ?_, h3⟩
    rw [he g (by rw [hv]; rfl)]
    exact hc
theorem row_block_lt {w : World} {base : Nat} {t : TypeId} {k n : Nat} {v : Value} {cs : List Value} (h : w.ownsRow base t k v n cs) (g : Nat) (hg : v.ownBlock = some g) : base ≤ g ∧ g < w.heap.size := World.ownsRow.lt h g hg
end Go.Proofs.YtcimobbppmpmgaaDoor
