/-
  Frames: bytes that are read; the sum, walked.
-/
import Derived.Test.YtcimobbppmpmgaaDoorFr1
import Derived.OpenShut
namespace Go.Proofs.YtcimobbppmpmgaaDoor
set_option linter.unusedSimpArgs false
set_option linter.unusedVariables false
open Go Go.RowKit
open Go.Maps Go.WideMaps

/-- A slice of bytes, wherever it lies. -/
def Byts (w : World) (v : Value) (l : List UInt8) : Prop :=
  ∃ a cap, v = .slice a l.length cap ∧ l.length ≤ cap ∧ (a = none → cap = 0) ∧ ∀ (i : Nat) x, l[i]? = some x → ∃ b off, a = some ⟨b, off, none⟩ ∧ b < w.heap.size ∧ w.cell? ⟨b, off + i, none⟩ = some (.int .u8 x.toNat)
theorem Byts.form {w : World} {v : Value} {l : List UInt8} (h : Byts w v l) : ∃ a cap, v = .slice a l.length cap ∧ l.length ≤ cap := by
  obtain ⟨a, cap, h1, h2, _⟩ := h
  exact ⟨a, cap, h1, h2⟩
theorem Byts.form2 {w : World} {v : Value} {l : List UInt8} (h : Byts w v l) : ∃ a cap, v = .slice a l.length cap ∧ l.length ≤ cap ∧ (a = none → cap = 0) := by
  obtain ⟨a, cap, h1, h2, h3, _⟩ := h
  exact ⟨a, cap, h1, h2, h3⟩
theorem Byts.at {w : World} {a : Option Addr} {n cap : Nat} {l : List UInt8} (h : Byts w (.slice a n cap) l) {i : Nat} {x : UInt8} (hi : l[i]? = some x) :
    ∃ b off, a = some ⟨b, off, none⟩ ∧ b < w.heap.size ∧ w.cell? ⟨b, off + i, none⟩ = some (.int .u8 x.toNat) := by
  obtain ⟨a', cap', h1, _, _, h2⟩ := h
  obtain ⟨b, off, e, h3, h4⟩ := h2 i x hi
  simp only [Value.slice.injEq] at h1
  exact ⟨b, off, by rw [h1.1, e], h3, h4⟩
theorem Byts.keep {w w' : World} {v : Value} {l : List UInt8} (h : Byts w v l) (hs : w.heap.size ≤ w'.heap.size) (hk : ∀ k, k < w.heap.size → w'.heap[k]? = w.heap[k]?) : Byts w' v l := by
  obtain ⟨a, cap, h1, h2, hn, h3⟩ := h
  refine ⟨a, cap, h1, h2, hn, fun i x hi => ?_⟩
  obtain ⟨b, off, e, h4, h5⟩ := h3 i x hi
  exact ⟨b, off, e, Nat.lt_of_lt_of_le h4 hs, by rw [World.cell?_of_block (hk b h4)]; exact h5⟩
theorem Byts.below {w w' : World} {v : Value} {l : List UInt8} (h : Byts w v l) (hb : Below w.heap.size w w') : Byts w' v l := h.keep hb.size hb.block

/-- A slice of such. -/
def Prts (w : World) (v : Value) (ls : List (List UInt8)) : Prop :=
  ∃ a cap, v = .slice a ls.length cap ∧ ls.length ≤ cap ∧ ∀ (i : Nat) l, ls[i]? = some l → ∃ b off v', a = some ⟨b, off, none⟩ ∧ b < w.heap.size ∧ w.cell? ⟨b, off + i, none⟩ = some v' ∧ Byts w v' l
theorem Prts.form {w : World} {v : Value} {l : List (List UInt8)} (h : Prts w v l) : ∃ a cap, v = .slice a l.length cap := by
  obtain ⟨a, cap, h1, h2, _⟩ := h
  exact ⟨a, cap, h1⟩
theorem Prts.at {w : World} {a : Option Addr} {n cap : Nat} {ls : List (List UInt8)} (h : Prts w (.slice a n cap) ls) {i : Nat} {l : List UInt8} (hi : ls[i]? = some l) :
    ∃ b off v', a = some ⟨b, off, none⟩ ∧ b < w.heap.size ∧ w.cell? ⟨b, off + i, none⟩ = some v' ∧ Byts w v' l := by
  obtain ⟨a', cap', h1, _, h2⟩ := h
  obtain ⟨b, off, v', e, h3, h4, h5⟩ := h2 i l hi
  simp only [Value.slice.injEq] at h1
  exact ⟨b, off, v', by rw [h1.1, e], h3, h4, h5⟩
theorem Prts.keep {w w' : World} {v : Value} {l : List (List UInt8)} (h : Prts w v l) (hs : w.heap.size ≤ w'.heap.size) (hk : ∀ k, k < w.heap.size → w'.heap[k]? = w.heap[k]?) : Prts w' v l := by
  obtain ⟨a, cap, h1, h2, h3⟩ := h
  refine ⟨a, cap, h1, h2, fun i x hi => ?_⟩
  obtain ⟨b, off, v', e, h4, h5, h6⟩ := h3 i x hi
  exact ⟨b, off, v', e, Nat.lt_of_lt_of_le h4 hs, by rw [World.cell?_of_block (hk b h4)]; exact h5, h6.keep hs hk⟩
theorem Prts.below {w w' : World} {v : Value} {l : List (List UInt8)} (h : Prts w v l) (hb : Below w.heap.size w w') : Prts w' v l := h.keep hb.size hb.block

namespace Fr
def upd (c : Int) (x : UInt8) : Int := bits .xor .u32 (c / 256) (ent (bits .xor .u8 (c % 256) x.toNat))
def sum (l : List UInt8) : Int := bits .xor .u32 4294967295 (l.foldl upd 4294967295)
theorem tab_get (k : Nat) (hk : k < 256) : (Fr.tabCells 256)[k]? = some (.int .u32 (ent (k : Int))) := by
  simp [Fr.tabCells, hk]
end Fr
theorem bits_u8 (op : BinOp) (a b : Int) : ∃ k : Nat, k < 256 ∧ bits op .u8 a b = (k : Int) := by
  have h := wf_bits op .u8 a b
  have e1 : IntKind.u8.min = 0 := by decide
  have e2 : IntKind.u8.max = 255 := by decide
  simp [Lit.wf, e1, e2] at h
  exact ⟨(bits op .u8 a b).toNat, by omega, by omega⟩
theorem bits_u32 (op : BinOp) (a b : Int) : 0 ≤ bits op .u32 a b ∧ bits op .u32 a b < 4294967296 := by
  have h := wf_bits op .u32 a b
  have e1 : IntKind.u32.min = 0 := by decide
  have e2 : IntKind.u32.max = 4294967295 := by decide
  simp [Lit.wf, e1, e2] at h
  omega
theorem flat_take {α} (ls : List (List α)) (j : Nat) (l : List α) (h : ls[j]? = some l) : (ls.take (j + 1)).flatten = (ls.take j).flatten ++ l := by
  rw [List.take_add_one, h]
  simp

set_option maxHeartbeats 1000000 in
set_option maxRecDepth 100000 in
theorem sum_any (v : Value) (ls : List (List UInt8)) (w : World) (hV : Prts w v ls) (hl : ls.length ≤ 1000000000) (hs : ∀ l ∈ ls, l.length ≤ 1000000000) :
    Calls Tryd.prog 46 #[v] w fun e w' => e = .returned (.int .u32 (Fr.sum ls.flatten)) ∧ Below w.heap.size w w' := by
  obtain ⟨va, vc, rfl⟩ := hV.form
  have HV := Lib.hid hV
  clear hV
  go_enter Tryd.func46, Tryd.ntmps46
  go_wp2_with fail
  refine (table_any w).mono ?_
  rintro e w1 ⟨rfl, hb1⟩
  have hsz : ∀ j, (Fr.tabCells j).size = 256 := fun j => by simp [Fr.tabCells]
  have hz : (Tryd.zeroCells120).size = 256 := by rw [← tab_zero, hsz]
  have hall : (Fr.tabCells 256).all (·.oneCell') = true := by kernel_rfl
  have hi : (Tryd.prog.info? 120).map (·.size) = some (Fr.tabCells 256).size := by rw [hsz]; kernel_rfl
  go_wp2_with (first
        | refine wpList_store_row rfl _ _ _ rfl w1.heap.size (Fr.tabCells 256) rfl rfl 120 Tryd.zeroCells120 (heap_new w1 _) hi (by rw [hsz, hz]) hall ?_
        | fail)
  have hr : ((w1.alloc (.cells Tryd.zeroCells120 120)).setRow w1.heap.size (Fr.tabCells 256)).heap[w1.heap.size]? = some (.cells (Fr.tabCells 256) 120 (0, 0)) := setRow_heap _ w1.heap.size _ _ _ _ (heap_new w1 _)
  have hb2 : Below w.heap.size w ((w1.alloc (.cells Tryd.zeroCells120 120)).setRow w1.heap.size (Fr.tabCells 256)) :=
    (hb1.alloc hb1.size _).trans ⟨rfl, rfl, rfl, by simp, fun k hk => setRow_other _ w1.heap.size k _ (by have := hb1.size; omega)⟩
  generalize ((w1.alloc (.cells Tryd.zeroCells120 120)).setRow w1.heap.size (Fr.tabCells 256)) = w2 at hr hb2 ⊢
  have HR := Lib.hid hr
  have HV2 := Lib.hid (HV.out.below hb2)
  clear hsz hz hall hi hr
  go_loopg [4, 12] ls.length (fun k s4 s12 wr => ∃ j : Nat, ∃ c : Int, j ≤ ls.length ∧ k = ls.length - j ∧ s12 = .int .i64 (j : Nat) ∧ s4 = .int .u32 c ∧ c = (ls.take j).flatten.foldl Fr.upd 4294967295 ∧ wr = w2)
  case atStart => exact ⟨0, _, Nat.zero_le _, rfl, rfl, rfl, rfl, rfl⟩
  case round =>
    obtain ⟨j, c, hj, hk, rfl, rfl, hc, rfl⟩ := hrel
    have HK := Lib.hid hk
    have HC := Lib.hid hc
    clear hk hc
    have hj0 : (0 : Int) ≤ (j : Int) := Int.natCast_nonneg _
    by_cases hjn : j < ls.length
    · have hjn1 : (j : Int) < (ls.length : Int) := by omega
      obtain ⟨l, hlj⟩ : ∃ l, ls[j]? = some l := ⟨_, List.getElem?_eq_getElem hjn⟩
      have hll := hs l (List.mem_of_getElem? hlj)
      obtain ⟨g, o, lv, rfl, hg, hgc, hB⟩ := HV2.out.at hlj
      obtain ⟨la, lc, rfl, _⟩ := hB.form
      have HB := Lib.hid hB
      have HFT := Lib.hid (flat_take ls j l hlj)
      clear hB hlj
      go_wp2
      go_loopg [4, 18] l.length (fun k s4 s18 wq => ∃ a : Nat, ∃ c' : Int, a ≤ l.length ∧ k = l.length - a ∧ s18 = .int .i64 (a : Nat) ∧ s4 = .int .u32 c' ∧ c' = (l.take a).foldl Fr.upd c ∧ wq = wr)
      case atStart => exact ⟨0, _, Nat.zero_le _, rfl, rfl, rfl, rfl, rfl⟩
      case round =>
        obtain ⟨a, c', ha, hk, rfl, rfl, hc, rfl⟩ := hrel
        have HK2 := Lib.hid hk
        have HC2 := Lib.hid hc
        clear hk hc
        have ha0 : (0 : Int) ≤ (a : Int) := Int.natCast_nonneg _
        by_cases han : a < l.length
        · have han1 : (a : Int) < (l.length : Int) := by omega
          obtain ⟨x, hx⟩ : ∃ x, l[a]? = some x := ⟨_, List.getElem?_eq_getElem han⟩
          obtain ⟨g2, o2, rfl, hg2, hxc⟩ := HB.out.at hx
          obtain ⟨k, hk, hkx⟩ := bits_u8 .xor (c' % 256) x.toNat
          have ht : wr.cell? ⟨w1.heap.size, k, none⟩ = some (.int .u32 (Fr.ent (k : Int))) := root_cell HR.out k _ (Fr.tab_get k hk)
          have hk0 : (0 : Int) ≤ (k : Int) := Int.natCast_nonneg _
          have hk1 : (k : Int) < 256 := by omega
          have HT : Hid ((l.take (a + 1)).foldl Fr.upd c = Fr.upd c' x) := by
            refine Lib.hid ?_
            rw [List.take_add_one, hx, HC2.out]
            simp
          have HX : Hid (Fr.upd c' x = bits .xor .u32 (c' / 256) (Fr.ent (k : Int))) := by
            refine Lib.hid ?_
            unfold Fr.upd
            rw [hkx]
          clear hx
          go_wp2
          go_roundg (l.length - (a + 1))
          case measure => rw [HK2.out]; omega
          case rel => exact ⟨a + 1, _, by omega, rfl, by simp, rfl, by rw [HT.out, HX.out], rfl⟩
        · have han1 : (l.length : Int) ≤ (a : Int) := by omega
          have HE : Hid (l.take a = l) := Lib.hid (List.take_of_length_le (by omega))
          go_wp2
          go_roundg (ls.length - (j + 1))
          case measure => rw [HK.out]; omega
          case rel => exact ⟨j + 1, _, by omega, rfl, by simp, rfl, by rw [HFT.out, List.foldl_append, ← HC.out, HC2.out, HE.out], rfl⟩
    · have hjn1 : (ls.length : Int) ≤ (j : Int) := by omega
      have HE : Hid (ls.take j = ls) := Lib.hid (List.take_of_length_le (by omega))
      go_wp2
      go_ret
      exact ⟨by rw [HC.out, HE.out]; rfl, hb2⟩
end Go.Proofs.YtcimobbppmpmgaaDoor
