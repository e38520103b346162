/-
  Frames: the table, walked.
-/
import Derived.Test.YtcimobbppmpmgaaDoorFs12
import Derived.Shelf.Spec.SlicesGrow
import Derived.Laws.BitsAllLaws
namespace Go.Proofs.YtcimobbppmpmgaaDoor
set_option linter.unusedSimpArgs false
set_option linter.unusedVariables false
open Go Go.RowKit
open Go.Maps Go.WideMaps
namespace Fr
def stp (c : Int) : Int := bits .xor .u32 (c / 2) (bits .and .u32 c 1 * 2197175160 % 4294967296)
def iter : Nat → Int → Int
  | 0, c => c
  | n + 1, c => stp (iter n c)
def ent (i : Int) : Int := iter 8 i
def tabCells (j : Nat) : Array Value := ((List.range 256).map fun i => Value.int .u32 (if i < j then ent i else 0)).toArray
end Fr
theorem Fr.tab_at (j k : Nat) (hk : k < 256) (hjk : j ≤ k) : (Fr.tabCells j)[k]? = some (.int .u32 0) := by
  simp [Fr.tabCells, hk, show ¬ k < j by omega]
theorem Fr.tab_set (j : Nat) (hj : j < 256) : (Fr.tabCells j).setIfInBounds j (.int .u32 (Fr.iter 8 j)) = Fr.tabCells (j + 1) := by
  apply Array.ext
  · simp [Fr.tabCells]
  · intro i h1 h2
    simp only [Fr.tabCells, List.size_toArray, List.length_map, List.length_range] at h2
    rw [Array.getElem_setIfInBounds]
    simp only [Fr.tabCells, List.getElem_toArray, List.getElem_map, List.getElem_range]
    by_cases h : j = i
    · subst h; simp [Fr.ent]
    · by_cases h3 : i < j
      · simp [h, h3, show i < j + 1 by omega]
      · simp [h, h3, show ¬ i < j + 1 by omega]
    · simpa [Fr.tabCells] using h2
theorem tab_zero : Fr.tabCells 0 = Tryd.zeroCells120 := by kernel_rfl
set_option maxHeartbeats 1000000 in
set_option maxRecDepth 100000 in
theorem table_any (w : World) : Calls Tryd.prog 61 #[] w fun e w' => e = .returned (.agg (Fr.tabCells 256)) ∧ Below w.heap.size w w' := by
  have s0 : ((w.alloc (.cells (Fr.tabCells 0) 120)).alloc (.cells (Fr.tabCells 0) 120)).heap[w.heap.size]? = some (.cells (Fr.tabCells 0) 120 (0, 0)) := by
    rw [show ((w.alloc (.cells (Fr.tabCells 0) 120)).alloc (.cells (Fr.tabCells 0) 120)).heap[w.heap.size]? = (w.alloc (.cells (Fr.tabCells 0) 120)).heap[w.heap.size]? from Below.heap_alloc _ _ _ (by simp)]
    exact heap_new _ _
  have s1 : ((w.alloc (.cells (Fr.tabCells 0) 120)).alloc (.cells (Fr.tabCells 0) 120)).heap[w.heap.size + 1]? = some (.cells (Fr.tabCells 0) 120 (0, 0)) := by
    have := heap_new (w.alloc (.cells (Fr.tabCells 0) 120)) (.cells (Fr.tabCells 0) 120)
    rw [show (w.alloc (.cells (Fr.tabCells 0) 120)).heap.size = w.heap.size + 1 by simp] at this
    exact this
  rw [tab_zero] at s0 s1
  have hb : Below w.heap.size w ((w.alloc (.cells Tryd.zeroCells120 120)).alloc (.cells Tryd.zeroCells120 120)) := ((Below.refl _ _).alloc (Nat.le_refl _) _).alloc (by simp) _
  have S0 := Lib.hid s0
  have S1 := Lib.hid s1
  clear s0 s1
  go_enter Tryd.func61, Tryd.ntmps61
  go_wp2
  go_loopg [4] 256 (fun k s4 wr => ∃ j : Nat, j ≤ 256 ∧ k = 256 - j ∧ s4 = .int .i64 (j : Nat) ∧ wr.heap[w.heap.size]? = some (.cells (Fr.tabCells 0) 120 (0, 0)) ∧ wr.heap[w.heap.size + 1]? = some (.cells (Fr.tabCells j) 120 (0, 0)) ∧ Below w.heap.size w wr)
  case atStart => exact ⟨0, by omega, rfl, rfl, by rw [tab_zero]; exact S0.out, by rw [tab_zero]; exact S1.out, hb⟩
  case round =>
    obtain ⟨j, hj, hk, rfl, h0, h1, hB⟩ := hrel
    have HK := Lib.hid hk
    have H0 := Lib.hid h0
    have H1 := Lib.hid h1
    clear hk h0 h1 hb
    have hj0 : (0 : Int) ≤ (j : Int) := Int.natCast_nonneg _
    by_cases hjn : j < 256
    · have hjn1 : (j : Int) < 256 := by omega
      have c0 : wr.cell? ⟨w.heap.size + 1, j, none⟩ = some (.int .u32 0) := root_cell H1.out j _ (Fr.tab_at j j hjn (Nat.le_refl _))
      have c1 := root_frozen H1.out j
      go_wp2
      go_loopg [3, 9] 8 (fun k s3 s9 wq => ∃ (a : Nat) (c : Int), a ≤ 8 ∧ k = 8 - a ∧ s9 = .int .i64 (a : Nat) ∧ s3 = .int .u32 c ∧ c = Fr.iter a j ∧ wq = wr)
      case atStart => exact ⟨0, _, by omega, rfl, rfl, rfl, rfl, rfl⟩
      case round =>
        obtain ⟨a, c, ha, hk, rfl, rfl, hc, rfl⟩ := hrel
        have HC := Lib.hid hc
        clear hc
        have HK2 := Lib.hid hk
        clear hk
        have ha0 : (0 : Int) ≤ (a : Int) := Int.natCast_nonneg _
        by_cases han : a < 8
        · have han1 : (a : Int) < 8 := by omega
          go_wp2
          go_roundg (8 - (a + 1))
          case measure => rw [HK2.out]; omega
          case rel => 
            exact ⟨a + 1, _, by omega, rfl, by simp, rfl, by rw [HC.out]; rfl, rfl⟩
        · have han1 : (8 : Int) ≤ (a : Int) := by omega
          obtain rfl : a = 8 := by omega
          go_wp2
          go_roundg (256 - (j + 1))
          case measure => rw [HK.out]; omega
          case rel =>
            refine ⟨j + 1, by omega, rfl, by simp, ?_, ?_, hB.setCell (p := ⟨w.heap.size + 1, j, none⟩) (Nat.le_succ _) _⟩
            · rw [Below.heap_setCell _ _ _ _ (by show w.heap.size ≠ w.heap.size + 1; omega)]
              exact H0.out
            · rw [← Fr.tab_set j hjn, ← HC.out]
              exact heap_set H1.out _
    · have hjn1 : (256 : Int) ≤ (j : Int) := by omega
      obtain rfl : j = 256 := by omega
      have hsz : ∀ j, (Fr.tabCells j).size = 256 := fun j => by simp [Fr.tabCells]
      have hall : (Fr.tabCells 256).all (·.oneCell') = true := by kernel_rfl
      have hi : (Tryd.prog.info? 120).map (·.size) = some (Fr.tabCells 256).size := by rw [hsz]; kernel_rfl
      go_wp2_with (first
        | refine wpList_load_row rfl _ _ rfl (w.heap.size + 1) rfl 120 (Fr.tabCells 256) (0, 0) _ H1.out Tryd.underlying120 rfl hi ?_
        | refine wpList_store_row rfl _ _ _ rfl w.heap.size (Fr.tabCells 256) rfl rfl 120 (Fr.tabCells 0) H0.out hi (by rw [hsz, hsz]) hall ?_
        | fail)
      have hr : (wr.setRow w.heap.size (Fr.tabCells 256)).heap[w.heap.size]? = some (.cells (Fr.tabCells 256) 120 (0, 0)) := setRow_heap wr w.heap.size (Fr.tabCells 0) _ _ _ H0.out
      refine bodyPost_ret (v := .agg (Fr.tabCells 256)) (results_cell_row Tryd.results61 _ _ w.heap.size 120 (Fr.tabCells 256) (0, 0) _ rfl hr Tryd.underlying120 rfl hi) rfl ?_
      exact ⟨rfl, hB.trans ⟨rfl, rfl, rfl, by simp, fun k hk => setRow_other wr w.heap.size k _ (by omega)⟩⟩
end Go.Proofs.YtcimobbppmpmgaaDoor
