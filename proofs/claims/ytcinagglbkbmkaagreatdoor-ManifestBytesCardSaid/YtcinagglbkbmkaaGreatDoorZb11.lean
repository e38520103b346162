/-
  Manifests: Encode, walked. The file system: List, by the library's contracts on sorted keys. Manifests: steps one behind the other ('first'), walked. Manifests: Save, walked.
-/
import Derived.Test.YtcinagglbkbmkaaGreatDoorZb9
import Derived.Laws.IdiomStrings
import Derived.Shelf.SlIter.Nil
import Derived.Shelf.SortM.Plain
import Derived.Shelf.SortM.SortNone
import Derived.Sort.KeysCollected
import Derived.Test.YtcinagglbkbmkaaGreatDoorZb10
import Derived.Lib.SlicesS
namespace Go.Proofs.YtcinagglbkbmkaaGreatDoor
set_option linter.unusedSimpArgs false
set_option linter.unusedVariables false
open Go Go.RowKit
open Go.Maps Go.WideMaps

theorem Byts.keep1 {w w' : World} {a : Option Addr} {n c : Nat} {l : List UInt8} (h : Byts w (.slice a n c) l) (hs : w.heap.size ≤ w'.heap.size) (hk : ∀ b, a = some b → b.block < w.heap.size → w'.heap[b.block]? = w.heap[b.block]?) : Byts w' (.slice a n c) l := by
  obtain ⟨a', cap, h1, h2, hn, h3⟩ := h
  simp only [Value.slice.injEq] at h1
  obtain ⟨rfl, h1b, rfl⟩ := h1
  refine ⟨a, c, by rw [h1b], h2, hn, fun i x hi => ?_⟩
  obtain ⟨b, off, e, h4, h5⟩ := h3 i x hi
  have hb : w'.heap[b]? = w.heap[b]? := hk ⟨b, off, none⟩ e h4
  exact ⟨b, off, e, Nat.lt_of_lt_of_le h4 hs, by rw [World.cell?_of_block hb]; exact h5⟩
/-- Parts in memory of the call's own. -/
structure PO (w : World) (base : Nat) (v : Value) (ps : List (List UInt8 × Value)) : Prop where
  row : w.ownsRow base 25 1 v ps.length (ps.map (·.2))
  pay : ∀ p ∈ ps, Byts w p.2 p.1 ∧ ∃ g n c, p.2 = .slice (some ⟨g, 0, none⟩) n c ∧ g < w.heap.size ∧ v.ownBlock ≠ some g
theorem PO.nil (w : World) (base : Nat) : PO w base (.slice none 0 0) [] := ⟨World.ownsRow_nil _ _ _ _, fun p h => by simp at h⟩
theorem PO.keep {w w' : World} {base : Nat} {v : Value} {ps : List (List UInt8 × Value)} (h : PO w base v ps) (hb : Below w.heap.size w w') : PO w' base v ps :=
  ⟨row_kept h.row (fun g hg => hb.block g (h.row.lt g hg).2), fun p hp => by
    obtain ⟨h1, g, n, c, h2, h3, h4⟩ := h.pay p hp
    exact ⟨h1.below hb, g, n, c, h2, Nat.lt_of_lt_of_le h3 hb.size, h4⟩⟩
theorem PO.more {w w5 : World} {base : Nat} {v v' : Value} {ps : List (List UInt8 × Value)} {l : List UInt8} {g n c : Nat} (h : PO w base v ps) (hx : Byts w (.slice (some ⟨g, 0, none⟩) n c) l) (hg : g < w.heap.size) (hne : v.ownBlock ≠ some g)
    (hrow : w5.ownsRow base 25 1 v' (ps.length + 1) (ps.map (·.2) ++ [.slice (some ⟨g, 0, none⟩) n c])) (hgr : w.grownBy w5 v.ownBlock) (hloc : v'.ownBlock = v.ownBlock ∨ v'.ownBlock = some w.heap.size) :
    PO w5 base v' (ps ++ [(l, .slice (some ⟨g, 0, none⟩) n c)]) := by
  have hk : ∀ (y : Value) (l : List UInt8), Byts w y l → (∃ g n c, y = .slice (some ⟨g, 0, none⟩) n c ∧ g < w.heap.size ∧ v.ownBlock ≠ some g) → Byts w5 y l ∧ ∃ g n c, y = .slice (some ⟨g, 0, none⟩) n c ∧ g < w5.heap.size ∧ v'.ownBlock ≠ some g := by
    rintro y l hy ⟨g, n, c, rfl, h3, h4⟩
    refine ⟨hy.keep1 hgr.size (fun b e hb => ?_), g, n, c, rfl, Nat.lt_of_lt_of_le h3 hgr.size, ?_⟩
    · simp at e; subst e
      exact hgr.block g h3 (fun e => h4 e.symm)
    · rcases hloc with e | e
      · rw [e]; exact h4
      · rw [e]; intro e2; simp at e2; omega
  refine ⟨?_, fun p hp => ?_⟩
  · rw [List.length_append, List.map_append]
    exact hrow
  · rcases List.mem_append.1 hp with hp | hp
    · exact hk p.2 p.1 (h.pay p hp).1 (h.pay p hp).2
    · simp at hp; subst hp; exact hk _ l hx ⟨g, n, c, rfl, hg, hne⟩
theorem PO.prts {w : World} {base : Nat} {v : Value} {ps : List (List UInt8 × Value)} (h : PO w base v ps) : Prts w v (ps.map (·.1)) := by
  rcases h.row.2 with ⟨h1, h2⟩ | ⟨g, cap, cur, h1, h2, h3, h4, h5⟩
  · exact ⟨none, 0, by rw [h1, List.length_map, h2], by rw [List.length_map]; omega, fun i x hx => by
      have := (List.getElem?_eq_some_iff.1 hx).1
      rw [List.length_map] at this
      omega⟩
  · refine ⟨some ⟨g, 0, none⟩, cap, by rw [h1, List.length_map], by rw [List.length_map]; exact h4, fun i x hx => ?_⟩
    rw [List.getElem?_map] at hx
    cases hp : ps[i]? with
    | none => rw [hp] at hx; cases hx
    | some p =>
      rw [hp] at hx
      simp at hx; subst hx
      have hc := World.ownsRow.cells h.row (g := g) (by rw [h1]; rfl) i p.2 (by rw [List.getElem?_map, hp]; rfl)
      rw [addr_add] at hc
      exact ⟨g, 0, p.2, rfl, heap_lt h3, by rw [Nat.zero_add]; exact hc, (h.pay p (List.mem_of_getElem? hp)).1⟩
/-- Numbers of the call's own. -/
def i64Cells (l : List Int) : List Value := l.map fun x => .int .i64 x
def OwnI (w : World) (base : Nat) (v : Value) (l : List Int) : Prop := w.ownsRow base 3 1 v l.length (i64Cells l)
theorem infoI : (Tryz.prog.info? 3).map (fun i => (i.zero, i.size, i.bytes)) = some (some (.int .i64 0), 1, 8) := by kernel_rfl
theorem i64Cells_one (l : List Int) : ∀ u ∈ i64Cells l, u.oneCell' = true := fun u hu => by
  obtain ⟨x, _, rfl⟩ := List.mem_map.1 hu
  rfl
theorem OwnI.nums {w : World} {base : Nat} {v : Value} {l : List Int} (h : OwnI w base v l) : Nums w v l := by
  have hcs := fun g hg => World.ownsRow.cells (g := g) h hg
  rcases h.2 with ⟨h1, h2⟩ | ⟨g, cap, cur, h1, hg, hb, hc, hm, _, _⟩
  · exact ⟨none, 0, by rw [h1, h2], fun i x hx => by
      have := (List.getElem?_eq_some_iff.1 hx).1
      omega⟩
  · refine ⟨some ⟨g, 0, none⟩, cap, h1, fun i x hx => ⟨g, 0, rfl, heap_lt hb, ?_⟩⟩
    have := hcs g (by rw [h1]; rfl) i (.int .i64 x) (by simp [i64Cells, hx])
    rw [addr_add] at this
    rw [Nat.zero_add]
    exact this
theorem OwnI.keep {w w' : World} {base : Nat} {v : Value} {l : List Int} (h : OwnI w base v l) (hb : Below w.heap.size w w') : OwnI w' base v l :=
  row_kept h (fun g hg => hb.block g (h.lt g hg).2)
theorem OwnI.one (w : World) (x : Int) (base : Nat) (hb : base ≤ w.heap.size) : OwnI (w.alloc (.cells #[.int .i64 x] 3)) base (.slice (some ⟨w.heap.size, 0, none⟩) 1 1) [x] :=
  World.ownsRow_lit (base := base) (e := 3) (size := 1) w #[.int .i64 x] 1 hb (by unfold maxLen; omega) rfl
/-- Appending numbers, wherever they lie, onto numbers of one's own. -/
theorem wpList_append_nums {ops : Array Oper} {rest : List Oper} {o : Oper} {a : Act} {w : World} {Q : Exit → Act → World → Prop} (hgd : o.guard = none) (s x : Operand)
    (ho : o.op = .call { callee := .builtin .append, args := #[s, x], argTypes := #[22, 22] })
    (base : Nat) (v : Value) (l : List Int) (hs : a.eval s = v) (hown : OwnI w base v l) (xv : Value) (news : List Int) (hx : a.eval x = xv) (hB : Nums w xv news)
    (hne : 0 < news.length) (h63 : l.length + news.length ≤ 2000000000) (hbase : base ≤ w.heap.size)
    (h : ∀ v' w', OwnI w' base v' (l ++ news) → w.grownBy w' v.ownBlock → (v'.ownBlock = v.ownBlock ∨ v'.ownBlock = some w.heap.size) → wpList Tryz.prog ops Q rest (a.put o.dst v') w') :
    wpList Tryz.prog ops Q (o :: rest) a w := by
  obtain ⟨i0, hi, hz0, hz1, hz2⟩ := info_parts infoI
  obtain ⟨xa, xc, rfl⟩ := hB.form
  have hcells : i64Cells (l ++ news) = i64Cells l ++ i64Cells news := by simp [i64Cells]
  cases xa with
  | none =>
    obtain ⟨y, hy⟩ : ∃ y, news[0]? = some y := ⟨_, List.getElem?_eq_getElem hne⟩
    obtain ⟨_, _, e, _⟩ := hB.at hy
    cases e
  | some ad =>
    refine wpList_append_own_at w hgd s x _ ho base 3 i0 (.int .i64 0) 1 8 Tryz.underlying22 hi hz0 hz1 hz2 rfl (by decide) v l.length (i64Cells l) hs hown ad news.length xc (i64Cells news) hx (by simp [i64Cells]) ?_ (i64Cells_one news) (by unfold maxLen; omega) (by omega) hbase ?_
    · intro j u hj
      unfold i64Cells at hj
      rw [List.getElem?_map] at hj
      cases hx2 : news[j]? with
      | none => rw [hx2] at hj; cases hj
      | some y =>
        rw [hx2] at hj
        simp at hj
        obtain ⟨b, off, e1, e2, e3⟩ := hB.at hx2
        cases e1
        rw [addrAdd, ← hj]
        exact e3
    · intro v' w' h1 h2 _ h4
      exact h v' w' (by unfold OwnI; rw [List.length_append, hcells]; exact h1) h2 h4
theorem OwnI.form3 {w : World} {base : Nat} {v : Value} {l : List Int} (h : OwnI w base v l) : ∃ a n c, v = .slice a n c ∧ Hid (n = l.length) := by
  obtain ⟨a, c, e⟩ := row_any h
  exact ⟨a, _, c, e, Lib.hid rfl⟩
theorem infoBB : (Tryz.prog.info? 25).map (fun i => (i.zero, i.size, i.bytes)) = some (some (.slice none 0 0), 1, 24) := by kernel_rfl
/-- The bytes of a text that was turned to bytes. -/
theorem byts_of_str (w : World) (s : ByteArray) (cap : Nat) (hc : s.size ≤ cap) (fz : Nat × Nat) : Byts (w.drew.alloc (.cells (bytesRow s cap) 5 fz)) (.slice (some ⟨w.heap.size, 0, none⟩) s.size cap) s.data.toList := by
  have hl : s.data.toList.length = s.size := by simp
  refine ⟨some ⟨w.heap.size, 0, none⟩, cap, by rw [hl], by rw [hl]; exact hc, (fun e => by cases e), fun i x hi => ⟨w.heap.size, 0, rfl, ?_, ?_⟩⟩
  · show w.heap.size < (w.drew.alloc _).heap.size
    simp
  · have hn : (w.drew.alloc (.cells (bytesRow s cap) 5 fz)).heap[w.heap.size]? = some (.cells (bytesRow s cap) 5 fz) := heap_new w.drew _
    rw [Nat.zero_add, cell_of_row _ _ _ _ _ _ hn]
    have hi2 := (List.getElem?_eq_some_iff.1 hi).1
    unfold bytesRow
    rw [Array.getElem?_append_left (by simpa using hi2)]
    rw [Array.getElem?_map]
    have : s.data[i]? = some x := by rw [← Array.getElem?_toList]; exact hi
    rw [this]; rfl
theorem cell_one_dr (w : World) (o : Obj) (t : TypeId) (v : Value) : ∀ j u, [v][j]? = some u → (((w.alloc o).alloc (.cells #[v] t)).drew).cell? ((⟨w.heap.size + 1, 0, none⟩ : Addr).add j) = some u := by
  intro j u hj
  have e : (w.alloc o).heap.size = w.heap.size + 1 := by simp
  rw [addr_add, ← e]
  exact cell_new (w.alloc o) #[v] t j u (by simpa using hj)
theorem below_dr (w : World) (o p : Obj) : Below w.heap.size w ((w.alloc o).alloc p).drew := Below.drew (((Below.refl _ _).alloc (Nat.le_refl _) _).alloc (by simp) _)
theorem byts_dr {w : World} {o : Obj} {v : Value} {l : List UInt8} (h : Byts (w.drew.alloc o) v l) (p : Obj) : Byts (((w.alloc o).alloc p).drew) v l :=
  h.keep (by simp) (fun k hk => by
    show ((w.alloc o).alloc p).heap[k]? = (w.alloc o).heap[k]?
    exact Lib.alloc_old _ _ _ hk)
theorem po_ne {w : World} {base : Nat} {v : Value} {ps : List (List UInt8 × Value)} (h : PO w base v ps) : v.ownBlock ≠ some w.heap.size := fun e => by
  have := (h.row.lt _ e).2
  omega
/-- What 'Encode' leaves. -/
def MEncPost (v : Int) (l : List Int) (w : World) (e : Ending) (w' : World) : Prop :=
  Below w.heap.size w w' ∧ ((Mf.good v l = true ∧ ∃ b, e = .returned (.tuple #[b, .int .i64 0]) ∧ OwnB w' w.heap.size b (Mf.enc v l)) ∨
    (Mf.good v l = false ∧ e = .returned (.tuple #[.slice none 0 0, .int .i64 1])))
theorem Mf.pay_take {ns : List Int} {j : Nat} {x : Int} (h : ns[j]? = some x) : Mf.pay (ns.take (j + 1)) = Mf.pay (ns.take j) ++ (Lib.itoa x ++ [10]) := by
  unfold Mf.pay
  rw [List.take_add_one, h, List.flatMap_append]
  simp
set_option maxHeartbeats 1000000 in
set_option maxRecDepth 100000 in
theorem mencode_any (ver : Int) (sv : Value) (l : List Int) (w : World) (B : Nat) (hE : SgEnv B w) (hBw : B ≤ w.heap.size) (hS : Nums w sv l) (hl : l.length ≤ 1000000000) :
    Calls Tryz.prog 14 #[.agg #[.int .i64 ver, sv]] w (MEncPost ver l w) := by
  obtain ⟨sa, sc, rfl⟩ := hS.form
  have hb : Below w.heap.size w (w.alloc (.cells #[.int .i64 ver, .slice sa l.length sc] 24)) := (Below.refl _ _).alloc (Nat.le_refl _) _
  have hr := heap_new w (.cells #[.int .i64 ver, .slice sa l.length sc] 24)
  have y0 := root_cell hr 0 _ rfl
  have y1 := root_cell hr 1 _ rfl
  have HS := Lib.hid hS
  have HE := Lib.hid hE
  have HBw : B ≤ w.heap.size := hBw
  have HB := Lib.hid hb
  have HR := Lib.hid hr
  clear hS hr hb hE
  go_enter Tryz.func14, Tryz.ntmps14
  go_wp2_with fail
  refine (check_any ver _ l _ (HS.out.below HB.out) hl).mono ?_
  rintro e w1 ⟨rfl, hb1⟩
  have HB1 := Lib.hid (HB.out.trans (hb1.mono HB.out.size))
  have hr1 : w1.heap[w.heap.size]? = some (.cells #[.int .i64 ver, .slice sa l.length sc] 24 (0, 0)) := by rw [hb1.block _ (heap_lt HR.out)]; exact HR.out
  have z0 : w1.cell? ⟨w.heap.size, 0, none⟩ = some (.int .i64 ver) := root_cell hr1 0 _ rfl
  have hrO : (w1.alloc (.cells #[.int .i64 ver] 3)).heap[w.heap.size]? = some (.cells #[.int .i64 ver, .slice sa l.length sc] 24 (0, 0)) := by rw [Lib.alloc_old _ _ _ (heap_lt hr1)]; exact hr1
  have z1 : (w1.alloc (.cells #[.int .i64 ver] 3)).cell? ⟨w.heap.size, 1, none⟩ = some (.slice sa l.length sc) := root_cell hrO 1 _ rfl
  have hsz1 := hb1.size
  clear hb1 hr1 hrO y0 y1
  cases hg : Mf.good ver l
  · have hc : Mf.chk ver l = 1 := by unfold Mf.chk; rw [hg]; rfl
    rw [hc]
    have HG := Lib.hid hg
    clear hg hc
    go_wp2_with fail
    refine bodyPost_ret (v := .tuple #[.slice none 0 0, .int .i64 1]) (by simp [results, Tryz.results14, go_sem]) rfl ?_
    exact ⟨HB1.out, .inr ⟨HG.out, rfl⟩⟩
  · have hc : Mf.chk ver l = 0 := by unfold Mf.chk; rw [hg]; rfl
    rw [hc]
    have HG := Lib.hid hg
    have hlen := (Mf.good_out hg).2.1
    clear hg hc
    have hbO := (HB1.out).alloc HB1.out.size (.cells #[.int .i64 ver] 3)
    have HBO := Lib.hid hbO
    have HOI := Lib.hid (OwnI.one w1 ver w.heap.size HB1.out.size)
    have HN1 := Lib.hid (HS.out.below hbO)
    clear hbO
    go_wp2_with (first | (at_builtin; refine wpList_append_nums rfl _ _ rfl w.heap.size (.slice (some ⟨w1.heap.size, 0, none⟩) 1 1) _ rfl HOI.out _ l rfl HN1.out hlen.1 (by simp; omega) HBO.out.size ?_; intro d' w2 hown hgrow hloc; obtain ⟨da, dn, dc, hd', HDN⟩ := OwnI.form3 hown; subst hd'; have HOWN := Lib.hid hown; have HGR := Lib.hid hgrow; clear hown hgrow hloc) | fail)
    have HB2 := Lib.hid (below_grown HBO.out HBO.out.size HOI.out HGR.out)
    have HNS := Lib.hid HOWN.out.nums
    have hns : Hid (([ver] ++ l : List Int).length = dn) := Lib.hid HDN.out.symm
    have hdn : dn ≤ 33 := by rw [HDN.out]; simp; omega
    have HAL := Lib.hid (Mf.good_all HG.out)
    have hE2 := Lib.hid (HE.out.below (HB2.out.mono HBw))
    clear z0 z1
    go_loopg [5, 20] dn (fun k s5 s20 wr => ∃ (j : Nat) (ps : List (List UInt8 × Value)), j ≤ dn ∧ k = dn - j ∧ s20 = .int .i64 (j : Nat) ∧ PO wr w2.heap.size s5 ps ∧ (ps.map (·.1)).flatten = Mf.pay (([ver] ++ l).take j) ∧ ps.length = j ∧ (∀ p ∈ ps, p.1.length ≤ 100) ∧ Below w2.heap.size w2 wr)
    case atStart => exact ⟨0, [], Nat.zero_le _, rfl, rfl, PO.nil _ _, rfl, rfl, fun p hp => by (cases hp), Below.refl _ _⟩
    case round =>
      obtain ⟨j, ps, hj, hk, rfl, hPO, hfl, hpl, hsm, hBr⟩ := hrel
      have HK := Lib.hid hk
      have HPO := Lib.hid hPO
      have HFL := Lib.hid hfl
      have HPL := Lib.hid hpl
      have HSM := Lib.hid hsm
      have HBR := Lib.hid hBr
      clear hk hPO hfl hpl hsm hBr
      have hj0 : (0 : Int) ≤ (j : Int) := Int.natCast_nonneg _
      by_cases hjn : j < dn
      · have hjn1 : (j : Int) < (dn : Int) := by omega
        obtain ⟨x, hx⟩ : ∃ x, ([ver] ++ l : List Int)[j]? = some x := ⟨_, List.getElem?_eq_getElem (by rw [hns.out]; exact hjn)⟩
        have hxr := HAL.out x (List.mem_of_getElem? hx)
        have HPT := Lib.hid (Mf.pay_take hx)
        obtain ⟨g, o, rfl, hg, hc⟩ := (HNS.out.below HBR.out).at hx
        clear hx
        go_wp2_with fail
        refine (Tryz.strconv_Itoa x (by omega) (by omega) wr (hE2.out.below (HBR.out.mono (by have := HB2.out.size; omega))).tab).mono ?_
        rintro e w3 ⟨rfl, kk, oss, hw3⟩
        have hb3 : Below wr.heap.size wr w3 := by rw [hw3]; exact Lib.below_grow wr.heap.size wr (Nat.le_refl _) kk oss
        have HB3 := Lib.hid hb3
        clear hw3 hb3
        obtain ⟨s, hs⟩ : ∃ s : ByteArray, s = ⟨(Lib.itoa x).toArray⟩ := ⟨_, rfl⟩
        have hlen2 := Lib.itoa_length_le x (by omega) (by omega)
        have hsz : (s.size : Int) ≤ 21 := by
          rw [hs]
          show ((Lib.itoa x).toArray.size : Int) ≤ 21
          simp
          omega
        rw [← hs]
        have HSS := Lib.hid hs
        clear hs hlen2
        have hcv := run_bytes_of_string (P := Tryz.prog) w3 9 25 5 (s ++ ⟨#[10]⟩) Tryz.underlying9 Tryz.underlying25 Tryz.underlying5
        have hTs : (s ++ ⟨#[10]⟩ : ByteArray).size = s.size + 1 := by rw [ByteArray.size_append]; rfl
        have HBY : Hid (∀ (fz : Nat × Nat), Byts (w3.drew.alloc (.cells (bytesRow (s ++ ⟨#[10]⟩) (grownCap w3 (s.size + 1) 0 5)) 5 fz)) (.slice (some ⟨w3.heap.size, 0, none⟩) (s.size + 1) (grownCap w3 (s.size + 1) 0 5)) (Lib.itoa x ++ [10])) := by
          refine Lib.hid fun fz => ?_
          have h1 := byts_of_str w3 (s ++ ⟨#[10]⟩) (grownCap w3 (s.size + 1) 0 5) (by rw [hTs]; exact grownCap_ge _ _ _ _) fz
          rw [hTs] at h1
          have h2 : (s ++ ⟨#[10]⟩ : ByteArray).data.toList = Lib.itoa x ++ [10] := by rw [HSS.out]; simp
          rw [h2] at h1
          exact h1
        have HLT : Hid ((Lib.itoa x ++ [10]).length ≤ 100) := by
          refine Lib.hid ?_
          have := Lib.itoa_length_le x (by omega) (by omega)
          simp; omega
        clear hTs
        have HP3 := Lib.hid (HPO.out.keep HB3.out)
        have hsz3 : w2.heap.size ≤ w3.heap.size := Nat.le_trans HBR.out.size HB3.out.size
        have HBR3 := Lib.hid (HBR.out.trans (HB3.out.mono HBR.out.size))
        obtain ⟨i0, hi, hz0, hz1, hz2⟩ := info_parts infoBB
        have hj33 : j ≤ 33 := by omega
        go_wp2_with (first | (at_builtin; refine wpList_append_own_at _ rfl _ _ 128 rfl w2.heap.size 25 i0 (.slice none 0 0) 1 24 Tryz.underlying128 hi hz0 hz1 hz2 rfl (by decide) u5 ps.length (ps.map (·.2)) rfl ((HP3.out.keep (below_dr _ _ _)).row) ⟨w3.heap.size + 1, 0, none⟩ 1 1 [.slice (some ⟨w3.heap.size, 0, none⟩) (s.size + 1) (grownCap w3 (s.size + 1) 0 5)] rfl rfl (cell_one_dr _ _ _ _) (fun u hu => by simp at hu; subst hu; rfl) (by rw [HPL.out]; unfold maxLen; omega) (by rw [HPL.out]; omega) (by simp; omega) ?_; intro v' w5 hrow hgrow hnil hloc; clear hnil; have HNEW := Lib.hid (PO.more (HP3.out.keep (below_dr _ _ _)) (byts_dr (HBY.out _) _) (by simp; omega) (po_ne HP3.out) hrow hgrow hloc); have HB5 := Lib.hid (below_grown (HBR3.out.trans ((below_dr _ _ _).mono hsz3)) (by simp; omega) (HP3.out.keep (below_dr _ _ _)).row hgrow); clear hrow hgrow hloc) | fail)
        go_roundg (dn - (j + 1))
        case measure => rw [HK.out]; omega
        case rel => exact ⟨j + 1, _, by omega, rfl, by simp, HNEW.out, by rw [List.map_append, List.flatten_append, HFL.out, HPT.out]; simp, by rw [List.length_append, HPL.out]; rfl, fun p hp => by
          rcases List.mem_append.1 hp with hp | hp
          · exact HSM.out p hp
          · simp only [List.mem_singleton] at hp; subst hp; exact HLT.out, HB5.out⟩
      · have hjn1 : (dn : Int) ≤ (j : Int) := by omega
        have HALL : Hid ((ps.map (·.1)).flatten = Mf.pay (ver :: l)) := by
          rw [HFL.out, List.take_of_length_le (by rw [hns.out]; omega)]
          exact Lib.hid rfl
        have HEN := Lib.hid (Mf.enc_ok HG.out)
        have HPR := Lib.hid HPO.out.prts
        obtain ⟨pa, pc, hpv⟩ := HPR.out.form
        rw [List.length_map] at hpv
        subst hpv
        go_wp2_with fail
        refine (encode_any 9 _ (ps.map (·.1)) wr HPR.out (by rw [List.length_map, HPL.out]; omega) (fun q hq => by
          obtain ⟨p, hp, rfl⟩ := List.mem_map.1 hq
          have := HSM.out p hp
          omega)).mono ?_
        rintro e w6 ⟨hb6, hres⟩
        have HB6 := Lib.hid (HB2.out.trans ((HBR.out.trans (hb6.mono HBR.out.size)).mono HB2.out.size))
        rw [HALL.out, HEN.out] at hres
        have hsz6 : w.heap.size ≤ wr.heap.size := Nat.le_trans HB2.out.size HBR.out.size
        rcases hres with ⟨_, b, rfl, hob⟩ | ⟨hx, _⟩
        · have HOB := Lib.hid hob
          clear hob hb6
          go_wp2_with fail
          refine bodyPost_ret (v := .tuple #[b, .int .i64 0]) (by simp [results, Tryz.results14, go_sem]) rfl ?_
          exact ⟨HB6.out, .inl ⟨HG.out, b, rfl, HOB.out.mono hsz6⟩⟩
        · exact absurd rfl hx
end Go.Proofs.YtcinagglbkbmkaaGreatDoor
namespace Go.Proofs.YtcinagglbkbmkaaGreatDoor
set_option linter.unusedSimpArgs false
set_option linter.unusedVariables false
open Go Go.RowKit
open Go.Maps Go.Sort Go.Shelf

def keysM_ren : Go.Shelf.Ren := ⟨fun | 7 => 87 | 10 => 135 | n => n, fun | 23 => 56 | 26 => 9 | 3 => 3 | 28 => 168 | 0 => 0 | 27 => 167 | 33 => 226 | 4 => 4 | n => n, fun n => n⟩
theorem keysM_lays : Go.Proofs.SlLaysZ.n7 Tryz.prog keysM_ren := {
  mixed := by kernel_rfl
  f7 := ⟨Tryz.f87.name, by decide, Tryz.func87.trans (congrArg some (by kernel_rfl))⟩
  f10 := ⟨Tryz.f135.name, by decide, Tryz.func135.trans (congrArg some (by kernel_rfl))⟩
  t0 := Tryz.underlying0
  a0 := Tryz.isAgg0
  z0 := Tryz.sizeOf0
  v0 := Tryz.zeroValue0
  t4 := Tryz.underlying4
  a4 := Tryz.isAgg4
  z4 := Tryz.sizeOf4
  v4 := Tryz.zeroValue4
  t23 := Tryz.underlying56
  a23 := Tryz.isAgg56
  z23 := Tryz.sizeOf56
  v23 := Tryz.zeroValue56
  t26 := Tryz.underlying9
  a26 := Tryz.isAgg9
  z26 := Tryz.sizeOf9
  v26 := Tryz.zeroValue9
  t27 := Tryz.underlying167
  a27 := Tryz.isAgg167
  z27 := Tryz.sizeOf167
  v27 := Tryz.zeroValue167
  t28 := Tryz.underlying168
  a28 := Tryz.isAgg168
  z28 := Tryz.sizeOf168
  v28 := Tryz.zeroValue168
  t33 := Tryz.underlying226
  a33 := Tryz.isAgg226
  z33 := Tryz.sizeOf226
  v33 := Tryz.zeroValue226 }
def sortedS_ren : Go.Shelf.Ren := ⟨fun | 6 => 86 | 8 => 133 | 9 => 134 | 11 => 165 | 13 => 167 | 12 => 166 | 23 => 193 | 24 => 194 | 14 => 184 | 15 => 185 | 16 => 186 | 17 => 187 | 18 => 188 | 19 => 189 | 20 => 190 | 21 => 191 | 22 => 192 | 25 => 210 | 26 => 211 | 27 => 212 | 28 => 213 | 29 => 214 | 30 => 215 | 31 => 228 | n => n, fun | 26 => 9 | 28 => 168 | 24 => 42 | 0 => 0 | 3 => 3 | 37 => 61 | 48 => 214 | 50 => 270 | 4 => 4 | 40 => 286 | 39 => 285 | 45 => 150 | 5 => 5 | 9 => 9 | 51 => 304 | 55 => 308 | 57 => 321 | 58 => 233 | 33 => 226 | n => n, fun n => n⟩
theorem sortedS_lays : Go.Proofs.SlLaysZ.n6 Tryz.prog sortedS_ren := {
  mixed := by kernel_rfl
  f6 := ⟨Tryz.f86.name, by decide, Tryz.func86.trans (congrArg some (by kernel_rfl))⟩
  f8 := ⟨Tryz.f133.name, by decide, Tryz.func133.trans (congrArg some (by kernel_rfl))⟩
  f11 := ⟨Tryz.f165.name, by decide, Tryz.func165.trans (congrArg some (by kernel_rfl))⟩
  t0 := Tryz.underlying0
  a0 := Tryz.isAgg0
  z0 := Tryz.sizeOf0
  v0 := Tryz.zeroValue0
  t24 := Tryz.underlying42
  a24 := Tryz.isAgg42
  z24 := Tryz.sizeOf42
  v24 := Tryz.zeroValue42
  t26 := Tryz.underlying9
  a26 := Tryz.isAgg9
  z26 := Tryz.sizeOf9
  v26 := Tryz.zeroValue9
  t28 := Tryz.underlying168
  a28 := Tryz.isAgg168
  z28 := Tryz.sizeOf168
  v28 := Tryz.zeroValue168
  i26 := by kernel_rfl }
def sortS_ren : Go.Shelf.Ren := ⟨fun | 6 => 134 | 8 => 167 | 9 => 166 | 19 => 193 | 20 => 194 | 21 => 184 | 22 => 185 | 23 => 186 | 24 => 187 | 25 => 188 | 26 => 189 | 27 => 190 | 28 => 191 | 29 => 192 | 36 => 210 | 31 => 211 | 32 => 212 | 37 => 213 | 38 => 214 | 39 => 215 | 41 => 228 | n => n, fun | 27 => 42 | 29 => 9 | 3 => 3 | 32 => 61 | 26 => 42 | 0 => 0 | 44 => 214 | 46 => 270 | 4 => 4 | 36 => 286 | 35 => 285 | 41 => 150 | 5 => 5 | 9 => 9 | 53 => 304 | 57 => 308 | 63 => 321 | 64 => 233 | n => n, fun n => n⟩
theorem sortS_lays : Go.Proofs.SlLaysM.n6 Tryz.prog sortS_ren := {
  mixed := by kernel_rfl
  f6 := ⟨Tryz.f134.name, by decide, Tryz.func134.trans (congrArg some (by kernel_rfl))⟩
  f8 := Tryz.func167.trans (congrArg some (by kernel_rfl))
  f9 := ⟨Tryz.f166.name, by decide, Tryz.func166.trans (congrArg some (by kernel_rfl))⟩
  f19 := Tryz.func193.trans (congrArg some (by kernel_rfl))
  f20 := Tryz.func194.trans (congrArg some (by kernel_rfl))
  f21 := ⟨Tryz.f184.name, by decide, Tryz.func184.trans (congrArg some (by kernel_rfl))⟩
  f22 := ⟨Tryz.f185.name, by decide, Tryz.func185.trans (congrArg some (by kernel_rfl))⟩
  f23 := ⟨Tryz.f186.name, by decide, Tryz.func186.trans (congrArg some (by kernel_rfl))⟩
  f24 := ⟨Tryz.f187.name, by decide, Tryz.func187.trans (congrArg some (by kernel_rfl))⟩
  f25 := ⟨Tryz.f188.name, by decide, Tryz.func188.trans (congrArg some (by kernel_rfl))⟩
  f26 := ⟨Tryz.f189.name, by decide, Tryz.func189.trans (congrArg some (by kernel_rfl))⟩
  f27 := ⟨Tryz.f190.name, by decide, Tryz.func190.trans (congrArg some (by kernel_rfl))⟩
  f28 := ⟨Tryz.f191.name, by decide, Tryz.func191.trans (congrArg some (by kernel_rfl))⟩
  f29 := ⟨Tryz.f192.name, by decide, Tryz.func192.trans (congrArg some (by kernel_rfl))⟩
  f31 := Tryz.func211.trans (congrArg some (by kernel_rfl))
  f32 := Tryz.func212.trans (congrArg some (by kernel_rfl))
  f36 := ⟨Tryz.f210.name, by decide, Tryz.func210.trans (congrArg some (by kernel_rfl))⟩
  f37 := ⟨Tryz.f213.name, by decide, Tryz.func213.trans (congrArg some (by kernel_rfl))⟩
  f38 := ⟨Tryz.f214.name, by decide, Tryz.func214.trans (congrArg some (by kernel_rfl))⟩
  f39 := ⟨Tryz.f215.name, by decide, Tryz.func215.trans (congrArg some (by kernel_rfl))⟩
  f41 := ⟨Tryz.f228.name, by decide, Tryz.func228.trans (congrArg some (by kernel_rfl))⟩
  t0 := Tryz.underlying0
  a0 := Tryz.isAgg0
  z0 := Tryz.sizeOf0
  v0 := Tryz.zeroValue0
  t3 := Tryz.underlying3
  a3 := Tryz.isAgg3
  z3 := Tryz.sizeOf3
  v3 := Tryz.zeroValue3
  t4 := Tryz.underlying4
  a4 := Tryz.isAgg4
  z4 := Tryz.sizeOf4
  v4 := Tryz.zeroValue4
  t5 := Tryz.underlying5
  a5 := Tryz.isAgg5
  z5 := Tryz.sizeOf5
  v5 := Tryz.zeroValue5
  t9 := Tryz.underlying9
  a9 := Tryz.isAgg9
  z9 := Tryz.sizeOf9
  v9 := Tryz.zeroValue9
  t26 := Tryz.underlying42
  a26 := Tryz.isAgg42
  z26 := Tryz.sizeOf42
  v26 := Tryz.zeroValue42
  t27 := Tryz.underlying42
  a27 := Tryz.isAgg42
  z27 := Tryz.sizeOf42
  v27 := Tryz.zeroValue42
  t29 := Tryz.underlying9
  a29 := Tryz.isAgg9
  z29 := Tryz.sizeOf9
  v29 := Tryz.zeroValue9
  t32 := Tryz.underlying61
  a32 := Tryz.isAgg61
  z32 := Tryz.sizeOf61
  v32 := Tryz.zeroValue61
  t35 := Tryz.underlying285
  a35 := Tryz.isAgg285
  z35 := Tryz.sizeOf285
  v35 := Tryz.zeroValue285
  t36 := Tryz.underlying286
  a36 := Tryz.isAgg286
  z36 := Tryz.sizeOf286
  v36 := Tryz.zeroValue286
  t41 := Tryz.underlying150
  a41 := Tryz.isAgg150
  z41 := Tryz.sizeOf150
  v41 := Tryz.zeroValue150
  t44 := Tryz.underlying214
  a44 := Tryz.isAgg214
  z44 := Tryz.sizeOf214
  v44 := Tryz.zeroValue214
  t46 := Tryz.underlying270
  a46 := Tryz.isAgg270
  z46 := Tryz.sizeOf270
  v46 := Tryz.zeroValue270
  t53 := Tryz.underlying304
  a53 := Tryz.isAgg304
  z53 := Tryz.sizeOf304
  v53 := Tryz.zeroValue304
  t57 := Tryz.underlying308
  a57 := Tryz.isAgg308
  z57 := Tryz.sizeOf308
  v57 := Tryz.zeroValue308
  t63 := Tryz.underlying321
  a63 := Tryz.isAgg321
  z63 := Tryz.sizeOf321
  v63 := Tryz.zeroValue321
  t64 := Tryz.underlying233
  a64 := Tryz.isAgg233
  z64 := Tryz.sizeOf233
  v64 := Tryz.zeroValue233 }
theorem sortsIn_any (m : Nat) : AnyZ.SortsIn Tryz.prog sortedS_ren Fence.wide m :=
  ⟨fun blk off cap ss W hH hblk hsz => callsIn_wide.2 (AnyM.slices_Sort_string sortS_lays blk off cap ss W hH hblk hsz),
   fun p cap W => callsIn_wide.2 (AnyM.slices_Sort_string_none sortS_lays p cap W)⟩
theorem mapsKeys_any (mb : Option Nat) (W : World) : CallsIn Fence.wide 5 Tryz.prog 87 #[.map mb] W fun e w' => e = .returned (.func (.func 135) #[] #[.pointer (some ⟨W.heap.size, 0, none⟩)]) ∧ w' = W.alloc (.cells #[.map mb] 56) :=
  AnyZ.keys_in keysM_lays Fence.wide 5 trivial rfl mb W
set_option maxHeartbeats 1000000 in
theorem sortedKeys_any (b nn : Nat) (D0 : DataW Unit) (R : Value → Option (DataW Unit × List MemPlace)) (w : World) (hown : w.ownsMap Tryz.prog 9 R b nn D0) (hmax : Maps.size D0 ≤ maxLen) (hbytes : Maps.size D0 * 16 ≤ 140737488355328) :
    CallsIn Fence.wide 5 Tryz.prog 86 #[.func (.func 135) #[] #[.pointer (some ⟨w.heap.size, 0, none⟩)]] (w.alloc (.cells #[.map (some b)] 56)) fun e w' => ∃ (v : Value) (ss : List (List UInt8)), e = .returned v ∧ ss.Perm (strKeys D0) ∧
      w'.ownsRow (w.alloc (.cells #[.map (some b)] 56)).heap.size 9 1 v ss.length ((ss.mergeSort (fun x y => decide (x ≤ y))).map encStr) ∧ (v = .slice none 0 0 ↔ ss = []) ∧ Below (w.alloc (.cells #[.map (some b)] 56)).heap.size (w.alloc (.cells #[.map (some b)] 56)) w' := by
  have hbl := hown.lt
  have hseq : SeqGives Fence.wide 2 Tryz.prog 135 #[.pointer (some ⟨w.heap.size, 0, none⟩)] encStr (fun ss => ss.Perm (strKeys D0)) (Maps.size D0) (w.alloc (.cells #[.map (some b)] 56)) :=
    AnyZ.keys_gives (ρ := keysM_ren) { keysM_lays with } Fence.wide _ trivial rfl (by omega) w.heap.size b nn D0 _ (by simp) (by simp) (by
      obtain ⟨es, clock, hb, Ft, hs, hD⟩ := hown
      exact ⟨es, clock, (Below.heap_alloc _ _ b hbl).trans hb, Ft, hs, hD⟩)
  exact AnyZ.sorted_in sortedS_lays Fence.wide 5 trivial trivial trivial trivial rfl (by omega) (sortsIn_any _) (enters_of Tryz.func134 (by kernel_rfl) rfl) 135 #[.pointer (some ⟨w.heap.size, 0, none⟩)] trivial (enters_of Tryz.func135 (by kernel_rfl) rfl) _ _ hmax hbytes _ hseq
theorem keys_strKeys (d : Fs.Names) : strKeys (Fs.datum d) = d.map (·.1) := by
  show ((d.map Fs.ent).map fun p => strOf p.1) = _
  rw [List.map_map]
  rfl
/-- The names of a directory, as texts. -/
def strsOf (l : List (List UInt8)) : List ByteArray := l.map fun x => ⟨x.toArray⟩
theorem sortedKeys_strs {w : World} {base : Nat} {v : Value} {ss : List (List UInt8)} {d : Fs.Names} (hp : ss.Perm (strKeys (Fs.datum d))) (hrow : w.ownsRow base 9 1 v ss.length ((ss.mergeSort (fun x y => decide (x ≤ y))).map encStr)) :
    Strs w v (strsOf (Fs.keys d)) ∧ (∀ k, v.ownBlock = some k → base ≤ k ∧ k < w.heap.size) := by
  have he : ss.mergeSort (fun x y => decide (x ≤ y)) = Fs.keys d := by
    rw [keys_strKeys] at hp
    exact mergeSort_of_perm hp
  rw [he] at hrow
  have hl : (strsOf (Fs.keys d)).length = ss.length := by
    unfold strsOf
    rw [← he, List.length_map, List.length_mergeSort]
  refine ⟨?_, fun k hk => hrow.lt k hk⟩
  rcases hrow.2 with ⟨h1, h2⟩ | ⟨g, cap, cur, h1, hg, hb, hc, hm⟩
  · exact ⟨none, 0, by rw [h1, hl, h2], fun i s hi => by
      have := (List.getElem?_eq_some_iff.1 hi).1
      omega⟩
  · refine ⟨some ⟨g, 0, none⟩, cap, by rw [hl]; exact h1, fun i s hi => ⟨g, 0, rfl, heap_lt hb, ?_⟩⟩
    unfold strsOf at hi
    rw [List.getElem?_map] at hi
    cases hx : (Fs.keys d)[i]? with
    | none => rw [hx] at hi; cases hi
    | some x =>
      rw [hx] at hi
      simp at hi; subst hi
      have := World.ownsRow.cells hrow (g := g) (by rw [h1]; rfl) i (encStr x) (by rw [List.getElem?_map, hx]; rfl)
      rw [addr_add] at this
      rw [Nat.zero_add]
      exact this
set_option maxHeartbeats 1000000 in
set_option maxRecDepth 100000 in
theorem list_any (base B : Nat) (st : Fs.St) (V : FsV) (own : Nat → Tag) (w : World) (h : FsOK base B st V own w) (hd : st.dir.length ≤ 900000) :
    Calls Tryz.prog 31 #[.pointer (some ⟨B, 0, none⟩)] w fun e w' => ∃ v, e = .returned v ∧ Strs w' v (strsOf (Fs.keys st.dir)) ∧ (∀ k, v.ownBlock = some k → w.heap.size ≤ k) ∧ Below w.heap.size w w' := by
  have x5 : w.cell? ⟨B, 5, none⟩ = some (.map (some V.md)) := root_cell h.at_.root 5 _ rfl
  have HM := Lib.hid h.at_.dir
  have hsz : Maps.size (Fs.datum st.dir) = st.dir.length := Fs.datum_size _
  have hmax : Maps.size (Fs.datum st.dir) ≤ maxLen := by rw [hsz]; unfold maxLen; omega
  have hbytes : Maps.size (Fs.datum st.dir) * 16 ≤ 140737488355328 := by rw [hsz]; omega
  clear h hsz
  refine (callsIn_wide (n := 6)).1 ?_
  have hfK : Fence.wide.fn 87 := trivial
  have hfS : Fence.wide.fn 86 := trivial
  refine callsIn_of_wp Tryz.func31 rfl trivial ?_ rfl
  simp only [Tryz.ntmps31, List.size_toArray, List.length_cons, List.length_nil, Nat.reduceAdd, Nat.reduceSub, Array.replicate_succ, Array.replicate_zero, List.push_toArray, List.append_toArray, List.nil_append, List.cons_append]
  gi_wp2_with (first
    | (gi_at_call 87; refine (mapsKeys_any _ _).mono ?_; rintro e w' ⟨rfl, rfl⟩)
    | (gi_at_call 86; refine (sortedKeys_any V.md _ (Fs.datum st.dir) _ w HM.out hmax hbytes).mono ?_; rintro e w' ⟨v, ss, rfl, hS, hrow, hnil, hb⟩))
  go_ret
  obtain ⟨h1, h2⟩ := sortedKeys_strs hS hrow
  exact ⟨v, rfl, h1, fun k hk => by have := (h2 k hk).1; simp at this; omega, ((Below.refl _ w).alloc (Nat.le_refl _) _).trans (hb.mono (by simp))⟩
end Go.Proofs.YtcinagglbkbmkaaGreatDoor
namespace Go.Proofs.YtcinagglbkbmkaaGreatDoor
set_option linter.unusedSimpArgs false
set_option linter.unusedVariables false
open Go Go.RowKit
open Go.Maps Go.WideMaps

/-- A function's value, and what is called for it. -/
structure FnV where
  val : Value
  k : FuncId
  fst : Array Value
  cap : Array Value
/-- No one's blocks stand. -/
def Others (own0 own : Nat → Tag) (w0 w : World) : Prop := w0.heap.size ≤ w.heap.size ∧ ∀ b, b < w0.heap.size → own0 b = .other → own b = .other ∧ w.heap[b]? = w0.heap[b]?
theorem Others.refl (own : Nat → Tag) (w : World) : Others own own w w := ⟨Nat.le_refl _, fun _ _ h => ⟨h, rfl⟩⟩
theorem OpPost.others {base B : Nat} {st : Fs.St} {own : Nat → Tag} {w w' : World} (h : OpPost base B st own w w') : ∃ V' own', FsOK base B st V' own' w' ∧ (∀ k, k < w.heap.size → own' k = own k) ∧ Kept own (· ≠ .other) w w' := h
theorem Others.next {own0 own own' : Nat → Tag} {w0 w w' : World} (h : Others own0 own w0 w) (ho : ∀ k, k < w.heap.size → own' k = own k) (hk : Kept own (· ≠ .other) w w') : Others own0 own' w0 w' :=
  ⟨Nat.le_trans h.1 hk.size, fun b hb h0 => by
    obtain ⟨h1, h2⟩ := h.2 b hb h0
    have hb2 := Nat.lt_of_lt_of_le hb h.1
    exact ⟨(ho b hb2).trans h1, (hk.block b hb2 (by rw [h1]; simp)).trans h2⟩⟩
set_option maxHeartbeats 1000000 in
set_option maxRecDepth 100000 in
theorem first_any (base B : Nat) (fs : List (Fs.St → Fs.St × Int)) (ks : List FnV) (gs : Nat) (J : Nat → Fs.St → Prop) (st0 : Fs.St) (V0 : FsV) (own0 : Nat → Tag) (w0 : World) (h0 : FsOK base B st0 V0 own0 w0) (hJ0 : J 0 st0)
    (hn : ks.length = fs.length) (hn2 : fs.length ≤ 1000) (hgs : gs < w0.heap.size) (hgo : own0 gs = .other) (hcell : ∀ (j : Nat) x, ks[j]? = some x → w0.cell? ⟨gs, j, none⟩ = some x.val ∧ x.val = .func (.func x.k) x.fst x.cap ∧ ∀ w, Sem.run Tryz.prog (callFunc x.k (x.fst ++ x.cap)) w = .ok (.enter x.k (x.fst ++ x.cap)) w)
    (hcall : ∀ (j : Nat) f x, fs[j]? = some f → ks[j]? = some x → ∀ st V own w, FsOK base B st V own w → J j st → Others own0 own w0 w → Calls Tryz.prog x.k (x.fst ++ x.cap) w fun e w' => e = .returned (.int .i64 (f st).2) ∧ OpPost base B (f st).1 own w w')
    (hJ : ∀ (j : Nat) f st, fs[j]? = some f → J j st → (f st).2 = 0 → J (j + 1) (f st).1) :
    Calls Tryz.prog 69 #[.slice (some ⟨gs, 0, none⟩) fs.length fs.length] w0 fun e w' => e = .returned (.int .i64 (Fs.first fs st0).2) ∧ OpPost base B (Fs.first fs st0).1 own0 w0 w' := by
  have HCELL := Lib.hid hcell
  have HCALL := Lib.hid hcall
  have HJ := Lib.hid hJ
  have H0 := Lib.hid h0
  have HJ0 := Lib.hid hJ0
  clear hcell hcall hJ h0 hJ0
  go_enter Tryz.func69, Tryz.ntmps69
  go_wp2_with fail
  go_loopg [8] fs.length (fun k s8 wr => ∃ (j : Nat) (st : Fs.St) (V : FsV) (own : Nat → Tag), j ≤ fs.length ∧ k = fs.length - j ∧ s8 = .int .i64 (j : Nat) ∧ FsOK base B st V own wr ∧ J j st ∧ (∀ k, k < w0.heap.size → own k = own0 k) ∧ Kept own0 (· ≠ .other) w0 wr ∧ Fs.first (fs.drop j) st = Fs.first fs st0)
  case atStart => exact ⟨0, st0, V0, own0, Nat.zero_le _, rfl, rfl, H0.out, HJ0.out, fun _ _ => rfl, Kept.refl _ _ _, rfl⟩
  case round =>
    obtain ⟨j, st, V, own, hj, hk, rfl, hok, hJj, hown, hkept, hfst⟩ := hrel
    have HK := Lib.hid hk
    have HOK := Lib.hid hok
    have HJJ := Lib.hid hJj
    have HOWN := Lib.hid hown
    have HKEPT := Lib.hid hkept
    have HFST := Lib.hid hfst
    clear hk hok hJj hown hkept hfst
    have hj0 : (0 : Int) ≤ (j : Int) := Int.natCast_nonneg _
    by_cases hjn : j < fs.length
    · have hjn1 : (j : Int) < (fs.length : Int) := by omega
      obtain ⟨f, hf⟩ : ∃ f, fs[j]? = some f := ⟨_, List.getElem?_eq_getElem hjn⟩
      obtain ⟨x, hx⟩ : ∃ x, ks[j]? = some x := ⟨_, List.getElem?_eq_getElem (by rw [hn]; exact hjn)⟩
      obtain ⟨c1, c2, c3⟩ := HCELL.out j x hx
      have hOth : Others own0 own w0 wr := ⟨HKEPT.out.size, fun b hb h1 => ⟨(HOWN.out b hb).trans h1, HKEPT.out.block b hb (by rw [h1]; simp)⟩⟩
      have hcr : wr.cell? ⟨gs, j, none⟩ = some (.func (.func x.k) x.fst x.cap) := by
        rw [World.cell?_of_block (hOth.2 gs hgs hgo).2, c1, c2]
      have HC := Lib.hid (HCALL.out j f x hf hx st V own wr HOK.out HJJ.out hOth)
      have HD : Hid (Fs.first fs st0 = if (f st).2 ≠ 0 then f st else Fs.first (fs.drop (j + 1)) (f st).1) := by
        rw [← HFST.out]
        obtain ⟨h1, h2⟩ := List.getElem?_eq_some_iff.1 hf
        rw [List.drop_eq_getElem_cons h1, h2, Fs.first]
        exact Lib.hid rfl
      have HF := Lib.hid hf
      obtain ⟨k, fst, cap, hkfc⟩ : ∃ k fst cap, x.k = k ∧ x.fst = fst ∧ x.cap = cap := ⟨_, _, _, rfl, rfl, rfl⟩
      obtain ⟨e1, e2, e3⟩ := hkfc
      rw [e1, e2, e3] at hcr c3 HC
      clear e1 e2 e3 hx hf c1 c2 hOth
      go_wp2_with fail
      refine HC.out.mono ?_
      rintro e w1 ⟨rfl, hp⟩
      obtain ⟨V1, own1, h1, ho1, hk1⟩ := hp
      have HOWN1 : Hid (∀ k, k < w0.heap.size → own1 k = own0 k) := Lib.hid fun k hk => (ho1 k (Nat.lt_of_lt_of_le hk HKEPT.out.size)).trans (HOWN.out k hk)
      have HK1 : Hid (Kept own0 (· ≠ .other) w0 w1) := by
        refine Lib.hid ⟨hk1.os.trans HKEPT.out.os, hk1.tape.trans HKEPT.out.tape, hk1.output.trans HKEPT.out.output, Nat.le_trans HKEPT.out.size hk1.size, fun b hb ht => ?_⟩
        rw [hk1.block b (Nat.lt_of_lt_of_le hb HKEPT.out.size) (by rw [HOWN.out b hb]; exact ht)]
        exact HKEPT.out.block b hb ht
      have H1 := Lib.hid h1
      obtain ⟨C, hC⟩ : ∃ C, C = (f st).2 := ⟨_, rfl⟩
      rw [← hC]
      have HCC := Lib.hid hC
      clear hC h1 ho1 hk1
      by_cases hC0 : C = 0
      · subst hC0
        have HN := Lib.hid (HJ.out j f st HF.out HJJ.out HCC.out.symm)
        go_wp2_with fail
        go_roundg (fs.length - (j + 1))
        case measure => rw [HK.out]; omega
        case rel => exact ⟨j + 1, (f st).1, V1, own1, by omega, rfl, by simp, H1.out, HN.out, HOWN1.out, HK1.out, by rw [HD.out, if_neg (by rw [← HCC.out]; simp)]⟩
      · have hte : (C != 0) = true := by rw [bne_iff_ne]; exact hC0
        have hte2 : (C == 0) = false := by rw [beq_eq_false_iff_ne]; exact hC0
        have HE : Hid (Fs.first fs st0 = f st) := by rw [HD.out, if_pos (by rw [← HCC.out]; exact hC0)]; exact Lib.hid rfl
        clear hC0
        go_wp2_with fail
        go_ret
        rw [HE.out]
        exact ⟨by rw [← HCC.out]; rfl, V1, own1, H1.out, HOWN1.out, HK1.out⟩
    · have hjn1 : (fs.length : Int) ≤ (j : Int) := by omega
      have HE : Hid (Fs.first fs st0 = (st, 0)) := by rw [← HFST.out, List.drop_of_length_le (by omega), Fs.first]; exact Lib.hid rfl
      go_wp2_with fail
      go_ret
      rw [HE.out]
      exact ⟨rfl, V, own, HOK.out, HOWN.out, HKEPT.out⟩
end Go.Proofs.YtcinagglbkbmkaaGreatDoor
namespace Go.Proofs.YtcinagglbkbmkaaGreatDoor
set_option linter.unusedSimpArgs false
set_option linter.unusedVariables false
open Go Go.RowKit
open Go.Maps Go.WideMaps

namespace Fs
/-- What is planned are numbers of the machine's. -/
def PlanOK (st : St) : Prop := ∀ z ∈ st.plan, z ≤ 9223372036854775807
section
variable {st : St} (h : PlanOK st)
include h
theorem PlanOK.of {st' : St} (e : st'.plan = st.plan ∨ st'.plan = st.plan.tail) : PlanOK st' := fun z hz => by
  rcases e with e | e
  · rw [e] at hz; exact h z hz
  · rw [e] at hz; exact h z (List.mem_of_mem_tail hz)
theorem PlanOK.how : (step st).2.1 ≤ 9223372036854775807 := by
  unfold step
  split
  · show (0 : Int) ≤ _; omega
  · show st.plan.headD 0 ≤ _
    cases hp : st.plan with
    | nil => show (0 : Int) ≤ _; omega
    | cons z r => exact h z (by rw [hp]; exact List.mem_cons_self)
end
theorem plan_step (st : St) : (step st).1.plan = st.plan ∨ (step st).1.plan = st.plan.tail := by
  unfold step
  split
  · exact .inl rfl
  · exact .inr rfl
theorem plan_create (st : St) (n : List UInt8) : (create st n).1.plan = st.plan ∨ (create st n).1.plan = st.plan.tail := by
  unfold create
  split
  · exact .inl rfl
  split
  · exact .inl rfl
  split
  · exact .inl rfl
  split
  · exact plan_step st
  · exact plan_step st
theorem plan_append (st : St) (n b : List UInt8) : (append st n b).1.plan = st.plan ∨ (append st n b).1.plan = st.plan.tail := by
  unfold append
  split
  · exact .inl rfl
  split
  · exact .inl rfl
  split
  · split
    · exact plan_step st
    · exact plan_step st
  split
  · exact plan_step st
  · exact plan_step st
theorem plan_sync (st : St) (n : List UInt8) : (sync st n).1.plan = st.plan ∨ (sync st n).1.plan = st.plan.tail := by
  unfold sync
  split
  · exact .inl rfl
  split
  · exact plan_step st
  · exact plan_step st
theorem plan_syncDir (st : St) : (syncDir st).1.plan = st.plan ∨ (syncDir st).1.plan = st.plan.tail := by
  unfold syncDir
  split
  · exact plan_step st
  · exact plan_step st
theorem plan_remove (st : St) (n : List UInt8) : (remove st n).1.plan = st.plan ∨ (remove st n).1.plan = st.plan.tail := by
  unfold remove
  split
  · exact .inl rfl
  split
  · exact plan_step st
  · exact plan_step st
theorem plan_rename (st : St) (a b : List UInt8) : (rename st a b).1.plan = st.plan ∨ (rename st a b).1.plan = st.plan.tail := by
  unfold rename
  split
  · exact .inl rfl
  split
  · exact .inl rfl
  split
  · exact plan_step st
  · exact plan_step st
end Fs
/-- Is a text among texts? -/
theorem contains_strs {w : World} {a : Option Addr} {n c : Nat} {ls : List ByteArray} (h : Strs w (.slice a n c) ls) (hn : n ≤ 1000000) (x : ByteArray) :
    Calls Tryz.prog 71 #[.slice a n c, .string x] w fun e w' => e = .returned (.bool (Lib.containsS ls x)) ∧ w' = w := by
  obtain ⟨a', c', h1, h2⟩ := h
  simp only [Value.slice.injEq] at h1
  obtain ⟨rfl, rfl, rfl⟩ := h1
  cases ls with
  | nil => exact (Tryz.slices_Contains_string_empty a c x w).mono (by rintro e w' ⟨rfl, rfl⟩; exact ⟨rfl, rfl⟩)
  | cons y r =>
    obtain ⟨b, off, e0, _, _⟩ := h2 0 y rfl
    subst e0
    refine (Tryz.slices_Contains_string b off (y :: r).length c (y :: r) x w (Nat.le_refl _) (by omega) ?_).mono ?_
    · intro j hj
      obtain ⟨b', off', e1, _, e3⟩ := h2 j (y :: r)[j] (List.getElem?_eq_getElem hj)
      simp only [Option.some.injEq, Addr.mk.injEq, and_true] at e1
      obtain ⟨rfl, rfl⟩ := e1
      rw [e3, List.getD_eq_getElem?_getD, List.getElem?_eq_getElem hj]
      rfl
    · rintro e w' ⟨rfl, rfl⟩
      refine ⟨congrArg (fun b => Ending.returned (.bool b)) ?_, rfl⟩
      rw [List.take_of_length_le (Nat.le_refl _)]
theorem mem_keys {d : Fs.Names} {n : List UInt8} : Lib.containsS (strsOf (Fs.keys d)) (⟨n.toArray⟩ : ByteArray) = Fs.mhas d n := by
  rw [Bool.eq_iff_iff, Lib.containsS_iff, ← Fs.keys_mem]
  unfold strsOf
  rw [List.mem_map]
  constructor
  · rintro ⟨x, hx, e⟩
    have : x = n := by
      have := congrArg (fun b : ByteArray => b.data.toList) e
      simpa using this
    rw [← this]; exact hx
  · exact fun h => ⟨n, h, rfl⟩
def draftB : ByteArray := ⟨#[109, 97, 110, 105, 102, 101, 115, 116, 46, 116, 109, 112]⟩
def finalB : ByteArray := ⟨#[109, 97, 110, 105, 102, 101, 115, 116]⟩
theorem Strs.len {w : World} {a : Option Addr} {n c : Nat} {ls : List ByteArray} (h : Strs w (.slice a n c) ls) : n = ls.length := by
  obtain ⟨a', c', h1, h2⟩ := h
  simp only [Value.slice.injEq] at h1
  exact h1.2.1
theorem strsOf_len (d : Fs.Names) : (strsOf (Fs.keys d)).length = d.length := by unfold strsOf; rw [List.length_map, Fs.keys_len]

section
variable (base B : Nat) (st : Fs.St) (V : FsV) (own : Nat → Tag) (w : World) (h : FsOK base B st V own w) (hbase : base ≤ w.heap.size) (k : Nat) (hS : Fs.Sound st k) (hk : k ≤ 700000) (fb : Nat) (hf : w.cell? ⟨fb, 0, none⟩ = some (.pointer (some ⟨B, 0, none⟩)))
include h hbase hS hk hf
set_option linter.unusedSectionVars false
set_option maxHeartbeats 1000000
set_option maxRecDepth 100000
theorem save1_any : Calls Tryz.prog 70 #[.pointer (some ⟨fb, 0, none⟩)] w fun e w' => e = .returned (.int .i64 (Mf.clear st).2) ∧ OpPost base B (Mf.clear st).1 own w w' := by
  have H := Lib.hid h
  have hnd := hS.ndir
  have hnf := hS.nf
  have hnc := hS.nc
  have hfl := cellLt hf
  clear h
  go_enter Tryz.func70, Tryz.ntmps70
  go_wp2_with fail
  refine (list_any base B st V own w H.out (by omega)).mono ?_
  rintro e w1 ⟨v, rfl, hStr, _, hb1⟩
  obtain ⟨a, c, hv⟩ := hStr.form
  subst hv
  have H1 := Lib.hid (H.out.kept (kept_below hb1))
  have HB1 := Lib.hid hb1
  have hf1 : w1.cell? ⟨fb, 0, none⟩ = some (.pointer (some ⟨B, 0, none⟩)) := by rw [hb1.cell hfl]; exact hf
  have hz1 := hb1.size
  have HST := Lib.hid hStr
  obtain ⟨N, hN⟩ : ∃ N, N = (strsOf (Fs.keys st.dir)).length := ⟨_, rfl⟩
  have hNk : N ≤ 1000000 := by rw [hN, strsOf_len]; omega
  rw [← hN] at HST ⊢
  clear hb1 hN hStr
  go_wp2_with fail
  refine (contains_strs HST.out hNk _).mono ?_
  rintro e w2 ⟨rfl, hw2⟩
  subst hw2
  rw [show (⟨#[109, 97, 110, 105, 102, 101, 115, 116, 46, 116, 109, 112]⟩ : ByteArray) = ⟨Mf.draft.toArray⟩ from rfl, mem_keys]
  cases hh : Fs.mhas st.dir Mf.draft
  · have HE : Hid (Mf.clear st = (st, 0)) := by unfold Mf.clear; rw [hh]; exact Lib.hid rfl
    clear hh
    go_wp2_with fail
    go_ret
    rw [HE.out]
    exact ⟨rfl, OpPost.of H.out HB1.out⟩
  · have HE : Hid (Mf.clear st = Fs.remove st Mf.draft) := by unfold Mf.clear; rw [if_pos hh]; exact Lib.hid rfl
    clear hh
    go_wp2_with fail
    refine (remove_any base B st V own draftB w2 H1.out (by omega) (by decide) (by omega) (by omega) (by omega)).mono ?_
    rintro e w3 ⟨rfl, hp⟩
    have HP := Lib.hid hp
    clear hp
    go_wp2_with fail
    go_ret
    rw [HE.out]
    exact ⟨rfl, OpPost.step (kept_below HB1.out) (fun _ _ => rfl) HP.out⟩
theorem save2_any : Calls Tryz.prog 72 #[.pointer (some ⟨fb, 0, none⟩)] w fun e w' => e = .returned (.int .i64 (Fs.create st Mf.draft).2) ∧ OpPost base B (Fs.create st Mf.draft).1 own w w' := by
  have hnd := hS.ndir
  have hnf := hS.nf
  have hnc := hS.nc
  go_enter Tryz.func72, Tryz.ntmps72
  go_wp2_with fail
  refine (create_any base B st V own draftB w h (by decide) (by omega) (by omega) (by omega)).mono ?_
  rintro e w3 ⟨rfl, hp⟩
  have HP := Lib.hid hp
  clear hp
  go_wp2_with fail
  go_ret
  exact ⟨rfl, HP.out⟩
theorem save4_any : Calls Tryz.prog 74 #[.pointer (some ⟨fb, 0, none⟩)] w fun e w' => e = .returned (.int .i64 (Fs.sync st Mf.draft).2) ∧ OpPost base B (Fs.sync st Mf.draft).1 own w w' := by
  go_enter Tryz.func74, Tryz.ntmps74
  go_wp2_with fail
  refine (sync_any base B st V own draftB w h (by decide)).mono ?_
  rintro e w3 ⟨rfl, hp⟩
  have HP := Lib.hid hp
  clear hp
  go_wp2_with fail
  go_ret
  exact ⟨rfl, HP.out⟩
theorem save5_any : Calls Tryz.prog 76 #[.pointer (some ⟨fb, 0, none⟩)] w fun e w' => e = .returned (.int .i64 (Fs.rename st Mf.draft Mf.final).2) ∧ OpPost base B (Fs.rename st Mf.draft Mf.final).1 own w w' := by
  have hnd := hS.ndir
  have hnf := hS.nf
  have hnc := hS.nc
  go_enter Tryz.func76, Tryz.ntmps76
  go_wp2_with fail
  refine (rename_any base B st V own draftB finalB w h hbase (by decide) (by decide) (by omega) (by omega) (by omega)).mono ?_
  rintro e w3 ⟨rfl, hp⟩
  have HP := Lib.hid hp
  clear hp
  go_wp2_with fail
  go_ret
  exact ⟨rfl, HP.out⟩
theorem save3_any (bb : Nat) (bv : Value) (b : List UInt8) (hbv : BytesIn w own bv b) (hc : w.cell? ⟨bb, 0, none⟩ = some bv) (hl : b.length ≤ 1000000) (hp : Fs.PlanOK st) :
    Calls Tryz.prog 73 #[.pointer (some ⟨fb, 0, none⟩), .pointer (some ⟨bb, 0, none⟩)] w fun e w' => e = .returned (.int .i64 (Fs.append st Mf.draft b).2) ∧ OpPost base B (Fs.append st Mf.draft b).1 own w w' := by
  have hnd := hS.ndir
  have hnf := hS.nf
  have hnc := hS.nc
  have HBV := Lib.hid hbv
  obtain ⟨g, o, c, rfl, _⟩ := hbv
  go_enter Tryz.func73, Tryz.ntmps73
  go_wp2_with fail
  refine (append_any base B st V own draftB _ b w h HBV.out (by decide) (fun f hf => (hS.full f hf).2) hl (by omega) (by omega) hS.room hp.how hbase).mono ?_
  rintro e w3 ⟨rfl, hp⟩
  have HP := Lib.hid hp
  clear hp
  go_wp2_with fail
  go_ret
  exact ⟨rfl, HP.out⟩
end
end Go.Proofs.YtcinagglbkbmkaaGreatDoor
