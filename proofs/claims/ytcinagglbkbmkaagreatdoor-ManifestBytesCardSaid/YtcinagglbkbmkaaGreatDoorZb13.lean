/-
  The document's manifests: Decode, walked. Manifests: Load; the law's own words (ref, same); the fixed fact (awake), walked. The law's own words (ref, same); the fixed fact (awake), walked. 'ManifestLast', walked. 'ManifestCleans', walked.
-/
import Derived.Test.YtcinagglbkbmkaaGreatDoorZb10
import Derived.Test.YtcinagglbkbmkaaGreatDoorZb12
import Derived.Test.YtcinagglbkbmkaaGreatDoorZb2
namespace Go.Proofs.YtcinagglbkbmkaaGreatDoor
set_option linter.unusedSimpArgs false
set_option linter.unusedVariables false
open Go Go.RowKit
open Go.Maps Go.WideMaps

/-- What 'Decode' answers. -/
def RMPost (b : List UInt8) (w : World) (e : Ending) (w' : World) : Prop :=
  Below w.heap.size w w' ∧ ((∃ v l sv, Mf.refRead b = some (v, l) ∧ e = .returned (.tuple #[.agg #[.int .i64 v, sv], .bool true]) ∧ Nums w' sv l) ∨
    (Mf.refRead b = none ∧ e = .returned (.tuple #[.agg #[.int .i64 0, .slice none 0 0], .bool false])))
theorem rmdec_end {Q : Ending → World → Prop} {a : Act} {W : World} (g : Nat) (v : Int) (sv : Value) (ok : Bool) (h2 : a.tmps[2]? = some (.pointer (some ⟨g, 0, none⟩))) (h3 : a.tmps[3]? = some (.bool ok)) (hd : a.defers = [])
    (hW : W.heap[g]? = some (.cells #[.int .i64 v, sv] 31 (0, 0))) (hQ : Q (.returned (.tuple #[.agg #[.int .i64 v, sv], .bool ok])) W) : bodyPost Tryz.prog Tryz.f21 Q .ret a W := by
  have y0 : W.cell? ⟨g, 0, none⟩ = some (.int .i64 v) := root_cell hW 0 _ rfl
  have y1 : W.cell? ⟨g, 1, none⟩ = some sv := root_cell hW 1 _ rfl
  exact bodyPost_ret (v := .tuple #[.agg #[.int .i64 v, sv], .bool ok]) (by simp [results, Tryz.results21, go_sem, h2, h3, y0, y1]) hd hQ
/-- A failure: the result's block is as it was. -/
theorem rmdec_bad {b : List UInt8} {a : Act} {w W : World} (h2 : a.tmps[2]? = some (.pointer (some ⟨w.heap.size, 0, none⟩))) (h3 : a.tmps[3]? = some (.bool false)) (hd : a.defers = [])
    (hW : W.heap[w.heap.size]? = some (.cells #[.int .i64 0, .slice none 0 0] 31 (0, 0))) (hb : Below w.heap.size w W) (hn : Mf.refRead b = none) :
    bodyPost Tryz.prog Tryz.f21 (RMPost b w) .ret a ((W.setCell ⟨w.heap.size, 0, none⟩ (.int .i64 0)).setCell ⟨w.heap.size, 1, none⟩ (.slice none 0 0)) := by
  refine rmdec_end w.heap.size 0 (.slice none 0 0) false h2 h3 hd (heap_set (heap_set hW _) _) ⟨?_, .inr ⟨hn, rfl⟩⟩
  exact (hb.setCell (p := ⟨w.heap.size, 0, none⟩) (Nat.le_refl _) _).setCell (p := ⟨w.heap.size, 1, none⟩) (Nat.le_refl _) _
theorem rmdec_bad2 {b : List UInt8} {a : Act} {w W : World} {o : Obj} (h2 : a.tmps[2]? = some (.pointer (some ⟨w.heap.size, 0, none⟩))) (h3 : a.tmps[3]? = some (.bool false)) (hd : a.defers = [])
    (hW : W.heap[w.heap.size]? = some (.cells #[.int .i64 0, .slice none 0 0] 31 (0, 0))) (hb : Below w.heap.size w W) (hn : Mf.refRead b = none) :
    bodyPost Tryz.prog Tryz.f21 (RMPost b w) .ret a (((W.setCell ⟨w.heap.size, 0, none⟩ (.int .i64 0)).setCell ⟨w.heap.size, 1, none⟩ (.slice none 0 0)).alloc o) := by
  have h5 := heap_set (k := 1) (heap_set (k := 0) hW (.int .i64 0)) (.slice none 0 0)
  have hb5 := (hb.setCell (p := ⟨w.heap.size, 0, none⟩) (Nat.le_refl _) (.int .i64 0)).setCell (p := ⟨w.heap.size, 1, none⟩) (Nat.le_refl _) (.slice none 0 0)
  refine rmdec_end w.heap.size 0 (.slice none 0 0) false h2 h3 hd ?_ ⟨hb5.alloc hb5.size o, .inr ⟨hn, rfl⟩⟩
  rw [Lib.alloc_old _ _ _ (heap_lt h5)]
  exact h5
set_option maxHeartbeats 2000000 in
set_option maxRecDepth 100000 in
theorem rmdec_any (s : ByteArray) (w : World) (hs : s.size ≤ 1000000000) :
    Calls Tryz.prog 21 #[.string s] w (RMPost s.data.toList w) := by
  have hs0 : (0 : Int) ≤ (s.size : Int) := Int.natCast_nonneg _
  have hl := str_sz s
  obtain ⟨b, hb⟩ : ∃ b, b = s.data.toList := ⟨_, rfl⟩
  rw [← hb] at hl
  have HBL := Lib.hid hl
  have HBS := Lib.hid hb
  go_enter Tryz.func21, Tryz.ntmps21
  rw [← hb]
  clear hb hl
  have hb0 : Below w.heap.size w (w.alloc (.cells #[.int .i64 0, .slice none 0 0] 31)) := (Below.refl _ _).alloc (Nat.le_refl _) _
  have hr0 := heap_new w (.cells #[.int .i64 0, .slice none 0 0] 31)
  have HB0 := Lib.hid hb0
  have HR0 := Lib.hid hr0
  clear hb0 hr0
  go_wp2_with fail
  refine (rdec_any s _ (by omega)).mono ?_
  rintro e w1 ⟨he, hb1⟩
  unfold RDec at he
  rw [← HBS.out] at he
  obtain ⟨k, hk⟩ : ∃ k, k = (if Fr.decE b = 0 then Fr.kind b else 0) := ⟨_, rfl⟩
  obtain ⟨p, hp⟩ : ∃ p : ByteArray, p = ⟨(if Fr.decE b = 0 then Fr.pay b else []).toArray⟩ := ⟨_, rfl⟩
  rw [← hk, ← hp] at he
  obtain ⟨c, hc⟩ : ∃ c, c = Fr.decE b := ⟨_, rfl⟩
  rw [← hc] at he
  subst he
  have HB1 := Lib.hid (HB0.out.trans (hb1.mono HB0.out.size))
  have HR1 := Lib.hid ((hb1.block _ (heap_lt HR0.out)).trans HR0.out)
  have HC := Lib.hid hc
  have HK := Lib.hid hk
  have HP := Lib.hid hp
  clear hb1 hc hk hp
  have hr1 := HR1.out
  have hz1 : w.heap.size < w1.heap.size := heap_lt hr1
  have q0 : w1.frozen? ⟨w.heap.size, 0, none⟩ = false := root_frozen hr1 0
  have q1 : w1.frozen? ⟨w.heap.size, 1, none⟩ = false := root_frozen hr1 1
  have p0 : w1.cell? ⟨w.heap.size, 0, none⟩ = some (.int .i64 0) := root_cell hr1 0 _ rfl
  have p1 : w1.cell? ⟨w.heap.size, 1, none⟩ = some (.slice none 0 0) := root_cell hr1 1 _ rfl
  have HBW : Hid (Below w.heap.size w (w1.alloc (.cells #[.int .i64 k, .string p] 144))) := Lib.hid (HB1.out.alloc HB1.out.size _)
  clear hr1
  by_cases hc0 : c = 0
  · by_cases hk9 : k = 9
    · subst hc0
      subst hk9
      have HPB : Hid (p.data.toList = Fr.pay b) := by rw [HP.out, ← HC.out]; exact Lib.hid rfl
      have HRR : Hid (Mf.refRead b = (Mf.scan 0 0 [] (Fr.pay b)).bind fun ns => if ns.length < 2 then none else Mf.fit b ns) := by
        unfold Mf.refRead
        rw [if_neg (by have := HK.out; rw [← HC.out] at this ⊢; simp at this; intro h; rcases h with h | h; exact h rfl; exact h this.symm)]
        exact Lib.hid rfl
      have hps : p.size ≤ 1000000000 := by
        have h1 : p.size = (Fr.pay b).length := by rw [← HPB.out, str_sz]
        have h2 : (Fr.pay b).length ≤ b.length := by unfold Fr.pay; rw [List.length_take, List.length_drop]; omega
        have h3 := HBL.out
        omega
      have hp0 : (0 : Int) ≤ (p.size : Int) := Int.natCast_nonneg _
      obtain ⟨w2, hw2⟩ : ∃ x, x = w1.alloc (.cells #[.int .i64 9, .string p] 144) := ⟨_, rfl⟩
      have HR2 : Hid (w2.heap[w.heap.size]? = some (.cells #[.int .i64 0, .slice none 0 0] 31 (0, 0))) := Lib.hid (by rw [hw2, Lib.alloc_old _ _ _ hz1]; exact HR1.out)
      have HF2 : Hid (w2.heap[w1.heap.size]? = some (.cells #[.int .i64 9, .string p] 144 (0, 0))) := Lib.hid (by rw [hw2]; exact heap_new _ _)
      have HB2 : Hid (Below w.heap.size w w2) := by rw [hw2]; exact HBW
      have hz2 : w2.heap.size = w1.heap.size + 1 := by rw [hw2]; simp
      have HZ2 := Lib.hid hz2
      clear HC HK HP
      go_wp2_with fail
      rw [← hw2]
      clear hw2 hz2 q0 q1 p0 p1 HBW
      go_loopg [6, 7, 8, 9, 10] p.size (fun k s6 s7 s8 s9 s10 wr => ∃ (j n d : Nat) (acc : List Int), j ≤ p.size ∧ k = p.size - j ∧ s9 = .int .i64 (j : Nat) ∧ s7 = .int .i64 (n : Nat) ∧ s8 = .int .i64 (d : Nat) ∧ OwnI wr w2.heap.size s6 acc ∧ acc.length ≤ j ∧ Mf.scan n d acc (sfx p j) = Mf.scan 0 0 [] (Fr.pay b) ∧ n < 10 ^ d ∧ d ≤ 10 ∧ Below w2.heap.size w2 wr)
      case atStart => exact ⟨0, 0, 0, [], Nat.zero_le _, rfl, rfl, rfl, rfl, World.ownsRow_nil _ _ _ _, Nat.le_refl _, by unfold sfx; rw [List.drop_zero, HPB.out], by decide, by omega, Below.refl _ _⟩
      case round =>
        obtain ⟨j, n, d, acc, hj, hk, rfl, rfl, rfl, hOI, hal, hsc, hn, hd, hbr⟩ := hrel
        obtain ⟨sa, sn, sc, hsv, HSN⟩ := OwnI.form3 hOI
        subst hsv
        have HK := Lib.hid hk
        have HOI := Lib.hid hOI
        have HSC := Lib.hid hsc
        have HBR := Lib.hid hbr
        have HND := Lib.hid hn
        have hn10 : n < 10000000000 := Nat.lt_of_lt_of_le hn (Nat.pow_le_pow_right (by omega) hd)
        have hn0 : (0 : Int) ≤ (n : Int) := Int.natCast_nonneg _
        have hd0 : (0 : Int) ≤ (d : Int) := Int.natCast_nonneg _
        have hj0 : (0 : Int) ≤ (j : Int) := Int.natCast_nonneg _
        have hrF := (hbr.block _ (heap_lt HF2.out)).trans HF2.out
        have hrA := (hbr.block _ (heap_lt HR2.out)).trans HR2.out
        have HRF := Lib.hid hrF
        have HRA := Lib.hid hrA
        have f1 := root_cell hrF 1 _ rfl
        have HBWR := Lib.hid (HB2.out.trans (hbr.mono HB2.out.size))
        clear hk hOI hsc hbr hn hrF hrA
        by_cases hjn : j < p.size
        · have hjn1 : (j : Int) < (p.size : Int) := by omega
          have hc256 := bt_lt p j
          have HSX := Lib.hid (sfx_cons p j hjn)
          by_cases h10 : (bt p j).toNat = 10
          · have e10 := eqT (n := (bt p j).toNat) (k := 10) (by omega)
            have HNX : Hid (Mf.scan 0 0 (acc ++ [(n : Int)]) (sfx p (j + 1)) = Mf.scan 0 0 [] (Fr.pay b)) := by
              rw [← HSC.out, HSX.out, Mf.scan, if_pos h10]
              exact Lib.hid rfl
            have hbA : Below wr.heap.size wr (wr.alloc (.cells #[.int .i64 (n : Int)] 3)) := (Below.refl _ _).alloc (Nat.le_refl _) _
            have HOA := Lib.hid (HOI.out.keep hbA)
            have HNV := Lib.hid (OwnI.one wr (n : Int) wr.heap.size (Nat.le_refl _)).nums
            have hzr := HBR.out.size
            have HBA := Lib.hid (HBR.out.trans (hbA.mono hzr))
            have hzA : w2.heap.size ≤ (wr.alloc (.cells #[.int .i64 (n : Int)] 3)).heap.size := Nat.le_trans hzr hbA.size
            have hal2 : acc.length + 1 ≤ 2000000000 := by omega
            have HAL := Lib.hid hal2
            clear hbA hal2
            go_wp2_with (first | (at_builtin; refine wpList_append_nums rfl _ _ rfl w2.heap.size (.slice sa sn sc) acc rfl HOA.out (.slice (some ⟨wr.heap.size, 0, none⟩) 1 1) [(n : Int)] rfl HNV.out (by simp) (by have := HAL.out; rw [List.length_singleton]; omega) hzA ?_; intro d' w5 hown hgrow hloc; clear hloc; have HOWN := Lib.hid hown; have HGR := Lib.hid hgrow; clear hown hgrow) | fail)
            go_roundg (p.size - (j + 1))
            case measure => rw [HK.out]; omega
            case rel => exact ⟨j + 1, 0, 0, acc ++ [(n : Int)], by omega, rfl, by simp, rfl, rfl, HOWN.out, by rw [List.length_append, List.length_singleton]; omega, HNX.out, by decide, by omega, below_grown HBA.out hzA HOA.out HGR.out⟩
          · have e10 := eqF (n := (bt p j).toNat) (k := 10) (by omega)
            by_cases hdig : Sg.isDig (bt p j) = false ∨ 9 < d
            · have HN : Hid (Mf.refRead b = none) := by
                rw [HRR.out, ← HSC.out, HSX.out, Mf.scan, if_neg h10, if_pos hdig]
                exact Lib.hid rfl
              have q0 := root_frozen HRA.out 0
              have q1 := root_frozen HRA.out 1
              have p0 := root_cell HRA.out 0 _ rfl
              have p1 := root_cell HRA.out 1 _ rfl
              have hcs : (bt p j).toNat < 48 ∨ (48 ≤ (bt p j).toNat ∧ 57 < (bt p j).toNat) ∨ (48 ≤ (bt p j).toNat ∧ (bt p j).toNat ≤ 57 ∧ 9 < d) := by
                rcases hdig with h | h
                · unfold Sg.isDig at h
                  rw [Bool.and_eq_false_iff, decide_eq_false_iff_not, decide_eq_false_iff_not] at h
                  omega
                · omega
              clear hdig
              rcases hcs with hc1 | ⟨hc1, hc2⟩ | ⟨hc1, hc2, hc3⟩
              · have hc1' : ((bt p j).toNat : Int) < 48 := by omega
                go_wp2_with fail
                exact rmdec_bad rfl rfl rfl HRA.out HBWR.out HN.out
              · have hc1' : 48 ≤ ((bt p j).toNat : Int) := by omega
                have hc2' : 57 < ((bt p j).toNat : Int) := by omega
                go_wp2_with fail
                exact rmdec_bad rfl rfl rfl HRA.out HBWR.out HN.out
              · have hc1' : 48 ≤ ((bt p j).toNat : Int) := by omega
                have hc2' : ((bt p j).toNat : Int) ≤ 57 := by omega
                have hc3' : 9 < (d : Int) := by omega
                go_wp2_with fail
                exact rmdec_bad rfl rfl rfl HRA.out HBWR.out HN.out
            · have HNX : Hid (Mf.scan (n * 10 + ((bt p j).toNat - 48)) (d + 1) acc (sfx p (j + 1)) = Mf.scan 0 0 [] (Fr.pay b)) := by
                rw [← HSC.out, HSX.out, Mf.scan, if_neg h10, if_neg hdig]
                exact Lib.hid rfl
              have hdg : 48 ≤ (bt p j).toNat ∧ (bt p j).toNat ≤ 57 ∧ d ≤ 9 := by
                have h1 : ¬ Sg.isDig (bt p j) = false := fun h => hdig (.inl h)
                unfold Sg.isDig at h1
                simp at h1
                exact ⟨h1.1, h1.2, by omega⟩
              obtain ⟨h48, h57, hd9⟩ := hdg
              have g1 : (48 : Int) ≤ ((bt p j).toNat : Int) := by omega
              have g2 : ((bt p j).toNat : Int) ≤ 57 := by omega
              have g3 : (d : Int) ≤ 9 := by omega
              clear hdig
              go_wp2_with fail
              go_roundg (p.size - (j + 1))
              case measure => rw [HK.out]; omega
              case rel =>
                refine ⟨j + 1, n * 10 + ((bt p j).toNat - 48), d + 1, acc, by omega, rfl, by simp, ?_, by simp, HOI.out, by omega, HNX.out, ?_, by omega, HBR.out⟩
                · congr 1; omega
                · have := HND.out; rw [Nat.pow_succ]; omega
        · have hjn1 : (p.size : Int) ≤ (j : Int) := by omega
          have HEND : Hid (Mf.refRead b = if acc.length < 2 then none else Mf.fit b acc) := by
            rw [HRR.out, ← HSC.out, show sfx p j = [] from List.drop_eq_nil_of_le (by rw [str_sz]; omega)]
            exact Lib.hid rfl
          have hsnl : sn = acc.length := HSN.out
          have HAL2 : Hid (acc.length ≤ j ∧ j ≤ 1000000000) := Lib.hid ⟨hal, by omega⟩
          have q0 := root_frozen HRA.out 0
          have q1 := root_frozen HRA.out 1
          have p0 := root_cell HRA.out 0 _ rfl
          have p1 := root_cell HRA.out 1 _ rfl
          by_cases h2 : acc.length < 2
          · have HN : Hid (Mf.refRead b = none) := by rw [HEND.out, if_pos h2]; exact Lib.hid rfl
            have h2' : (sn : Int) < 2 := by omega
            clear hsnl
            go_wp2_with fail
            exact rmdec_bad rfl rfl rfl HRA.out HBWR.out HN.out
          · have h2' : 2 ≤ (sn : Int) := by omega
            obtain ⟨v, l, rfl⟩ : ∃ v l, acc = v :: l := by
              cases acc with
              | nil => exact absurd (by simp) h2
              | cons a r => exact ⟨a, r, rfl⟩
            have HFT : Hid (Mf.refRead b = if Mf.good v l = true ∧ Mf.enc v l = b then some (v, l) else none) := by rw [HEND.out, if_neg h2]; exact Lib.hid rfl
            have hsn1 : sn = l.length + 1 := by rw [hsnl]; rfl
            have HNI := Lib.hid (OwnI.nums HOI.out)
            rcases HOI.out.2 with ⟨h1, h2'⟩ | ⟨g, cap, cur, h1, hg, hb, hcap, hm, _, _⟩
            · simp at h2'
            simp only [Value.slice.injEq] at h1
            obtain ⟨rfl, hsl, rfl⟩ := h1
            have hcap2 : sn ≤ sc := by rw [hsl]; exact hcap
            obtain ⟨_, _, e1, hg2, c0⟩ := HNI.out.at (i := 0) (x := v) rfl
            simp only [Option.some.injEq, Addr.mk.injEq, and_true] at e1
            obtain ⟨rfl, rfl⟩ := e1
            rw [Nat.add_zero] at c0
            have hcap3 : (sn : Int) ≤ (sc : Int) := by omega
            have hsc1 : ¬ sc = 1 := by omega
            have hsn2 : (2 : Int) ≤ (sn : Int) := by omega
            have hsn0 : ¬ sn = 0 := by omega
            have HSN1 := Lib.hid hsn1
            clear hsnl hsl hcap hm hb hsn1
            go_wp2_with fail
            refine wp_region_phase (fun w' => w'.cell? ⟨g, 0, none⟩ = some (.int .i64 v)) 8 (by kernel_rfl) ?_
            have hS : wr.drew.cell? ⟨g, 0, none⟩ = some (.int .i64 v) := c0
            refine wpAnyB_take (i := 0) (v := (.slice (some ⟨g, 0, none⟩) sn sc)) (by kernel_rfl) (by decide) rfl (by kernel_rfl) (by kernel_rfl) (by kernel_rfl) (fun _ _ _ h => h) (Or.inl ⟨by rfl, fun w hSw => by go_simp⟩) hS ?_; simp only [Act.put, Array.getInternal_eq_getElem, List.getElem_toArray, List.getElem_cons_zero, List.getElem_cons_succ, List.setIfInBounds_toArray, List.set_cons_zero, List.set_cons_succ]
            refine wpAnyB_take (i := 1) (v := (.pointer (some ⟨g, 0, none⟩))) (by kernel_rfl) (by decide) rfl (by kernel_rfl) (by kernel_rfl) (by kernel_rfl) (fun _ _ _ h => h) (Or.inl ⟨by rfl, fun w hSw => by go_simp⟩) hS ?_; simp only [Act.put, Array.getInternal_eq_getElem, List.getElem_toArray, List.getElem_cons_zero, List.getElem_cons_succ, List.setIfInBounds_toArray, List.set_cons_zero, List.set_cons_succ]
            refine wpAnyB_take (i := 2) (v := (.int .i64 v)) (by kernel_rfl) (by decide) rfl (by kernel_rfl) (by kernel_rfl) (by kernel_rfl) (fun _ _ _ h => h) (Or.inl ⟨by rfl, fun w hSw => by go_simp⟩) hS ?_; simp only [Act.put, Array.getInternal_eq_getElem, List.getElem_toArray, List.getElem_cons_zero, List.getElem_cons_succ, List.setIfInBounds_toArray, List.set_cons_zero, List.set_cons_succ]
            refine wpAnyB_take (i := 3) (v := (.slice (some ⟨g, 0, none⟩) sn sc)) (by kernel_rfl) (by decide) rfl (by kernel_rfl) (by kernel_rfl) (by kernel_rfl) (fun _ _ _ h => h) (Or.inl ⟨by rfl, fun w hSw => by go_simp⟩) hS ?_; simp only [Act.put, Array.getInternal_eq_getElem, List.getElem_toArray, List.getElem_cons_zero, List.getElem_cons_succ, List.setIfInBounds_toArray, List.set_cons_zero, List.set_cons_succ]
            refine wpAnyB_take (i := 4) (v := (.slice (some ⟨g, 1, none⟩) (sn - 1) (sc - 1))) (by kernel_rfl) (by decide) rfl (by kernel_rfl) (by kernel_rfl) (by kernel_rfl) (fun _ _ _ h => h) (Or.inl ⟨by rfl, fun w hSw => by go_simp; (repeat' split) <;> first | rfl | omega⟩) hS ?_; simp only [Act.put, Array.getInternal_eq_getElem, List.getElem_toArray, List.getElem_cons_zero, List.getElem_cons_succ, List.setIfInBounds_toArray, List.set_cons_zero, List.set_cons_succ]
            refine wpAnyB_take (i := 5) (v := (.agg #[.int .i64 v, .slice (some ⟨g, 1, none⟩) (sn - 1) (sc - 1)])) (by kernel_rfl) (by decide) rfl (by kernel_rfl) (by kernel_rfl) (by kernel_rfl) (fun _ _ _ h => h) (Or.inl ⟨by rfl, fun w hSw => by go_simp⟩) hS ?_; simp only [Act.put, Array.getInternal_eq_getElem, List.getElem_toArray, List.getElem_cons_zero, List.getElem_cons_succ, List.setIfInBounds_toArray, List.set_cons_zero, List.set_cons_succ]
            refine wpAnyB_one (i := 6) (by kernel_rfl) ?_
            refine wpOp_intro (by decide) (fun K5 HK5 => ?_); simp only [List.drop_succ_cons, List.drop_zero, List.take_succ_cons, List.take_zero]
            go_wp2_with fail
            have hbN : Below wr.heap.size wr (wr.alloc (.cells #[.int .i64 0, .slice none 0 0] 31)).drew := Below.drew ((Below.refl _ _).alloc (Nat.le_refl _) _)
            have hNn : (wr.alloc (.cells #[.int .i64 0, .slice none 0 0] 31)).drew.heap[wr.heap.size]? = some (.cells #[.int .i64 0, .slice none 0 0] 31 (0, 0)) := heap_new wr _
            refine HK5.out _ _ ⟨fun _ => by rw [hbN.cell hg2]; exact c0, ?_⟩
            clear HK5 hS
            have r0 := root_frozen hNn 0
            have r1 := root_frozen hNn 1
            refine wpAnyB_one (i := 7) (by kernel_rfl) ?_
            refine wpOp_intro (by decide) (fun K6 HK6 => ?_); simp only [List.drop_succ_cons, List.drop_zero, List.take_succ_cons, List.take_zero]
            go_wp2_with fail
            have hb9 : Below wr.heap.size wr (wr.alloc (.cells #[.int .i64 v, .slice (some ⟨g, 1, none⟩) (sn - 1) (sc - 1)] 31)).drew := Below.drew ((Below.refl _ _).alloc (Nat.le_refl _) _)
            refine HK6.out _ _ ⟨fun _ => by rw [hb9.cell hg2]; exact c0, ?_⟩
            clear HK6
            refine wpAnyB_done (by kernel_rfl) ?_ _
            have hm9 : (wr.alloc (.cells #[.int .i64 v, .slice (some ⟨g, 1, none⟩) (sn - 1) (sc - 1)] 31)).drew.heap[wr.heap.size]? = some (.cells #[.int .i64 v, .slice (some ⟨g, 1, none⟩) (sn - 1) (sc - 1)] 31 (0, 0)) := heap_new wr _
            have HN9 : Hid (Nums (wr.alloc (.cells #[.int .i64 v, .slice (some ⟨g, 1, none⟩) (sn - 1) (sc - 1)] 31)).drew (.slice (some ⟨g, 1, none⟩) (sn - 1) (sc - 1)) l) := Lib.hid ⟨some ⟨g, 1, none⟩, sc - 1, by rw [show sn - 1 = l.length by have := HSN1.out; omega], fun i x hi => by
              obtain ⟨_, _, e1, h1, h2⟩ := HNI.out.at (i := i + 1) (x := x) hi
              simp only [Option.some.injEq, Addr.mk.injEq, and_true] at e1
              obtain ⟨rfl, rfl⟩ := e1
              refine ⟨_, 1, rfl, Nat.lt_of_lt_of_le h1 hb9.size, ?_⟩
              rw [hb9.cell h1, show 1 + i = 0 + (i + 1) by omega]
              exact h2⟩
            have HLL : Hid (l.length ≤ 9223372036854775807) := Lib.hid (by have := HAL2.out; simp at this; omega)
            have HA9 := Lib.hid ((hb9.block _ (heap_lt HRA.out)).trans HRA.out)
            have HM9 := Lib.hid hm9
            have HB9 := Lib.hid (HBWR.out.trans (hb9.mono HBWR.out.size))
            have s0 := root_cell hm9 0 _ rfl
            have s1 := root_cell hm9 1 _ rfl
            clear hb9 hm9 q0 q1 p0 p1 r0 r1 hNn hbN c0
            obtain ⟨W9, hW9⟩ : ∃ x, x = (wr.alloc (.cells #[.int .i64 v, .slice (some ⟨g, 1, none⟩) (sn - 1) (sc - 1)] 31)).drew := ⟨_, rfl⟩
            rw [← hW9] at HN9 HA9 HM9 HB9 s0 s1 ⊢
            clear hW9
            go_wp2_with fail
            refine (rgood_any v _ l W9 HN9.out HLL.out).mono ?_
            rintro e w10 ⟨rfl, hb10⟩
            have hA10 := (hb10.block _ (heap_lt HA9.out)).trans HA9.out
            have hM10 := (hb10.block _ (heap_lt HM9.out)).trans HM9.out
            have HA10 := Lib.hid hA10
            have HM10 := Lib.hid hM10
            have HB10 := Lib.hid (HB9.out.trans (hb10.mono HB9.out.size))
            have q0 := root_frozen hA10 0
            have q1 := root_frozen hA10 1
            have p0 := root_cell hA10 0 _ rfl
            have p1 := root_cell hA10 1 _ rfl
            have t0 := root_cell hM10 0 _ rfl
            have t1 := root_cell hM10 1 _ rfl
            have HN10 := Lib.hid (HN9.out.below hb10)
            clear hA10 hM10 hb10 s0 s1
            cases hgd : Mf.good v l
            · have HN : Hid (Mf.refRead b = none) := by rw [HFT.out, if_neg (by rw [hgd]; simp)]; exact Lib.hid rfl
              clear hgd
              go_wp2_with fail
              exact rmdec_bad rfl rfl rfl HA10.out HB10.out HN.out
            · have HGD := Lib.hid hgd
              clear hgd
              go_wp2_with fail
              refine (rmenc_any v _ l w10 HN10.out HGD.out).mono ?_
              rintro e w11 ⟨rfl, hb11⟩
              obtain ⟨u, hu⟩ : ∃ t : ByteArray, t = ⟨(Mf.enc v l).toArray⟩ := ⟨_, rfl⟩
              rw [← hu]
              have hA11 := (hb11.block _ (heap_lt HA10.out)).trans HA10.out
              have hM11 := (hb11.block _ (heap_lt HM10.out)).trans HM10.out
              have HA11 := Lib.hid hA11
              have HM11 := Lib.hid hM11
              have HB11 := Lib.hid (HB10.out.trans (hb11.mono HB10.out.size))
              have HN11 := Lib.hid (HN10.out.below hb11)
              have q0 := root_frozen hA11 0
              have q1 := root_frozen hA11 1
              have p0 := root_cell hA11 0 _ rfl
              have p1 := root_cell hA11 1 _ rfl
              have t0 := root_cell hM11 0 _ rfl
              have t1 := root_cell hM11 1 _ rfl
              have hue : (u.toList == s.toList) = decide (Mf.enc v l = b) := by
                rw [ByteArray.toList_eq, ByteArray.toList_eq, Bool.eq_iff_iff, beq_iff_eq, decide_eq_true_eq, ← HBS.out, hu]
              obtain ⟨c, hc⟩ : ∃ c : Bool, c = (u.toList == s.toList) := ⟨_, rfl⟩
              rw [← hc] at hue
              have HC := Lib.hid hc
              clear hb11 hu hA11 hM11 hc
              cases c
              · have HN : Hid (Mf.refRead b = none) := by rw [HFT.out, if_neg (fun h => of_decide_eq_false hue.symm h.2)]; exact Lib.hid rfl
                have hut := HC.out.symm
                clear hue
                go_wp2_with fail
                exact rmdec_bad rfl rfl rfl HA11.out HB11.out HN.out
              · have HS : Hid (Mf.refRead b = some (v, l)) := by rw [HFT.out, if_pos ⟨HGD.out, of_decide_eq_true hue.symm⟩]; exact Lib.hid rfl
                have hut := HC.out.symm
                clear hue
                go_wp2_with fail
                refine rmdec_end w.heap.size v (.slice (some ⟨g, 1, none⟩) (sn - 1) (sc - 1)) true rfl rfl rfl (heap_set (heap_set HA11.out _) _) ⟨?_, .inl ⟨v, l, _, HS.out, rfl, ?_⟩⟩
                · exact (HB11.out.setCell (p := ⟨w.heap.size, 0, none⟩) (Nat.le_refl _) _).setCell (p := ⟨w.heap.size, 1, none⟩) (Nat.le_refl _) _
                · have hne : g ≠ w.heap.size := by
                    have h1 := HB2.out.size
                    have h2 := HZ2.out
                    have h3 : w2.heap.size ≤ g := hg
                    omega
                  refine ⟨some ⟨g, 1, none⟩, sc - 1, by rw [show sn - 1 = l.length by have := HSN1.out; omega], fun i x hi => ?_⟩
                  obtain ⟨_, _, e1, h1, h2⟩ := HN11.out.at hi
                  cases e1
                  refine ⟨g, 1, rfl, by simpa [World.setCell] using h1, ?_⟩
                  rw [World.cell?_of_block ((Below.heap_setCell _ _ _ _ hne).trans (Below.heap_setCell _ _ _ _ hne))]
                  exact h2
    · have hk9' : (k != 9) = true := by rw [bne_iff_ne]; exact hk9
      have HN : Hid (Mf.refRead b = none) := by
        unfold Mf.refRead
        rw [if_pos (.inr (by have := HK.out; rw [← HC.out, if_pos hc0] at this; rw [← this]; exact hk9))]
        exact Lib.hid rfl
      subst hc0
      go_wp2_with fail
      exact rmdec_bad2 rfl rfl rfl HR1.out HB1.out HN.out
  · have hc' : (c != 0) = true := by rw [bne_iff_ne]; exact hc0
    have HN : Hid (Mf.refRead b = none) := by
      unfold Mf.refRead
      rw [if_pos (.inl (by rw [← HC.out]; exact hc0))]
      exact Lib.hid rfl
    go_wp2_with fail
    exact rmdec_bad2 rfl rfl rfl HR1.out HB1.out HN.out
end Go.Proofs.YtcinagglbkbmkaaGreatDoor
namespace Go.Proofs.YtcinagglbkbmkaaGreatDoor
set_option linter.unusedSimpArgs false
set_option linter.unusedVariables false
open Go Go.RowKit
open Go.Maps Go.WideMaps

theorem mload_end {Q : Ending → World → Prop} {a : Act} {W : World} (g : Nat) (ver c : Int) (sv : Value) (h2 : a.tmps[2]? = some (.pointer (some ⟨g, 0, none⟩))) (h3 : a.tmps[3]? = some (.int .i64 c)) (hd : a.defers = [])
    (hW : W.heap[g]? = some (.cells #[.int .i64 ver, sv] 24 (0, 0))) (hQ : Q (.returned (.tuple #[.agg #[.int .i64 ver, sv], .int .i64 c])) W) : bodyPost Tryz.prog Tryz.f27 Q .ret a W := by
  have y0 : W.cell? ⟨g, 0, none⟩ = some (.int .i64 ver) := root_cell hW 0 _ rfl
  have y1 : W.cell? ⟨g, 1, none⟩ = some sv := root_cell hW 1 _ rfl
  exact bodyPost_ret (v := .tuple #[.agg #[.int .i64 ver, sv], .int .i64 c]) (by simp [results, Tryz.results27, go_sem, h2, h3, y0, y1]) hd hQ
/-- What 'Load' leaves. -/
def MLoadPost (st : Fs.St) (w : World) (e : Ending) (w' : World) : Prop :=
  Below w.heap.size w w' ∧ ∃ sv, e = .returned (.tuple #[.agg #[.int .i64 (Mf.load st).1.1, sv], .int .i64 (Mf.load st).2]) ∧ OwnI w' w.heap.size sv (Mf.load st).1.2
set_option maxHeartbeats 1000000 in
set_option maxRecDepth 100000 in
theorem load_any (base B : Nat) (st : Fs.St) (V : FsV) (own : Nat → Tag) (w : World) (h : FsOK base B st V own w) (hE : MEnv base w) (hbase : base ≤ w.heap.size) (k : Nat) (hS : Fs.Sound st k) :
    Calls Tryz.prog 27 #[.pointer (some ⟨B, 0, none⟩)] w (MLoadPost st w) := by
  have hb0 : Below w.heap.size w (w.alloc (.cells #[.int .i64 0, .slice none 0 0] 24)) := (Below.refl _ _).alloc (Nat.le_refl _) _
  have hr0 := heap_new w (.cells #[.int .i64 0, .slice none 0 0] 24)
  have H := Lib.hid h
  have HE := Lib.hid hE
  have HB0 := Lib.hid hb0
  have HR0 := Lib.hid hr0
  have hfull := hS.full
  have HFU := Lib.hid hfull
  clear h hE hb0 hr0 hfull
  go_enter Tryz.func27, Tryz.ntmps27
  go_wp2_with fail
  refine (read_any base B st V own finalB _ (H.out.kept (kept_below HB0.out)) (by decide) (fun f hf => by have := (HFU.out f hf).2; omega)).mono ?_
  rintro e w1 ⟨hb1, hres⟩
  have HB1 := Lib.hid (HB0.out.trans (hb1.mono HB0.out.size))
  have hr1 : w1.heap[w.heap.size]? = some (.cells #[.int .i64 0, .slice none 0 0] 24 (0, 0)) := by rw [hb1.block _ (heap_lt HR0.out)]; exact HR0.out
  have HR1 := Lib.hid hr1
  have hz1 : w.heap.size < w1.heap.size := heap_lt hr1
  have hb01 : w.heap.size + 1 ≤ w1.heap.size := hz1
  rw [show finalB.data.toList = Mf.final from rfl] at hres
  clear hb1
  rcases hres with ⟨h0, f, v2, hf, rfl, ho2⟩ | ⟨h0, rfl⟩
  · have hfa : Fs.fileAt st Mf.final = f.1 := by unfold Fs.fileAt; rw [hf]
    have hfl := (HFU.out f (List.mem_of_getElem? hf)).2
    obtain ⟨da, dn, dc, hv2, HDN⟩ := OwnB.form3 ho2
    subst hv2
    have HO2 := Lib.hid ho2
    have HL : Hid (Mf.load st = match Mf.read f.1 with | some m => (m, 0) | none => ((0, []), 2)) := by
      unfold Mf.load
      rw [if_neg (by simp [h0]), hfa]
      exact Lib.hid rfl
    clear hf h0 ho2 hfa hr1
    go_wp2_with fail
    refine (mdecode_any _ f.1 w1 base (HE.out.below (HB1.out.mono hbase)) (Nat.le_trans hbase HB1.out.size) HO2.out.byts (by omega)).mono ?_
    rintro e w2 ⟨hb2, hres⟩
    have HB2 := Lib.hid (HB1.out.trans (hb2.mono HB1.out.size))
    have hr2 : w2.heap[w.heap.size]? = some (.cells #[.int .i64 0, .slice none 0 0] 24 (0, 0)) := by rw [hb2.block _ hz1]; exact HR1.out
    have HR2 := Lib.hid hr2
    have p0 : w2.frozen? ⟨w.heap.size, 0, none⟩ = false := root_frozen hr2 0
    have p1 : w2.frozen? ⟨w.heap.size, 1, none⟩ = false := root_frozen hr2 1
    have z0 : w2.cell? ⟨w.heap.size, 0, none⟩ = some (.int .i64 0) := root_cell hr2 0 _ rfl
    have z1 : w2.cell? ⟨w.heap.size, 1, none⟩ = some (.slice none 0 0) := root_cell hr2 1 _ rfl
    clear hb2 hr2
    rcases hres with ⟨v, l, sv, hrd, rfl, hoi⟩ | ⟨hrd, rfl⟩
    · rw [hrd] at HL
      obtain ⟨sva, svn, svc, hsv, HSVN⟩ := OwnI.form3 hoi
      subst hsv
      have HOI := Lib.hid hoi
      clear hoi hrd
      go_wp2_with fail
      refine mload_end w.heap.size v 0 (.slice sva svn svc) rfl rfl rfl (heap_set (heap_set HR2.out _) _) ?_
      refine ⟨((HB2.out.setCell (p := ⟨w.heap.size, 0, none⟩) (Nat.le_refl _) _).setCell (p := ⟨w.heap.size, 1, none⟩) (Nat.le_refl _) _), .slice sva svn svc, by rw [HL.out], ?_⟩
      rw [HL.out]
      refine row_kept (HOI.out.mono2 (by omega)) (fun g hg => ?_)
      have := (World.ownsRow.lt HOI.out g hg).1
      rw [Below.heap_setCell _ _ _ _ (by show g ≠ w.heap.size; omega), Below.heap_setCell _ _ _ _ (by show g ≠ w.heap.size; omega)]
    · rw [hrd] at HL
      clear hrd
      go_wp2_with fail
      refine mload_end w.heap.size 0 2 _ rfl rfl rfl (heap_set (heap_set HR2.out _) _) ?_
      exact ⟨((HB2.out.setCell (p := ⟨w.heap.size, 0, none⟩) (Nat.le_refl _) _).setCell (p := ⟨w.heap.size, 1, none⟩) (Nat.le_refl _) _), .slice none 0 0, by rw [HL.out], by rw [HL.out]; exact World.ownsRow_nil _ _ _ _⟩
  · have HL : Hid (Mf.load st = ((0, []), Fs.openE st Mf.final)) := by unfold Mf.load; rw [if_pos h0]; exact Lib.hid rfl
    have p0 : w1.frozen? ⟨w.heap.size, 0, none⟩ = false := root_frozen hr1 0
    have p1 : w1.frozen? ⟨w.heap.size, 1, none⟩ = false := root_frozen hr1 1
    have z0 : w1.cell? ⟨w.heap.size, 0, none⟩ = some (.int .i64 0) := root_cell hr1 0 _ rfl
    have z1 : w1.cell? ⟨w.heap.size, 1, none⟩ = some (.slice none 0 0) := root_cell hr1 1 _ rfl
    obtain ⟨E, hEE⟩ : ∃ E, E = Fs.openE st Mf.final := ⟨_, rfl⟩
    rw [← hEE] at h0 HL ⊢
    have hte : (E != 0) = true := by rw [bne_iff_ne]; exact h0
    clear hr1 h0 hEE
    go_wp2_with fail
    refine mload_end w.heap.size 0 E _ rfl rfl rfl (heap_set (heap_set HR1.out _) _) ?_
    exact ⟨((HB1.out.setCell (p := ⟨w.heap.size, 0, none⟩) (Nat.le_refl _) _).setCell (p := ⟨w.heap.size, 1, none⟩) (Nat.le_refl _) _), .slice none 0 0, by rw [HL.out], by rw [HL.out]; exact World.ownsRow_nil _ _ _ _⟩
end Go.Proofs.YtcinagglbkbmkaaGreatDoor
namespace Go.Proofs.YtcinagglbkbmkaaGreatDoor
set_option linter.unusedSimpArgs false
set_option linter.unusedVariables false
open Go Go.RowKit
open Go.Maps Go.WideMaps

set_option maxHeartbeats 1000000 in
set_option maxRecDepth 100000 in
theorem ints_any (a b : Value) (l m : List Int) (w : World) (ha : Nums w a l) (hb : Nums w b m) (hl : l.length ≤ 1000000000) (hm : m.length ≤ 1000000000) :
    Calls Tryz.prog 42 #[a, b] w fun e w' => e = .returned (.bool (decide (l = m))) ∧ Below w.heap.size w w' := by
  obtain ⟨aa, ac, rfl⟩ := ha.form
  obtain ⟨ba, bc, rfl⟩ := hb.form
  have HA := Lib.hid ha
  have HB := Lib.hid hb
  clear ha hb
  go_enter Tryz.func42, Tryz.ntmps42
  by_cases hlen : l.length = m.length
  · have ht : ((l.length : Int) != (m.length : Int)) = false := by rw [hlen]; simp
    have ht2 : (l.length != m.length) = false := by rw [hlen]; simp
    have HLEN := Lib.hid hlen
    clear hlen
    go_wp2_with fail
    go_loopg [13] l.length (fun k s13 wr => ∃ j : Nat, j ≤ l.length ∧ k = l.length - j ∧ s13 = .int .i64 (j : Nat) ∧ l.take j = m.take j ∧ ∃ n, wr = w.drewN n)
    case atStart => exact ⟨0, Nat.zero_le _, rfl, rfl, by simp, 0, rfl⟩
    case round =>
      obtain ⟨j, hj, hk, rfl, htk, nd, rfl⟩ := hrel
      have HK := Lib.hid hk
      have HTK := Lib.hid htk
      clear hk htk
      have hj0 : (0 : Int) ≤ (j : Int) := Int.natCast_nonneg _
      by_cases hjn : j < l.length
      · have hjn1 : (j : Int) < (l.length : Int) := by omega
        have hjn2 : (j : Int) < (m.length : Int) := by have := HLEN.out; omega
        obtain ⟨x, hx⟩ : ∃ x, l[j]? = some x := ⟨_, List.getElem?_eq_getElem hjn⟩
        obtain ⟨y, hy⟩ : ∃ y, m[j]? = some y := ⟨_, List.getElem?_eq_getElem (by omega)⟩
        obtain ⟨g1, o1, rfl, hg1, c1⟩ := HA.out.at hx
        obtain ⟨g2, o2, rfl, hg2, c2⟩ := HB.out.at hy
        have HX := Lib.hid hx
        have HY := Lib.hid hy
        clear hx hy
        go_wp2_with fail
        refine wp_region_cuts [] (by kernel_rfl) (by kernel_rfl) ?_; simp only [wpMix, List.take_succ_cons, List.take_zero, List.drop_succ_cons, List.drop_zero, Nat.sub_zero, Nat.reduceSub, Nat.reduceAdd]
        repeat (go_big_quiet_step (fail))
        refine wpQuiet_nil ?_; rintro _ ⟨nq, rfl⟩
        by_cases hxy : x = y
        · subst hxy
          go_wp2_with fail
          go_roundg (l.length - (j + 1))
          case measure => rw [HK.out]; omega
          case rel => exact ⟨j + 1, by omega, rfl, by simp, by rw [List.take_add_one, List.take_add_one, HTK.out, HX.out, HY.out], nd + nq, by first | rfl | (simp [World.drewN]; omega)⟩
        · have hne : (x != y) = true := by rw [bne_iff_ne]; exact hxy
          have HE : Hid (decide (l = m) = false) := Lib.hid (decide_eq_false (fun e => hxy (by have := HX.out; rw [e, HY.out] at this; exact (Option.some.inj this).symm)))
          clear hxy
          go_wp2_with fail
          go_ret
          exact ⟨by rw [HE.out]; rfl, Below.drewN (Below.drewN (Below.refl _ _) _) _⟩
      · have hjn1 : (l.length : Int) ≤ (j : Int) := by omega
        have HE : Hid (decide (l = m) = true) := by
          have h1 := HTK.out
          rw [List.take_of_length_le (by omega), List.take_of_length_le (by have := HLEN.out; omega)] at h1
          exact Lib.hid (decide_eq_true h1)
        go_wp2_with fail
        go_ret
        exact ⟨by rw [HE.out]; rfl, Below.drewN (Below.refl _ _) _⟩
  · have ht : ((l.length : Int) != (m.length : Int)) = true := by rw [bne_iff_ne]; omega
    have ht2 : (l.length != m.length) = true := by rw [bne_iff_ne]; exact hlen
    have HE : Hid (decide (l = m) = false) := Lib.hid (decide_eq_false (fun e => hlen (by rw [e])))
    clear hlen
    go_wp2_with fail
    go_ret
    exact ⟨by rw [HE.out]; rfl, Below.refl _ _⟩
set_option maxHeartbeats 1000000 in
set_option maxRecDepth 100000 in
theorem lref_any (v : Int) (a : Option Addr) (n c : Nat) (w : World) :
    Calls Tryz.prog 16 #[.agg #[.int .i64 v, .slice a n c]] w fun e w' => e = .returned (.agg #[.int .i64 v, .slice a n c]) ∧ Below w.heap.size w w' := by
  go_enter Tryz.func16, Tryz.ntmps16
  go_wp2_with fail
  have hr := heap_new (w.alloc (.cells #[.int .i64 v, .slice a n c] 24)) (.cells #[.int .i64 v, .slice a n c] 31)
  rw [show (w.alloc (.cells #[.int .i64 v, .slice a n c] 24)).heap.size = w.heap.size + 1 by simp] at hr
  have y0 := root_cell hr 0 _ rfl
  have y1 := root_cell hr 1 _ rfl
  refine bodyPost_ret (v := .agg #[.int .i64 v, .slice a n c]) (by simp [results, Tryz.results16, go_sem, y0, y1]) rfl ?_
  exact ⟨rfl, ((Below.refl _ _).alloc (Nat.le_refl _) _).alloc (by simp) _⟩
set_option maxHeartbeats 1000000 in
set_option maxRecDepth 100000 in
theorem lsame_any (v u : Int) (a b : Value) (l m : List Int) (w : World) (ha : Nums w a l) (hb : Nums w b m) (hl : l.length ≤ 1000000000) (hm : m.length ≤ 1000000000) :
    Calls Tryz.prog 20 #[.agg #[.int .i64 v, a], .agg #[.int .i64 u, b]] w fun e w' => e = .returned (.bool (decide (v = u ∧ l = m))) ∧ Below w.heap.size w w' := by
  obtain ⟨aa, ac, rfl⟩ := ha.form
  obtain ⟨ba, bc, rfl⟩ := hb.form
  have hb0 : Below w.heap.size w ((w.alloc (.cells #[.int .i64 v, .slice aa l.length ac] 24)).alloc (.cells #[.int .i64 u, .slice ba m.length bc] 31)) := ((Below.refl _ _).alloc (Nat.le_refl _) _).alloc (by simp) _
  have HA := Lib.hid (ha.below hb0)
  have HB := Lib.hid (hb.below hb0)
  have HB0 := Lib.hid hb0
  clear ha hb hb0
  go_enter Tryz.func20, Tryz.ntmps20
  by_cases hvu : v = u
  · subst hvu
    have ht : (v == v) = true := by simp
    go_wp2_with fail
    refine (ints_any _ _ l m _ HA.out HB.out hl hm).mono ?_
    rintro e w1 ⟨rfl, hb1⟩
    have HB1 := Lib.hid (HB0.out.trans (hb1.mono HB0.out.size))
    clear hb1
    go_wp2_with fail
    go_ret
    refine ⟨congrArg (fun b => Ending.returned (.bool b)) ?_, HB1.out⟩
    by_cases h : l = m <;> simp [h]
  · have ht : (v == u) = false := by rw [beq_eq_false_iff_ne]; exact hvu
    have HF : Hid (decide (v = u ∧ l = m) = false) := Lib.hid (decide_eq_false (fun h => hvu h.1))
    clear hvu
    go_wp2_with fail
    go_ret
    exact ⟨by rw [HF.out]; rfl, HB0.out⟩
namespace Mf
theorem digits3 : pay [3, 1, 12] = [51, 10, 49, 10, 49, 50, 10] := by
  have h3 := Lib.itoa_nonneg 3
  have h1 := Lib.itoa_nonneg 1
  have h12 := Lib.itoa_nonneg 12
  rw [Lib.decDigits_one (by omega)] at h3 h1
  rw [Lib.decDigits_two (by omega) (by omega)] at h12
  unfold pay
  simp only [List.flatMap_cons, List.flatMap_nil]
  rw [show (3 : Int) = ((3 : Nat) : Int) from rfl, h3, show (1 : Int) = ((1 : Nat) : Int) from rfl, h1, show (12 : Int) = ((12 : Nat) : Int) from rfl, h12]
  rfl
theorem good3 : good 3 [1, 12] = true := by decide
theorem enc3 : (enc 3 [1, 12]).length = 16 ∧ ((enc 3 [1, 12]).drop 5).take 7 = [51, 10, 49, 10, 49, 50, 10] := by
  have h1 : (enc 3 [1, 12]).length = 16 := by unfold enc; rw [Fr.bytes_len, digits3]; rfl
  have h2 : Fr.pay (enc 3 [1, 12]) = pay [3, 1, 12] := Fr.pay_bytes
  refine ⟨h1, ?_⟩
  rw [← digits3, ← h2]
  unfold Fr.pay
  rw [h1]
theorem saved3 : ∃ st, Mf.save (Fs.new 1000) 3 [1, 12] = (st, 0) ∧ Mf.load st = ((3, [1, 12]), 0) ∧ Fs.openE st final = 0 ∧ Fs.fileAt st final = enc 3 [1, 12] ∧ Fs.Sound st 20 ∧ Fs.PlanOK st := by
  obtain ⟨h1, _, _, _, _, h2⟩ := save_calm (st := Fs.new 1000) ⟨rfl, rfl⟩ (Fs.Inv.new 1000) good3 (by decide) (M := 0) (fun n b h => by rw [Fs.look_new] at h; cases h) (by decide) (fun f hf => by cases hf)
  have h3 := h2 final
  rw [if_pos rfl] at h3
  obtain ⟨h4, h5⟩ := Fs.look_some h3
  obtain ⟨h6, h7⟩ := save_sound (st := Fs.new 1000) (k := 0) (Fs.Sound.new ⟨by decide, by decide⟩ 0) (fun z hz => by cases hz) 3 [1, 12]
  exact ⟨(save (Fs.new 1000) 3 [1, 12]).1, Prod.ext rfl h1, load_look good3 h3, Fs.openE_of good_final h4, h5, h6.mono (by omega), h7⟩
end Mf
set_option maxHeartbeats 1000000 in
set_option maxRecDepth 100000 in
theorem mawake_any (w : World) (B : Nat) (hE : MEnv B w) (hB : B ≤ w.heap.size) :
    Calls Tryz.prog 13 #[] w fun e w' => e = .returned (.bool true) ∧ Below w.heap.size w w' := by
  have HE := Lib.hid hE
  clear hE
  obtain ⟨st, hsv, hld, hop, hfa, hso, hpl⟩ := Mf.saved3
  have HSV := Lib.hid hsv
  have HLD := Lib.hid hld
  have HOP := Lib.hid hop
  have HFA := Lib.hid hfa
  have HSO := Lib.hid hso
  clear hsv hld hop hfa hso hpl
  go_enter Tryz.func13, Tryz.ntmps13
  go_wp2_with fail
  refine (new_any 1000 w).mono ?_
  rintro e w1 ⟨hb1, hres⟩
  have HB1 := Lib.hid hb1
  rcases hres with ⟨h, rfl⟩ | ⟨_, rfl, V, hok⟩
  · omega
  · have hz1 := hb1.size
    have hbA : Below w1.heap.size w1 (w1.alloc (.cells #[.int .i64 1, .int .i64 12] 3)) := (Below.refl _ _).alloc (Nat.le_refl _) _
    have HNI : Hid (Nums (w1.alloc (.cells #[.int .i64 1, .int .i64 12] 3)) (.slice (some ⟨w1.heap.size, 0, none⟩) 2 2) [1, 12]) :=
      Lib.hid (OwnI.nums (base := w1.heap.size) (World.ownsRow_lit (base := w1.heap.size) (e := 3) (size := 1) w1 #[.int .i64 1, .int .i64 12] 2 (Nat.le_refl _) (by unfold maxLen; omega) rfl))
    have HE1 := Lib.hid ((HE.out.below (hb1.mono hB)).mono hB)
    have HOK := Lib.hid (hok.kept (kept_below hbA))
    have HBA := Lib.hid (hb1.trans (hbA.mono hz1))
    have HE2 := Lib.hid (HE1.out.below (hbA.mono hz1))
    clear hb1 hok hbA
    go_wp2_with fail
    refine (save_any w.heap.size (w.heap.size + 2) (Fs.new 1000) V _ 3 _ [1, 12] _ HOK.out HE2.out.sg HBA.out.size 0 (Fs.Sound.new ⟨by decide, by decide⟩ 0) (by omega) (fun z hz => by cases hz) HNI.out (by simp)).mono ?_
    rintro e w2 ⟨rfl, hp2⟩
    rw [HSV.out] at hp2 ⊢
    have hb2 := hp2.below0 HOK.out HBA.out.size
    obtain ⟨V2, own2, h2, _, _⟩ := hp2
    have H2 := Lib.hid h2
    have HB2 := Lib.hid (HBA.out.trans hb2)
    have HE3 := Lib.hid (HE2.out.below hb2)
    clear hb2 h2
    go_wp2_with fail
    refine (load_any w.heap.size (w.heap.size + 2) st V2 own2 w2 H2.out HE3.out HB2.out.size 20 HSO.out).mono ?_
    rintro e w3 ⟨hb3, sv, rfl, hoi⟩
    rw [HLD.out] at hoi ⊢
    obtain ⟨sva, svn, svc, hsv, HSVN⟩ := OwnI.form3 hoi
    subst hsv
    have HOI := Lib.hid hoi
    have HB3 := Lib.hid (HB2.out.trans (hb3.mono HB2.out.size))
    have hbC : Below w3.heap.size w3 (w3.alloc (.cells #[.int .i64 3, .slice sva svn svc] 24)) := (Below.refl _ _).alloc (Nat.le_refl _) _
    have HBC := Lib.hid (HB3.out.trans (hbC.mono HB3.out.size))
    have H3 := Lib.hid (H2.out.kept (kept_below (hb3.trans (hbC.mono hb3.size))))
    have hr3 := heap_new w3 (.cells #[.int .i64 3, .slice sva svn svc] 24)
    have HR3 := Lib.hid hr3
    have HOI3 := Lib.hid (HOI.out.keep hbC)
    clear hb3 hoi hbC hr3
    go_wp2_with fail
    refine (read_any w.heap.size (w.heap.size + 2) st V2 own2 finalB _ H3.out (by decide) (fun f hf => by have := (HSO.out.full f hf).2; omega)).mono ?_
    rintro e w4 ⟨hb4, hres⟩
    rw [show finalB.data.toList = Mf.final from rfl] at hres
    rcases hres with ⟨_, f, v2, hf, rfl, ho2⟩ | ⟨hx, _⟩
    · have hf1 : f.1 = Mf.enc 3 [1, 12] := by have := HFA.out; unfold Fs.fileAt at this; rw [hf] at this; exact this
      rw [hf1] at ho2
      obtain ⟨g, c, hv2⟩ := row_form ho2 (by rw [Mf.enc3.1]; omega)
      rw [Mf.enc3.1] at hv2
      subst hv2
      have HB4 := Lib.hid (HBC.out.trans (hb4.mono HBC.out.size))
      have hr4 : w4.heap[w3.heap.size]? = some (.cells #[.int .i64 3, .slice sva svn svc] 24 (0, 0)) := by rw [hb4.block _ (heap_lt HR3.out)]; exact HR3.out
      have y0 : w4.cell? ⟨w3.heap.size, 0, none⟩ = some (.int .i64 3) := root_cell hr4 0 _ rfl
      have y1 : w4.cell? ⟨w3.heap.size, 1, none⟩ = some (.slice sva svn svc) := root_cell hr4 1 _ rfl
      have hbD : Below w4.heap.size w4 (w4.alloc (.cells #[.int .i64 1, .int .i64 12] 3)) := (Below.refl _ _).alloc (Nat.le_refl _) _
      have HBD := Lib.hid (HB4.out.trans (hbD.mono HB4.out.size))
      have HN4 := Lib.hid ((HOI3.out.keep hb4).keep hbD).nums
      have HNI4 : Hid (Nums (w4.alloc (.cells #[.int .i64 1, .int .i64 12] 3)) (.slice (some ⟨w4.heap.size, 0, none⟩) 2 2) [1, 12]) :=
        Lib.hid (OwnI.nums (base := w4.heap.size) (World.ownsRow_lit (base := w4.heap.size) (e := 3) (size := 1) w4 #[.int .i64 1, .int .i64 12] 2 (Nat.le_refl _) (by unfold maxLen; omega) rfl))
      have HBY := Lib.hid (ho2.byts.below hbD)
      have hc16 : 16 ≤ c := by
        obtain ⟨_, c9, e9, hc9⟩ := ho2.byts.form
        simp only [Value.slice.injEq] at e9
        rw [Mf.enc3.1] at hc9
        omega
      clear hb4 ho2 hf hr4 hbD
      go_wp2_with fail
      refine (ints_any _ _ [1, 12] [1, 12] _ HN4.out HNI4.out (by simp) (by simp)).mono ?_
      rintro e w5 ⟨rfl, hb5⟩
      rw [decide_eq_true rfl]
      have HB5 := Lib.hid (HBD.out.trans (hb5.mono HBD.out.size))
      have hpt : Byts w5 (.slice (some ⟨g, 5, none⟩) 7 (c - 5)) [51, 10, 49, 10, 49, 50, 10] := by
        have h1 := (HBY.out.below hb5).part 5 12 (c - 5) (by omega) (by rw [Mf.enc3.1]; omega) (by omega) (some ⟨g, 0 + 5, none⟩) (.inl rfl)
        rw [show 12 - 5 = 7 from rfl, Mf.enc3.2] at h1
        exact h1
      have hcv := convB hpt
      have hc12 : (12 : Int) ≤ (c : Int) := by omega
      have hc5 : c ≠ 5 := by omega
      clear hb5 hpt
      go_wp2_with fail
      go_ret
      exact ⟨rfl, HB5.out⟩
    · exact absurd HOP.out hx
end Go.Proofs.YtcinagglbkbmkaaGreatDoor
namespace Go.Proofs.YtcinagglbkbmkaaGreatDoor
set_option linter.unusedSimpArgs false
set_option linter.unusedVariables false
open Go Go.RowKit
open Go.Maps Go.WideMaps

/-- A slice of manifests. -/
def Manifs (w : World) (v : Value) (ms : List (Int × List Int)) : Prop :=
  ∃ a cap, v = .slice a ms.length cap ∧ ∀ (i : Nat) m, ms[i]? = some m → ∃ b off sv, a = some ⟨b, off, none⟩ ∧ b < w.heap.size ∧ w.cell? ⟨b, off + i * 2, none⟩ = some (.int .i64 m.1) ∧ w.cell? ⟨b, off + i * 2 + 1, none⟩ = some sv ∧ Ints w sv m.2
theorem Manifs.form {w : World} {v : Value} {ms : List (Int × List Int)} (h : Manifs w v ms) : ∃ a cap, v = .slice a ms.length cap := by
  obtain ⟨a, cap, h1, _⟩ := h
  exact ⟨a, cap, h1⟩
theorem Manifs.at {w : World} {a : Option Addr} {n cap : Nat} {ms : List (Int × List Int)} (h : Manifs w (.slice a n cap) ms) {i : Nat} {m : Int × List Int} (hi : ms[i]? = some m) :
    ∃ b off sv, a = some ⟨b, off, none⟩ ∧ b < w.heap.size ∧ w.cell? ⟨b, off + i * 2, none⟩ = some (.int .i64 m.1) ∧ w.cell? ⟨b, off + i * 2 + 1, none⟩ = some sv ∧ Ints w sv m.2 := by
  obtain ⟨a', cap', h1, h2⟩ := h
  obtain ⟨b, off, sv, e, h3, h4, h5⟩ := h2 i m hi
  simp only [Value.slice.injEq] at h1
  exact ⟨b, off, sv, by rw [h1.1, e], h3, h4, h5⟩
theorem Manifs.below {w w' : World} {v : Value} {l : List (Int × List Int)} (h : Manifs w v l) (hb : Below w.heap.size w w') : Manifs w' v l := by
  obtain ⟨a, cap, h1, h3⟩ := h
  refine ⟨a, cap, h1, fun i x hi => ?_⟩
  obtain ⟨b, off, sv, e, h4, h5, h6, h7⟩ := h3 i x hi
  exact ⟨b, off, sv, e, Nat.lt_of_lt_of_le h4 hb.size, by rw [World.cell?_of_block (hb.block b h4)]; exact h5, by rw [World.cell?_of_block (hb.block b h4)]; exact h6, h7.below hb⟩
theorem Strs.below {w w' : World} {v : Value} {l : List ByteArray} (h : Strs w v l) (hb : Below w.heap.size w w') : Strs w' v l := by
  obtain ⟨a, cap, h1, h3⟩ := h
  refine ⟨a, cap, h1, fun i x hi => ?_⟩
  obtain ⟨b, off, e, h4, h5⟩ := h3 i x hi
  exact ⟨b, off, e, Nat.lt_of_lt_of_le h4 hb.size, by rw [World.cell?_of_block (hb.block b h4)]; exact h5⟩
/-- The file system, and a block of the caller's own beside it. -/
structure LWorld (base B g : Nat) (w1 : World) (c : Array Value) (st : Fs.St) (V : FsV) (own : Nat → Tag) (w : World) : Prop where
  ok : FsOK base B st V own w
  bel : Below base w1 w
  cell : w.heap[g]? = some (.cells c 24 (0, 0))
  og : own g = .other
  bg : base ≤ g
  hb : base ≤ w.heap.size
section
variable {base B g : Nat} {w1 : World} {c : Array Value} {st : Fs.St} {V : FsV} {own : Nat → Tag} {w w' : World} (h : LWorld base B g w1 c st V own w)
include h
theorem LWorld.op {st' : Fs.St} (hp : OpPost base B st' own w w') : ∃ V' own', LWorld base B g w1 c st' V' own' w' := by
  have hb := hp.below0 h.ok h.hb
  obtain ⟨V', own', h1, h2, h3⟩ := hp
  have hg := heap_lt h.cell
  exact ⟨V', own', h1, h.bel.trans hb, by rw [h3.block g hg (by rw [h.og]; simp)]; exact h.cell, (h2 g hg).trans h.og, h.bg, Nat.le_trans h.hb h3.size⟩
theorem LWorld.below (hb : Below w.heap.size w w') : LWorld base B g w1 c st V own w' :=
  ⟨h.ok.kept (kept_below hb), h.bel.trans (hb.mono h.hb), by rw [hb.block g (heap_lt h.cell)]; exact h.cell, h.og, h.bg, Nat.le_trans h.hb hb.size⟩
theorem LWorld.set (k : Nat) (v : Value) : LWorld base B g w1 (c.setIfInBounds k v) st V own (w.setCell ⟨g, k, none⟩ v) :=
  ⟨h.ok.kept ((Kept.refl _ _ _).setCell ⟨g, k, none⟩ h.og v), h.bel.setCell (p := ⟨g, k, none⟩) h.bg v, heap_set h.cell v, h.og, h.bg, by simpa [World.setCell] using h.hb⟩
end
end Go.Proofs.YtcinagglbkbmkaaGreatDoor
namespace Go.Proofs.YtcinagglbkbmkaaGreatDoor
set_option linter.unusedSimpArgs false
set_option linter.unusedVariables false
open Go Go.RowKit
open Go.Maps Go.WideMaps

/-- The file system, over a world. -/
structure CWorld (base B : Nat) (w1 : World) (st : Fs.St) (V : FsV) (own : Nat → Tag) (w : World) : Prop where
  ok : FsOK base B st V own w
  bel : Below base w1 w
  hb : base ≤ w.heap.size
section
variable {base B : Nat} {w1 : World} {st : Fs.St} {V : FsV} {own : Nat → Tag} {w w' : World} (h : CWorld base B w1 st V own w)
include h
theorem CWorld.op {st' : Fs.St} (hp : OpPost base B st' own w w') : ∃ V' own', CWorld base B w1 st' V' own' w' := by
  have hb := hp.below0 h.ok h.hb
  obtain ⟨V', own', h1, h2, h3⟩ := hp
  exact ⟨V', own', h1, h.bel.trans hb, Nat.le_trans h.hb h3.size⟩
theorem CWorld.below (hb : Below w.heap.size w w') : CWorld base B w1 st V own w' :=
  ⟨h.ok.kept (kept_below hb), h.bel.trans (hb.mono h.hb), Nat.le_trans h.hb hb.size⟩
end
set_option maxHeartbeats 1000000 in
set_option maxRecDepth 100000 in
theorem check_all (ver : Int) (sv : Value) (l : List Int) (w : World) (hS : Nums w sv l) (hl : l.length ≤ 9223372036854775807) :
    Calls Tryz.prog 17 #[.agg #[.int .i64 ver, sv]] w fun e w' => e = .returned (.int .i64 (Mf.chk ver l)) ∧ Below w.heap.size w w' := by
  by_cases hsm : l.length ≤ 1000000000
  · exact check_any ver sv l w hS hsm
  obtain ⟨sa, sc, rfl⟩ := hS.form
  have hr := heap_new w (.cells #[.int .i64 ver, .slice sa l.length sc] 24)
  have y0 := root_cell hr 0 _ rfl
  have y1 := root_cell hr 1 _ rfl
  clear hS hr
  go_enter Tryz.func17, Tryz.ntmps17
  by_cases h1 : ver < 1
  · skip
    have HE : Hid (Mf.chk ver l = 1) := by unfold Mf.chk; rw [Mf.good_bad (by omega)]; exact Lib.hid rfl
    go_wp2_with fail
    go_ret
    exact ⟨congrArg (fun x => Ending.returned (.int .i64 x)) HE.out.symm, (Below.refl _ _).alloc (Nat.le_refl _) _⟩
  have h1' : 1 ≤ ver := by omega
  by_cases h2 : 2147483647 < ver
  · skip
    have HE : Hid (Mf.chk ver l = 1) := by unfold Mf.chk; rw [Mf.good_bad (by omega)]; exact Lib.hid rfl
    go_wp2_with fail
    go_ret
    exact ⟨congrArg (fun x => Ending.returned (.int .i64 x)) HE.out.symm, (Below.refl _ _).alloc (Nat.le_refl _) _⟩
  have h2' : ver ≤ 2147483647 := by omega
  have h3' : (1 : Int) ≤ (l.length : Int) := by omega
  have h4i : (32 : Int) < (l.length : Int) := by omega
  have HE : Hid (Mf.chk ver l = 1) := by unfold Mf.chk; rw [Mf.good_bad (by omega)]; exact Lib.hid rfl
  go_wp2_with fail
  go_ret
  exact ⟨congrArg (fun x => Ending.returned (.int .i64 x)) HE.out.symm, (Below.refl _ _).alloc (Nat.le_refl _) _⟩
end Go.Proofs.YtcinagglbkbmkaaGreatDoor
