/-
  Manifests: Decode, walked. Manifests: Load; the law's own words (ref, same); the fixed fact (awake), walked. The law's own words (ref, same); the fixed fact (awake), walked. 'ManifestLast', walked. 'ManifestCleans', walked.
-/
import Derived.Test.YtcinagglbkbmkaaGreatDoorZs12
import Derived.Lib.SplitLaws
namespace Go.Proofs.YtcinagglbkbmkaaGreatDoor
set_option linter.unusedSimpArgs false
set_option linter.unusedVariables false
open Go Go.RowKit
open Go.Maps Go.WideMaps

/-- The library's variables, and the length to which bytealg looks. -/
structure MEnv (B : Nat) (w : World) : Prop where
  sg : SgEnv B w
  ml : ∃ m, w.cell? ⟨3, 0, none⟩ = some (.int .i64 m)
  low : 3 < B
theorem MEnv.below {B : Nat} {w w' : World} (h : MEnv B w) (hb : Below B w w') : MEnv B w' := by
  obtain ⟨m, hm⟩ := h.ml
  exact ⟨h.sg.below hb, ⟨m, by rw [hb.cell h.low]; exact hm⟩, h.low⟩
theorem MEnv.mono {B B' : Nat} {w : World} (h : MEnv B w) (hb : B ≤ B') : MEnv B' w := ⟨h.sg.mono hb, h.ml, Nat.lt_of_lt_of_le h.low hb⟩
/-- Bytes are the same just if their texts are. -/
theorem bytesEqual_any (a b : Value) (l m : List UInt8) (w : World) (ha : Byts w a l) (hb : Byts w b m) (hl : l.length ≤ 1000000000) (hm : m.length ≤ 1000000000) :
    Calls Tryz.prog 66 #[a, b] w fun e w' => e = .returned (.bool (l == m)) ∧ w' = w := by
  obtain ⟨aa, ac, rfl, _⟩ := ha.form
  obtain ⟨ba, bc, rfl, _⟩ := hb.form
  have h1 := convB ha
  have h2 := convB hb
  go_enter Tryz.func66, Tryz.ntmps66
  go_wp2_with fail
  go_ret
  exact ⟨rfl, rfl⟩
/-- What 'Decode' leaves. -/
def MDecPost (b : List UInt8) (w : World) (e : Ending) (w' : World) : Prop :=
  Below w.heap.size w w' ∧ ((∃ v l sv, Mf.read b = some (v, l) ∧ e = .returned (.tuple #[.agg #[.int .i64 v, sv], .int .i64 0]) ∧ OwnI w' w.heap.size sv l) ∨
    (Mf.read b = none ∧ e = .returned (.tuple #[.agg #[.int .i64 0, .slice none 0 0], .int .i64 2])))
theorem nums_drop {L : List (List UInt8)} {j : Nat} {x : List UInt8} (h : L[j]? = some x) : Mf.nums (L.drop j) = match Lib.atoiAll x with | .ok n => (Mf.nums (L.drop (j + 1))).map (n :: ·) | _ => none := by
  obtain ⟨h1, h2⟩ := List.getElem?_eq_some_iff.1 h
  rw [List.drop_eq_getElem_cons h1, h2, Mf.nums]
  cases Lib.atoiAll x <;> rfl
theorem But.grown2 {X : Nat → Prop} {a w w' : World} {r : Option Nat} (h : But X a w) (hg : w.grownBy w' r) (hr : ∀ k, r = some k → X k ∨ a.heap.size ≤ k) : But X a w' :=
  ⟨hg.os.trans h.os, hg.tape.trans h.tape, hg.output.trans h.output, Nat.le_trans h.size hg.size, fun k hk hx => by
    rw [hg.block k (Nat.lt_of_lt_of_le hk h.size) (fun e => by rcases hr k e.symm with h1 | h1; exact hx h1; omega)]
    exact h.block k hk hx⟩
theorem splitK_len : ∀ (k : Nat) (l : List UInt8), k = l.count 10 → (Lib.splitK [10] 0 k l).length = k + 1
  | 0, l, _ => rfl
  | k + 1, l, h => by
    obtain ⟨x, r, hx, e⟩ : ∃ x r, (10 : UInt8) ∉ x ∧ l = x ++ 10 :: r := by
      have hm : (10 : UInt8) ∈ l := List.count_pos_iff.1 (by omega)
      clear h
      induction l with
      | nil => cases hm
      | cons c l ih =>
        by_cases hc : c = 10
        · exact ⟨[], l, by simp, by rw [hc]; rfl⟩
        · obtain ⟨x, r, h1, h2⟩ := ih (by rcases List.mem_cons.1 hm with h | h; exact absurd h.symm hc; exact h)
          exact ⟨c :: x, r, by simp [h1]; exact fun h => hc h.symm, by rw [h2]; rfl⟩
    subst e
    rw [Lib.splitK, Mf.index_line x r hx, if_neg (by simp), List.length_cons]
    have e2 : (x ++ 10 :: r).drop (((x.length : Nat) : Int).toNat + ([10] : List UInt8).length) = r := by
      rw [Int.toNat_natCast, ← List.drop_drop, List.drop_left]
      rfl
    rw [e2, splitK_len k r (by rw [List.count_append, List.count_eq_zero_of_not_mem hx, List.count_cons_self] at h; omega)]
theorem splitK_part : ∀ (k : Nat) (l x : List UInt8), x ∈ Lib.splitK [10] 0 k l → x.length ≤ l.length
  | 0, l, x, h => by
    rw [Lib.splitK] at h
    simp at h; rw [h]; exact Nat.le_refl _
  | k + 1, l, x, h => by
    rw [Lib.splitK] at h
    split at h
    · simp at h; rw [h]; exact Nat.le_refl _
    · rcases List.mem_cons.1 h with h | h
      · rw [h]; simp; omega
      · have := splitK_part k _ x h
        simp at this
        omega
theorem mdec_end {Q : Ending → World → Prop} {a : Act} {W : World} (g : Nat) (ver c : Int) (sv : Value) (h2 : a.tmps[2]? = some (.pointer (some ⟨g, 0, none⟩))) (h3 : a.tmps[3]? = some (.int .i64 c)) (hd : a.defers = [])
    (hW : W.heap[g]? = some (.cells #[.int .i64 ver, sv] 24 (0, 0))) (hQ : Q (.returned (.tuple #[.agg #[.int .i64 ver, sv], .int .i64 c])) W) : bodyPost Tryz.prog Tryz.f18 Q .ret a W := by
  have y0 : W.cell? ⟨g, 0, none⟩ = some (.int .i64 ver) := root_cell hW 0 _ rfl
  have y1 : W.cell? ⟨g, 1, none⟩ = some sv := root_cell hW 1 _ rfl
  exact bodyPost_ret (v := .tuple #[.agg #[.int .i64 ver, sv], .int .i64 c]) (by simp [results, Tryz.results18, go_sem, h2, h3, y0, y1]) hd hQ
theorem OwnI.mono2 {w : World} {base base' : Nat} {v : Value} {l : List Int} (h : OwnI w base v l) (hb : base' ≤ base) : OwnI w base' v l := by
  refine ⟨h.1, ?_⟩
  rcases h.2 with h2 | ⟨g, cap, cur, hv, hg, hc⟩
  · exact .inl h2
  · exact .inr ⟨g, cap, cur, hv, Nat.le_trans hb hg, hc⟩
set_option maxHeartbeats 2000000 in
set_option maxRecDepth 100000 in
theorem mdecode_any (v : Value) (b : List UInt8) (w : World) (B : Nat) (hE : MEnv B w) (hBw : B ≤ w.heap.size) (hV : Byts w v b) (hl : b.length ≤ 1000000000) :
    Calls Tryz.prog 18 #[v] w (MDecPost b w) := by
  obtain ⟨va, vc, rfl, _⟩ := hV.form
  have hb0 : Below w.heap.size w (w.alloc (.cells #[.int .i64 0, .slice none 0 0] 24)) := (Below.refl _ _).alloc (Nat.le_refl _) _
  have hr0 := heap_new w (.cells #[.int .i64 0, .slice none 0 0] 24)
  have HV := Lib.hid hV
  have HE := Lib.hid hE
  have HB0 := Lib.hid hb0
  have HR0 := Lib.hid hr0
  clear hV hE hb0 hr0
  go_enter Tryz.func18, Tryz.ntmps18
  go_wp2_with fail
  refine (decode_any _ b _ (HV.out.below HB0.out) hl).mono ?_
  rintro e w1 ⟨hb1, hres⟩
  have HB1 := Lib.hid (HB0.out.trans (hb1.mono HB0.out.size))
  have hr1 : w1.heap[w.heap.size]? = some (.cells #[.int .i64 0, .slice none 0 0] 24 (0, 0)) := by rw [hb1.block _ (heap_lt HR0.out)]; exact HR0.out
  have HR1 := Lib.hid hr1
  have hz1 : w.heap.size < w1.heap.size := heap_lt hr1
  clear hb1 hr1
  rcases hres with ⟨h0, pv, rfl, ho⟩ | ⟨h0, rfl⟩
  · obtain ⟨pa, pn, pc, hpv, HPN⟩ := OwnB.form3 ho
    subst hpv
    have HO := Lib.hid ho
    have p0 : w1.frozen? ⟨w.heap.size, 0, none⟩ = false := root_frozen HR1.out 0
    have p1 : w1.frozen? ⟨w.heap.size, 1, none⟩ = false := root_frozen HR1.out 1
    have q0 : w1.cell? ⟨w.heap.size, 0, none⟩ = some (.int .i64 0) := root_cell HR1.out 0 _ rfl
    have q1 : w1.cell? ⟨w.heap.size, 1, none⟩ = some (.slice none 0 0) := root_cell HR1.out 1 _ rfl
    have hb2 := HB1.out.alloc HB1.out.size (.cells #[.int .i64 (Fr.kind b), .slice pa pn pc] 131)
    obtain ⟨K, hK⟩ : ∃ K, K = Fr.kind b := ⟨_, rfl⟩
    rw [← hK] at hb2 ⊢
    have HB2 := Lib.hid hb2
    have HK := Lib.hid hK
    have H0 := Lib.hid h0
    clear ho hb2 hK h0
    by_cases hk9 : K = 9
    · subst hk9
      have hbM : Below w1.heap.size w1 ((w1.alloc (.cells #[.int .i64 9, .slice pa pn pc] 131)).alloc (.cells #[.int .i64 0, .slice none 0 0] 24)) := ((Below.refl _ _).alloc (Nat.le_refl _) _).alloc (by simp) _
      have hcv := convB (HO.out.byts.below hbM)
      have e1 : (w1.alloc (.cells #[.int .i64 9, .slice pa pn pc] 131)).heap.size = w1.heap.size + 1 := by simp
      have hrM := heap_new (w1.alloc (.cells #[.int .i64 9, .slice pa pn pc] 131)) (.cells #[.int .i64 0, .slice none 0 0] 24)
      rw [e1] at hrM
      have HRM := Lib.hid hrM
      have HBM := Lib.hid hbM
      have hpl : (Fr.pay b).length ≤ 1000000000 := by unfold Fr.pay; simp; omega
      have HPL := Lib.hid hpl
      clear hrM hbM e1 p0 p1 q0 q1 hpl
      go_wp2_with fail
      refine (Tryz.strings_TrimSuffix ⟨(Fr.pay b).toArray⟩ ⟨#[10]⟩ _ (by have := HPL.out; show (Fr.pay b).toArray.size ≤ _; simp; omega)).mono ?_
      rintro e w2 ⟨rfl, rfl⟩
      obtain ⟨T, hT⟩ : ∃ T : ByteArray, T = ⟨(Lib.trimSuffix (⟨(Fr.pay b).toArray⟩ : ByteArray).data.toList (⟨#[10]⟩ : ByteArray).data.toList).toArray⟩ := ⟨_, rfl⟩
      rw [← hT]
      have HT : Hid (T.data.toList = Lib.trimSuffix (Fr.pay b) [10]) := by rw [hT]; exact Lib.hid rfl
      have hTs : T.size ≤ 1000000000 := by
        rw [hT]
        show (Lib.trimSuffix _ _).toArray.size ≤ _
        have := HPL.out
        unfold Lib.trimSuffix
        split <;> simp <;> omega
      clear hT hcv
      obtain ⟨ml, hml⟩ := (HE.out.below (HB1.out.trans (HBM.out.mono HB1.out.size) |>.mono hBw)).ml
      go_wp2_with fail
      refine (Tryz.strings_Split T ⟨#[10]⟩ ml _ (by omega) hml (by decide)).mono ?_
      rintro e w3 ⟨rfl, hw3⟩
      have e2 : ((w1.alloc (.cells #[.int .i64 9, .slice pa pn pc] 131)).alloc (.cells #[.int .i64 0, .slice none 0 0] 24)).heap.size = w1.heap.size + 2 := by simp
      rw [e2]
      have HSZ : Hid (w3.heap.size = w1.heap.size + 3) := by rw [hw3]; exact Lib.hid (by simp)
      have HB13 : Hid (Below w1.heap.size w1 w3) := by rw [hw3]; exact Lib.hid (HBM.out.alloc (by simp; omega) _)
      have HM3 : Hid (w3.heap[w1.heap.size + 1]? = some (.cells #[.int .i64 0, .slice none 0 0] 24 (0, 0))) := by
        rw [hw3, Lib.alloc_old _ _ _ (by simp)]; exact HRM
      obtain ⟨SL, hSL⟩ : ∃ SL, SL = Lib.splitB ⟨#[10]⟩ 0 (Lib.countB T ⟨#[10]⟩) T := ⟨_, rfl⟩
      have HLN : Hid (SL.map (·.data.toList) = Mf.lines (Lib.trimSuffix (Fr.pay b) [10])) := by
        refine Lib.hid ?_
        rw [hSL, Lib.splitB_data, HT.out]
        unfold Mf.lines
        rw [show Lib.countB T ⟨#[10]⟩ = Lib.count T.data.toList [10] from rfl, HT.out, Lib.count_one]
      have hSn : SL.length = Lib.countB T ⟨#[10]⟩ + 1 := by
        have := congrArg List.length HLN.out
        rw [List.length_map] at this
        rw [this]
        unfold Mf.lines
        rw [show Lib.countB T ⟨#[10]⟩ = Lib.count T.data.toList [10] from rfl, HT.out, Lib.count_one]
        exact splitK_len _ _ rfl
      obtain ⟨n, hn⟩ : ∃ n, n = Lib.countB T ⟨#[10]⟩ + 1 := ⟨_, rfl⟩
      rw [← hn] at hSn ⊢
      have HST : Hid (Strs w3 (.slice (some ⟨w1.heap.size + 2, 0, none⟩) n n) SL) := by
        refine Lib.hid ⟨some ⟨w1.heap.size + 2, 0, none⟩, n, by rw [hSn], fun i s hi => ⟨w1.heap.size + 2, 0, rfl, by have := HSZ.out; omega, ?_⟩⟩
        rw [hw3, ← e2, Nat.zero_add]
        exact cell_new _ _ _ i _ (by rw [← hSL]; simp [hi])
      have hnb : n ≤ 1000000001 := by
        rw [hn]
        have := Lib.countB_mul_le ⟨#[10]⟩ (by decide) T.size T (Nat.le_refl _)
        rw [show (⟨#[10]⟩ : ByteArray).size = 1 from rfl] at this
        omega
      have hn1 : 1 ≤ n := by omega
      have HSS : Hid (∀ s ∈ SL, s.size ≤ 1000000000) := by
        refine Lib.hid fun s hs => ?_
        have h1 : s.data.toList ∈ SL.map (·.data.toList) := List.mem_map.2 ⟨s, hs, rfl⟩
        rw [HLN.out] at h1
        have := splitK_part _ _ _ h1
        have h2 : (Lib.trimSuffix (Fr.pay b) [10]).length ≤ (Fr.pay b).length := by unfold Lib.trimSuffix; split <;> simp
        have h3 := HPL.out
        have h4 : s.size = s.data.toList.length := by simp
        omega
      have HRD : Hid (Mf.read b = (Mf.nums (SL.map (·.data.toList))).bind (Mf.fit b)) := by
        unfold Mf.read
        rw [if_neg (by rw [H0.out, ← HK.out]; simp), HLN.out]
        exact Lib.hid rfl
      have HE3 := Lib.hid (HE.out.below ((HB1.out.trans (HB13.out.mono HB1.out.size)).mono hBw))
      have HR3 : Hid (w3.heap[w.heap.size]? = some (.cells #[.int .i64 0, .slice none 0 0] 24 (0, 0))) := by rw [HB13.out.block _ hz1]; exact HR1
      clear hw3 e2 hn hSL hml
      go_wp2_with fail
      go_loopg [32] n (fun k s32 wr => ∃ (j : Nat) (acc : List Int) (sv : Value), j ≤ n ∧ k = n - j ∧ s32 = .int .i64 (j : Nat) ∧ acc.length = j ∧ wr.heap[w1.heap.size + 1]? = some (.cells #[.int .i64 (acc.headD 0), sv] 24 (0, 0)) ∧ OwnI wr w3.heap.size sv acc.tail ∧
        But (fun k => k = w1.heap.size + 1) w3 wr ∧ (Mf.nums (SL.map (·.data.toList)) = (Mf.nums ((SL.map (·.data.toList)).drop j)).map (acc ++ ·)))
      case atStart => exact ⟨0, [], .slice none 0 0, Nat.zero_le _, rfl, rfl, rfl, HM3.out, World.ownsRow_nil _ _ _ _, But.refl _ _, by rw [List.drop_zero]; simp⟩
      case round =>
        obtain ⟨j, acc, sv, hj, hk, rfl, hal, hM, hOI, hBt, hnum⟩ := hrel
        have HK2 := Lib.hid hk
        have HAL := Lib.hid hal
        have HM := Lib.hid hM
        have HOI := Lib.hid hOI
        have HBT := Lib.hid hBt
        have HNUM := Lib.hid hnum
        have hj0 : (0 : Int) ≤ (j : Int) := Int.natCast_nonneg _
        have hzr : w3.heap.size ≤ wr.heap.size := hBt.size
        have hz3 := HSZ.out
        have hg6 : w1.heap.size + 1 < wr.heap.size := heap_lt hM
        have HBw : Hid (Below w.heap.size w wr) := by
          refine Lib.hid ?_
          have h1 := HB1.out.trans (HB13.out.mono HB1.out.size)
          exact ⟨hBt.os.trans h1.os, hBt.tape.trans h1.tape, hBt.output.trans h1.output, Nat.le_trans h1.size hBt.size, fun k hk => by
            rw [hBt.block k (Nat.lt_of_lt_of_le hk h1.size) (by show k ≠ _; omega)]; exact h1.block k hk⟩
        have hr0r : wr.heap[w.heap.size]? = some (.cells #[.int .i64 0, .slice none 0 0] 24 (0, 0)) := by rw [hBt.block _ (heap_lt HR3.out) (by show w.heap.size ≠ _; omega)]; exact HR3.out
        have HR0r := Lib.hid hr0r
        clear hk hal hM hOI hBt hnum hr0r
        by_cases hjn : j < n
        · have hjn1 : (j : Int) < (n : Int) := by omega
          obtain ⟨s, hs⟩ : ∃ s, SL[j]? = some s := ⟨_, List.getElem?_eq_getElem (by omega)⟩
          have hsz := HSS.out s (List.mem_of_getElem? hs)
          have hcs : wr.cell? ⟨w1.heap.size + 2, j, none⟩ = some (.string s) := by
            obtain ⟨bb, off, e1, e2⟩ := HST.out.at hs
            simp only [Option.some.injEq, Addr.mk.injEq, and_true] at e1
            obtain ⟨rfl, rfl⟩ := e1
            rw [Nat.zero_add] at e2
            rw [World.cell?_of_block (HBT.out.block _ (by show w1.heap.size + 2 < w3.heap.size; omega) (by show w1.heap.size + 2 ≠ w1.heap.size + 1; omega))]; exact e2
          have HD := Lib.hid (nums_drop (L := SL.map (·.data.toList)) (j := j) (x := s.data.toList) (by rw [List.getElem?_map, hs]; rfl))
          clear hs
          cases hat : Lib.atoiAll s.data.toList with
          | ok v =>
            rw [hat] at HD
            go_wp2_with fail
            refine (Tryz.strconv_Atoi_ok s (by omega) v hat wr).mono ?_
            rintro e w4 ⟨rfl, hw4⟩
            have hb4 : Below wr.heap.size wr w4 := by
              rcases hw4 with rfl | ⟨t, rfl⟩
              · exact Below.refl _ _
              · exact Joins.below_bytesWorld wr.heap.size wr 5 t (Nat.le_refl _)
            have HB4 := Lib.hid hb4
            have hM4 : w4.heap[w1.heap.size + 1]? = some (.cells #[.int .i64 (acc.headD 0), sv] 24 (0, 0)) := by rw [hb4.block _ hg6]; exact HM.out
            have hz4 := hb4.size
            have HN' : Hid (Mf.nums (SL.map (·.data.toList)) = (Mf.nums ((SL.map (·.data.toList)).drop (j + 1))).map ((acc ++ [v]) ++ ·)) := by
              rw [HNUM.out, HD.out]
              show Hid (((Mf.nums _).map _).map _ = _)
              rw [Option.map_map]
              refine Lib.hid (congrArg (fun f => Option.map f _) (funext fun x => ?_))
              show acc ++ v :: x = (acc ++ [v]) ++ x
              simp
            have HM4 := Lib.hid hM4
            clear hw4 hb4 hat hM4 hcs
            by_cases hj0' : j = 0
            · subst hj0'
              have hac : acc = [] := List.length_eq_zero_iff.1 HAL.out
              subst hac
              have q0 : w4.cell? ⟨w1.heap.size + 1, 0, none⟩ = some (.int .i64 0) := root_cell HM4.out 0 _ rfl
              have p0 : w4.frozen? ⟨w1.heap.size + 1, 0, none⟩ = false := root_frozen HM4.out 0
              go_wp2_with fail
              go_roundg (n - (0 + 1))
              case measure => rw [HK2.out]; omega
              case rel =>
                refine ⟨1, [v], sv, by omega, rfl, by simp, rfl, heap_set HM4.out _, ?_, ?_, HN'.out⟩
                · refine row_kept (HOI.out.keep HB4.out) (fun g hg => Below.heap_setCell _ _ _ _ ?_)
                  have := (World.ownsRow.lt HOI.out g hg).1
                  show g ≠ w1.heap.size + 1
                  omega
                · exact ((HBT.out.trans (But.of_below HB4.out)).setCell (p := ⟨w1.heap.size + 1, 0, none⟩) (.inl rfl) _)
            · obtain ⟨sva, svn, svc, hsv, HSVN⟩ := OwnI.form3 HOI.out
              subst hsv
              have q1 : w4.cell? ⟨w1.heap.size + 1, 1, none⟩ = some (.slice sva svn svc) := root_cell HM4.out 1 _ rfl
              have q1' : (w4.alloc (.cells #[.int .i64 v] 3)).cell? ⟨w1.heap.size + 1, 1, none⟩ = some (.slice sva svn svc) := by
                rw [World.cell?_of_block (Lib.alloc_old _ _ _ (show w1.heap.size + 1 < w4.heap.size by omega))]; exact q1
              have HO4 := Lib.hid (HOI.out.keep HB4.out)
              have HO5 : Hid (OwnI (w4.alloc (.cells #[.int .i64 v] 3)) w3.heap.size (.slice sva svn svc) acc.tail) := Lib.hid (HO4.out.keep ((Below.refl _ _).alloc (Nat.le_refl _) _))
              have HNV := Lib.hid (OwnI.one w4 v w4.heap.size (Nat.le_refl _)).nums
              have hte : ((j : Int) == 0) = false := by rw [beq_eq_false_iff_ne]; omega
              have hte2 : (j == 0) = false := by rw [beq_eq_false_iff_ne]; exact hj0'
              have htl : acc.tail.length ≤ 1000000001 := by have := HAL.out; simp; omega
              have HTL := Lib.hid htl
              have HB5 : ∀ w5, (w4.alloc (.cells #[.int .i64 v] 3)).grownBy w5 (Value.slice sva svn svc).ownBlock → w5.heap[w1.heap.size + 1]? = some (.cells #[.int .i64 (acc.headD 0), .slice sva svn svc] 24 (0, 0)) := fun w5 hg5 => by
                rw [hg5.block _ (by simp; omega) (fun e => by have := (World.ownsRow.lt HO4.out _ e.symm).1; omega), Lib.alloc_old _ _ _ (by omega)]
                exact HM4.out
              clear htl
              go_wp2_with (first | (at_builtin; refine wpList_append_nums rfl _ _ rfl w3.heap.size (.slice sva svn svc) acc.tail rfl HO5.out (.slice (some ⟨w4.heap.size, 0, none⟩) 1 1) [v] rfl HNV.out (by simp) (by have := HTL.out; rw [List.length_singleton]; omega) (by simp; omega) ?_; intro d' w5 hown hgrow hloc; clear hloc; obtain ⟨dA, dN, dC, hdE, HDN5⟩ := OwnI.form3 hown; subst hdE; have HM5 := Lib.hid (HB5 _ hgrow); have q5 : w5.cell? ⟨w1.heap.size + 1, 1, none⟩ = some (.slice sva svn svc) := root_cell HM5.out 1 _ rfl; have p5 : w5.frozen? ⟨w1.heap.size + 1, 1, none⟩ = false := root_frozen HM5.out 1; have HOWN := Lib.hid hown; have HGR := Lib.hid hgrow; clear hown hgrow) | fail)
              go_roundg (n - (j + 1))
              case measure => rw [HK2.out]; omega
              case rel =>
                obtain ⟨a0, r0, hac⟩ : ∃ a0 r0, acc = a0 :: r0 := by
                  cases hacc : acc with
                  | nil => have := HAL.out; rw [hacc] at this; simp at this; omega
                  | cons a r => exact ⟨a, r, rfl⟩
                refine ⟨j + 1, acc ++ [v], .slice dA dN dC, by omega, rfl, by simp, by rw [List.length_append, HAL.out]; rfl, ?_, ?_, ?_, HN'.out⟩
                · have h5 := HM5.out
                  rw [hac] at h5 ⊢
                  exact heap_set h5 _
                · have h6 : (acc ++ [v]).tail = acc.tail ++ [v] := by rw [hac]; rfl
                  rw [h6]
                  refine row_kept HOWN.out (fun g hg => Below.heap_setCell _ _ _ _ ?_)
                  have := (World.ownsRow.lt HOWN.out g hg).1
                  show g ≠ w1.heap.size + 1
                  omega
                · exact (((HBT.out.trans (But.of_below HB4.out)).alloc _).grown2 HGR.out (fun k hk => .inr (World.ownsRow.lt HO4.out k hk).1)).setCell (p := ⟨w1.heap.size + 1, 1, none⟩) (.inl rfl) _
          | range =>
            rw [hat] at HD
            obtain ⟨tp, p, hv⟩ := (HE.out.sg.below (HBw.out.mono hBw)).rng
            have HRN : Hid (Mf.read b = none) := by rw [HRD.out, HNUM.out, HD.out]; exact Lib.hid rfl
            go_wp2_with fail
            refine (Tryz.strconv_Atoi_range_var s (by omega) hat tp p wr hv).mono ?_
            rintro e w4 ⟨N, rfl, hN, _, hb4⟩
            clear hat hv
            have hr04 : w4.heap[w.heap.size]? = some (.cells #[.int .i64 0, .slice none 0 0] 24 (0, 0)) := by rw [hb4.block _ (heap_lt HR0r.out)]; exact HR0r.out
            have HR04 := Lib.hid hr04
            have p0 : w4.frozen? ⟨w.heap.size, 0, none⟩ = false := root_frozen hr04 0
            have p1 : w4.frozen? ⟨w.heap.size, 1, none⟩ = false := root_frozen hr04 1
            have z0 : w4.cell? ⟨w.heap.size, 0, none⟩ = some (.int .i64 0) := root_cell hr04 0 _ rfl
            have z1 : w4.cell? ⟨w.heap.size, 1, none⟩ = some (.slice none 0 0) := root_cell hr04 1 _ rfl
            have HBw4 := Lib.hid (HBw.out.trans (hb4.mono HBw.out.size))
            clear hr04 hb4
            go_wp2_with fail
            refine mdec_end w.heap.size 0 2 _ rfl rfl rfl (heap_set (heap_set HR04.out _) _) ?_
            exact ⟨((HBw4.out.setCell (p := ⟨w.heap.size, 0, none⟩) (Nat.le_refl _) _).setCell (p := ⟨w.heap.size, 1, none⟩) (Nat.le_refl _) _), .inr ⟨HRN.out, rfl⟩⟩
          | _ =>
            rw [hat] at HD
            obtain ⟨tp, p, hv⟩ := (HE.out.sg.below (HBw.out.mono hBw)).syn
            have HRN : Hid (Mf.read b = none) := by rw [HRD.out, HNUM.out, HD.out]; exact Lib.hid rfl
            go_wp2_with fail
            refine (Tryz.strconv_Atoi_syntax_var s (by omega) hat tp p wr hv).mono ?_
            rintro e w4 ⟨N, rfl, hN, _, hb4⟩
            clear hat hv
            have hr04 : w4.heap[w.heap.size]? = some (.cells #[.int .i64 0, .slice none 0 0] 24 (0, 0)) := by rw [hb4.block _ (heap_lt HR0r.out)]; exact HR0r.out
            have HR04 := Lib.hid hr04
            have p0 : w4.frozen? ⟨w.heap.size, 0, none⟩ = false := root_frozen hr04 0
            have p1 : w4.frozen? ⟨w.heap.size, 1, none⟩ = false := root_frozen hr04 1
            have z0 : w4.cell? ⟨w.heap.size, 0, none⟩ = some (.int .i64 0) := root_cell hr04 0 _ rfl
            have z1 : w4.cell? ⟨w.heap.size, 1, none⟩ = some (.slice none 0 0) := root_cell hr04 1 _ rfl
            have HBw4 := Lib.hid (HBw.out.trans (hb4.mono HBw.out.size))
            clear hr04 hb4
            go_wp2_with fail
            refine mdec_end w.heap.size 0 2 _ rfl rfl rfl (heap_set (heap_set HR04.out _) _) ?_
            exact ⟨((HBw4.out.setCell (p := ⟨w.heap.size, 0, none⟩) (Nat.le_refl _) _).setCell (p := ⟨w.heap.size, 1, none⟩) (Nat.le_refl _) _), .inr ⟨HRN.out, rfl⟩⟩
        · have hjn1 : (n : Int) ≤ (j : Int) := by omega
          have hjn2 : j = n := by omega
          obtain ⟨v0, l0, hac⟩ : ∃ v0 l0, acc = v0 :: l0 := by
            cases hacc : acc with
            | nil => have := HAL.out; rw [hacc] at this; simp at this; omega
            | cons a r => exact ⟨a, r, rfl⟩
          subst hac
          have HFT : Hid (Mf.read b = Mf.fit b (v0 :: l0)) := by
            rw [HRD.out, HNUM.out, List.drop_of_length_le (by rw [List.length_map]; omega)]
            show Hid (((some []).map _).bind _ = _)
            refine Lib.hid ?_
            simp only [Option.map_some, Option.bind_some, List.append_nil]
          obtain ⟨sva, svn, svc, hsv, HSVN⟩ := OwnI.form3 HOI.out
          subst hsv
          have q0 : wr.cell? ⟨w1.heap.size + 1, 0, none⟩ = some (.int .i64 v0) := root_cell HM.out 0 _ rfl
          have q1 : wr.cell? ⟨w1.heap.size + 1, 1, none⟩ = some (.slice sva svn svc) := root_cell HM.out 1 _ rfl
          have HLL : Hid (l0.length ≤ 1000000000) := by have := HAL.out; simp at this; exact Lib.hid (by omega)
          go_wp2_with fail
          refine (mencode_any v0 _ l0 wr B (HE.out.sg.below (HBw.out.mono hBw)) (Nat.le_trans hBw HBw.out.size) HOI.out.nums HLL.out).mono ?_
          rintro e w4 ⟨hb4, hres⟩
          have HB4 := Lib.hid hb4
          have hM4 : w4.heap[w1.heap.size + 1]? = some (.cells #[.int .i64 v0, .slice sva svn svc] 24 (0, 0)) := by rw [hb4.block _ hg6]; exact HM.out
          have hr04 : w4.heap[w.heap.size]? = some (.cells #[.int .i64 0, .slice none 0 0] 24 (0, 0)) := by rw [hb4.block _ (heap_lt HR0r.out)]; exact HR0r.out
          have HR04 := Lib.hid hr04
          have HM4 := Lib.hid hM4
          have x0 : w4.cell? ⟨w1.heap.size + 1, 0, none⟩ = some (.int .i64 v0) := root_cell hM4 0 _ rfl
          have x1 : w4.cell? ⟨w1.heap.size + 1, 1, none⟩ = some (.slice sva svn svc) := root_cell hM4 1 _ rfl
          have p0 : w4.frozen? ⟨w.heap.size, 0, none⟩ = false := root_frozen hr04 0
          have p1 : w4.frozen? ⟨w.heap.size, 1, none⟩ = false := root_frozen hr04 1
          have z0 : w4.cell? ⟨w.heap.size, 0, none⟩ = some (.int .i64 0) := root_cell hr04 0 _ rfl
          have z1 : w4.cell? ⟨w.heap.size, 1, none⟩ = some (.slice none 0 0) := root_cell hr04 1 _ rfl
          have HBw4 := Lib.hid (HBw.out.trans (hb4.mono HBw.out.size))
          have hz4 := hb4.size
          clear hb4 hM4 hr04 q0 q1
          rcases hres with ⟨hg, bb, rfl, hob⟩ | ⟨hg, rfl⟩
          · obtain ⟨ba, bn, bc, hbv, HBN⟩ := OwnB.form3 hob
            subst hbv
            have HOB := Lib.hid hob
            have hbl : (Mf.enc v0 l0).length ≤ 1000000000 := by have := Mf.enc_len hg; omega
            have HV4 := Lib.hid (HV.out.below HBw4.out)
            have HG := Lib.hid hg
            clear hob hg
            go_wp2_with fail
            refine (bytesEqual_any _ _ (Mf.enc v0 l0) b w4 HOB.out.byts HV4.out hbl hl).mono ?_
            rintro e w5 ⟨rfl, hw5⟩
            subst hw5
            by_cases heq : Mf.enc v0 l0 = b
            · have HRS : Hid (Mf.read b = some (v0, l0)) := by rw [HFT.out, Mf.fit, if_pos ⟨HG.out, heq⟩]; exact Lib.hid rfl
              have hb : (Mf.enc v0 l0 == b) = true := by rw [beq_iff_eq]; exact heq
              rw [hb]
              clear heq hb
              go_wp2_with fail
              refine mdec_end w.heap.size v0 0 (.slice sva svn svc) rfl rfl rfl (heap_set (heap_set HR04.out _) _) ?_
              refine ⟨((HBw4.out.setCell (p := ⟨w.heap.size, 0, none⟩) (Nat.le_refl _) _).setCell (p := ⟨w.heap.size, 1, none⟩) (Nat.le_refl _) _), .inl ⟨v0, l0, _, HRS.out, rfl, ?_⟩⟩
              have ho := HOI.out.keep HB4.out
              refine row_kept (ho.mono2 (by omega)) (fun g hg => ?_)
              have := (World.ownsRow.lt ho g hg).1
              rw [Below.heap_setCell _ _ _ _ (by show g ≠ w.heap.size; omega), Below.heap_setCell _ _ _ _ (by show g ≠ w.heap.size; omega)]
            · have HRS : Hid (Mf.read b = none) := by rw [HFT.out, Mf.fit, if_neg (fun h => heq h.2)]; exact Lib.hid rfl
              have hb : (Mf.enc v0 l0 == b) = false := by rw [beq_eq_false_iff_ne]; exact heq
              rw [hb]
              clear heq hb
              go_wp2_with fail
              refine mdec_end w.heap.size 0 2 _ rfl rfl rfl (heap_set (heap_set HR04.out _) _) ?_
              exact ⟨((HBw4.out.setCell (p := ⟨w.heap.size, 0, none⟩) (Nat.le_refl _) _).setCell (p := ⟨w.heap.size, 1, none⟩) (Nat.le_refl _) _), .inr ⟨HRS.out, rfl⟩⟩
          · have HRS : Hid (Mf.read b = none) := by rw [HFT.out, Mf.fit, if_neg (fun h => by rw [hg] at h; cases h.1)]; exact Lib.hid rfl
            clear hg
            go_wp2_with fail
            refine mdec_end w.heap.size 0 2 _ rfl rfl rfl (heap_set (heap_set HR04.out _) _) ?_
            exact ⟨((HBw4.out.setCell (p := ⟨w.heap.size, 0, none⟩) (Nat.le_refl _) _).setCell (p := ⟨w.heap.size, 1, none⟩) (Nat.le_refl _) _), .inr ⟨HRS.out, rfl⟩⟩
    · have HRD : Hid (Mf.read b = none) := by unfold Mf.read; rw [if_pos (.inr (by rw [← HK.out]; exact hk9))]; exact Lib.hid rfl
      have ht : (K != 9) = true := by rw [bne_iff_ne]; exact hk9
      clear hk9
      go_wp2_with fail
      refine mdec_end w.heap.size 0 2 _ rfl rfl rfl (by rw [Lib.alloc_old _ _ _ (by simp [World.setCell]; exact hz1)]; exact heap_set (heap_set HR1.out _) _) ?_
      exact ⟨((HB1.out.setCell (p := ⟨w.heap.size, 0, none⟩) (Nat.le_refl _) _).setCell (p := ⟨w.heap.size, 1, none⟩) (Nat.le_refl _) _).alloc (by simp [World.setCell]; omega) _, .inr ⟨HRD.out, rfl⟩⟩
  · have HRD : Hid (Mf.read b = none) := by unfold Mf.read; rw [if_pos (.inl h0)]; exact Lib.hid rfl
    have p0 : w1.frozen? ⟨w.heap.size, 0, none⟩ = false := root_frozen HR1.out 0
    have p1 : w1.frozen? ⟨w.heap.size, 1, none⟩ = false := root_frozen HR1.out 1
    have q0 : w1.cell? ⟨w.heap.size, 0, none⟩ = some (.int .i64 0) := root_cell HR1.out 0 _ rfl
    have q1 : w1.cell? ⟨w.heap.size, 1, none⟩ = some (.slice none 0 0) := root_cell HR1.out 1 _ rfl
    have ht : (Fr.decE b != 0) = true := by rw [bne_iff_ne]; exact h0
    go_wp2_with fail
    refine mdec_end w.heap.size 0 2 _ rfl rfl rfl (by rw [Lib.alloc_old _ _ _ (by simp [World.setCell]; exact hz1)]; exact heap_set (heap_set HR1.out _) _) ?_
    exact ⟨((HB1.out.setCell (p := ⟨w.heap.size, 0, none⟩) (Nat.le_refl _) _).setCell (p := ⟨w.heap.size, 1, none⟩) (Nat.le_refl _) _).alloc (by simp [World.setCell]; omega) _, .inr ⟨HRD.out, rfl⟩⟩
end Go.Proofs.YtcinagglbkbmkaaGreatDoor
namespace Go.Proofs.YtcinagglbkbmkaaGreatDoor
set_option linter.unusedSimpArgs false
set_option linter.unusedVariables false
open Go Go.RowKit
open Go.Maps Go.WideMaps

theorem mload_end {Q : Ending → World → Prop} {a : Act} {W : World} (g : Nat) (ver c : Int) (sv : Value) (h2 : a.tmps[2]? = some (.pointer (some ⟨g, 0, none⟩))) (h3 : a.tmps[3]? = some (.int .i64 c)) (hd : a.defers = [])
    (hW : W.heap[g]? = some (.cells #[.int .i64 ver, sv] 24 (0, 0))) (hQ : Q (.returned (.tuple #[.agg #[.int .i64 ver, sv], .int .i64 c])) W) : bodyPost Tryz.prog Tryz.f27 Q .ret a W := by
  have y0 : W.cell? ⟨g, 0, none⟩ = some (.int .i64 ver) := root_cell hW 0 _ rfl
  have y1 : W.cell? ⟨g, 1, none⟩ = some sv := root_cell hW 1 _ rfl
  exact bodyPost_ret (v := .tuple #[.agg #[.int .i64 ver, sv], .int .i64 c]) (by simp [results, Tryz.results27, go_sem, h2, h3, y0, y1]) hd hQ
/-- What 'Load' leaves. -/
def MLoadPost (st : Fs.St) (w : World) (e : Ending) (w' : World) : Prop :=
  Below w.heap.size w w' ∧ ∃ sv, e = .returned (.tuple #[.agg #[.int .i64 (Mf.load st).1.1, sv], .int .i64 (Mf.load st).2]) ∧ OwnI w' w.heap.size sv (Mf.load st).1.2
set_option maxHeartbeats 1000000 in
set_option maxRecDepth 100000 in
theorem load_any (base B : Nat) (st : Fs.St) (V : FsV) (own : Nat → Tag) (w : World) (h : FsOK base B st V own w) (hE : MEnv base w) (hbase : base ≤ w.heap.size) (k : Nat) (hS : Fs.Sound st k) :
    Calls Tryz.prog 27 #[.pointer (some ⟨B, 0, none⟩)] w (MLoadPost st w) := by
  have hb0 : Below w.heap.size w (w.alloc (.cells #[.int .i64 0, .slice none 0 0] 24)) := (Below.refl _ _).alloc (Nat.le_refl _) _
  have hr0 := heap_new w (.cells #[.int .i64 0, .slice none 0 0] 24)
  have H := Lib.hid h
  have HE := Lib.hid hE
  have HB0 := Lib.hid hb0
  have HR0 := Lib.hid hr0
  have hfull := hS.full
  have HFU := Lib.hid hfull
  clear h hE hb0 hr0 hfull
  go_enter Tryz.func27, Tryz.ntmps27
  go_wp2_with fail
  refine (read_any base B st V own finalB _ (H.out.kept (kept_below HB0.out)) (by decide) (fun f hf => by have := (HFU.out f hf).2; omega)).mono ?_
  rintro e w1 ⟨hb1, hres⟩
  have HB1 := Lib.hid (HB0.out.trans (hb1.mono HB0.out.size))
  have hr1 : w1.heap[w.heap.size]? = some (.cells #[.int .i64 0, .slice none 0 0] 24 (0, 0)) := by rw [hb1.block _ (heap_lt HR0.out)]; exact HR0.out
  have HR1 := Lib.hid hr1
  have hz1 : w.heap.size < w1.heap.size := heap_lt hr1
  have hb01 : w.heap.size + 1 ≤ w1.heap.size := hz1
  rw [show finalB.data.toList = Mf.final from rfl] at hres
  clear hb1
  rcases hres with ⟨h0, f, v2, hf, rfl, ho2⟩ | ⟨h0, rfl⟩
  · have hfa : Fs.fileAt st Mf.final = f.1 := by unfold Fs.fileAt; rw [hf]
    have hfl := (HFU.out f (List.mem_of_getElem? hf)).2
    obtain ⟨da, dn, dc, hv2, HDN⟩ := OwnB.form3 ho2
    subst hv2
    have HO2 := Lib.hid ho2
    have HL : Hid (Mf.load st = match Mf.read f.1 with | some m => (m, 0) | none => ((0, []), 2)) := by
      unfold Mf.load
      rw [if_neg (by simp [h0]), hfa]
      exact Lib.hid rfl
    clear hf h0 ho2 hfa hr1
    go_wp2_with fail
    refine (mdecode_any _ f.1 w1 base (HE.out.below (HB1.out.mono hbase)) (Nat.le_trans hbase HB1.out.size) HO2.out.byts (by omega)).mono ?_
    rintro e w2 ⟨hb2, hres⟩
    have HB2 := Lib.hid (HB1.out.trans (hb2.mono HB1.out.size))
    have hr2 : w2.heap[w.heap.size]? = some (.cells #[.int .i64 0, .slice none 0 0] 24 (0, 0)) := by rw [hb2.block _ hz1]; exact HR1.out
    have HR2 := Lib.hid hr2
    have p0 : w2.frozen? ⟨w.heap.size, 0, none⟩ = false := root_frozen hr2 0
    have p1 : w2.frozen? ⟨w.heap.size, 1, none⟩ = false := root_frozen hr2 1
    have z0 : w2.cell? ⟨w.heap.size, 0, none⟩ = some (.int .i64 0) := root_cell hr2 0 _ rfl
    have z1 : w2.cell? ⟨w.heap.size, 1, none⟩ = some (.slice none 0 0) := root_cell hr2 1 _ rfl
    clear hb2 hr2
    rcases hres with ⟨v, l, sv, hrd, rfl, hoi⟩ | ⟨hrd, rfl⟩
    · rw [hrd] at HL
      obtain ⟨sva, svn, svc, hsv, HSVN⟩ := OwnI.form3 hoi
      subst hsv
      have HOI := Lib.hid hoi
      clear hoi hrd
      go_wp2_with fail
      refine mload_end w.heap.size v 0 (.slice sva svn svc) rfl rfl rfl (heap_set (heap_set HR2.out _) _) ?_
      refine ⟨((HB2.out.setCell (p := ⟨w.heap.size, 0, none⟩) (Nat.le_refl _) _).setCell (p := ⟨w.heap.size, 1, none⟩) (Nat.le_refl _) _), .slice sva svn svc, by rw [HL.out], ?_⟩
      rw [HL.out]
      refine row_kept (HOI.out.mono2 (by omega)) (fun g hg => ?_)
      have := (World.ownsRow.lt HOI.out g hg).1
      rw [Below.heap_setCell _ _ _ _ (by show g ≠ w.heap.size; omega), Below.heap_setCell _ _ _ _ (by show g ≠ w.heap.size; omega)]
    · rw [hrd] at HL
      clear hrd
      go_wp2_with fail
      refine mload_end w.heap.size 0 2 _ rfl rfl rfl (heap_set (heap_set HR2.out _) _) ?_
      exact ⟨((HB2.out.setCell (p := ⟨w.heap.size, 0, none⟩) (Nat.le_refl _) _).setCell (p := ⟨w.heap.size, 1, none⟩) (Nat.le_refl _) _), .slice none 0 0, by rw [HL.out], by rw [HL.out]; exact World.ownsRow_nil _ _ _ _⟩
  · have HL : Hid (Mf.load st = ((0, []), Fs.openE st Mf.final)) := by unfold Mf.load; rw [if_pos h0]; exact Lib.hid rfl
    have p0 : w1.frozen? ⟨w.heap.size, 0, none⟩ = false := root_frozen hr1 0
    have p1 : w1.frozen? ⟨w.heap.size, 1, none⟩ = false := root_frozen hr1 1
    have z0 : w1.cell? ⟨w.heap.size, 0, none⟩ = some (.int .i64 0) := root_cell hr1 0 _ rfl
    have z1 : w1.cell? ⟨w.heap.size, 1, none⟩ = some (.slice none 0 0) := root_cell hr1 1 _ rfl
    obtain ⟨E, hEE⟩ : ∃ E, E = Fs.openE st Mf.final := ⟨_, rfl⟩
    rw [← hEE] at h0 HL ⊢
    have hte : (E != 0) = true := by rw [bne_iff_ne]; exact h0
    clear hr1 h0 hEE
    go_wp2_with fail
    refine mload_end w.heap.size 0 E _ rfl rfl rfl (heap_set (heap_set HR1.out _) _) ?_
    exact ⟨((HB1.out.setCell (p := ⟨w.heap.size, 0, none⟩) (Nat.le_refl _) _).setCell (p := ⟨w.heap.size, 1, none⟩) (Nat.le_refl _) _), .slice none 0 0, by rw [HL.out], by rw [HL.out]; exact World.ownsRow_nil _ _ _ _⟩
end Go.Proofs.YtcinagglbkbmkaaGreatDoor
namespace Go.Proofs.YtcinagglbkbmkaaGreatDoor
set_option linter.unusedSimpArgs false
set_option linter.unusedVariables false
open Go Go.RowKit
open Go.Maps Go.WideMaps

set_option maxHeartbeats 1000000 in
set_option maxRecDepth 100000 in
theorem ints_any (a b : Value) (l m : List Int) (w : World) (ha : Nums w a l) (hb : Nums w b m) (hl : l.length ≤ 1000000000) (hm : m.length ≤ 1000000000) :
    Calls Tryz.prog 42 #[a, b] w fun e w' => e = .returned (.bool (decide (l = m))) ∧ Below w.heap.size w w' := by
  obtain ⟨aa, ac, rfl⟩ := ha.form
  obtain ⟨ba, bc, rfl⟩ := hb.form
  have HA := Lib.hid ha
  have HB := Lib.hid hb
  clear ha hb
  go_enter Tryz.func42, Tryz.ntmps42
  by_cases hlen : l.length = m.length
  · have ht : ((l.length : Int) != (m.length : Int)) = false := by rw [hlen]; simp
    have ht2 : (l.length != m.length) = false := by rw [hlen]; simp
    have HLEN := Lib.hid hlen
    clear hlen
    go_wp2_with fail
    go_loopg [13] l.length (fun k s13 wr => ∃ j : Nat, j ≤ l.length ∧ k = l.length - j ∧ s13 = .int .i64 (j : Nat) ∧ l.take j = m.take j ∧ ∃ n, wr = w.drewN n)
    case atStart => exact ⟨0, Nat.zero_le _, rfl, rfl, by simp, 0, rfl⟩
    case round =>
      obtain ⟨j, hj, hk, rfl, htk, nd, rfl⟩ := hrel
      have HK := Lib.hid hk
      have HTK := Lib.hid htk
      clear hk htk
      have hj0 : (0 : Int) ≤ (j : Int) := Int.natCast_nonneg _
      by_cases hjn : j < l.length
      · have hjn1 : (j : Int) < (l.length : Int) := by omega
        have hjn2 : (j : Int) < (m.length : Int) := by have := HLEN.out; omega
        obtain ⟨x, hx⟩ : ∃ x, l[j]? = some x := ⟨_, List.getElem?_eq_getElem hjn⟩
        obtain ⟨y, hy⟩ : ∃ y, m[j]? = some y := ⟨_, List.getElem?_eq_getElem (by omega)⟩
        obtain ⟨g1, o1, rfl, hg1, c1⟩ := HA.out.at hx
        obtain ⟨g2, o2, rfl, hg2, c2⟩ := HB.out.at hy
        have HX := Lib.hid hx
        have HY := Lib.hid hy
        clear hx hy
        go_wp2_with fail
        refine wp_region_cuts [] (by kernel_rfl) (by kernel_rfl) ?_; simp only [wpMix, List.take_succ_cons, List.take_zero, List.drop_succ_cons, List.drop_zero, Nat.sub_zero, Nat.reduceSub, Nat.reduceAdd]
        repeat (go_big_quiet_step (fail))
        refine wpQuiet_nil ?_; rintro _ ⟨nq, rfl⟩
        by_cases hxy : x = y
        · subst hxy
          go_wp2_with fail
          go_roundg (l.length - (j + 1))
          case measure => rw [HK.out]; omega
          case rel => exact ⟨j + 1, by omega, rfl, by simp, by rw [List.take_add_one, List.take_add_one, HTK.out, HX.out, HY.out], nd + nq, by first | rfl | (simp [World.drewN]; omega)⟩
        · have hne : (x != y) = true := by rw [bne_iff_ne]; exact hxy
          have HE : Hid (decide (l = m) = false) := Lib.hid (decide_eq_false (fun e => hxy (by have := HX.out; rw [e, HY.out] at this; exact (Option.some.inj this).symm)))
          clear hxy
          go_wp2_with fail
          go_ret
          exact ⟨by rw [HE.out]; rfl, Below.drewN (Below.drewN (Below.refl _ _) _) _⟩
      · have hjn1 : (l.length : Int) ≤ (j : Int) := by omega
        have HE : Hid (decide (l = m) = true) := by
          have h1 := HTK.out
          rw [List.take_of_length_le (by omega), List.take_of_length_le (by have := HLEN.out; omega)] at h1
          exact Lib.hid (decide_eq_true h1)
        go_wp2_with fail
        go_ret
        exact ⟨by rw [HE.out]; rfl, Below.drewN (Below.refl _ _) _⟩
  · have ht : ((l.length : Int) != (m.length : Int)) = true := by rw [bne_iff_ne]; omega
    have ht2 : (l.length != m.length) = true := by rw [bne_iff_ne]; exact hlen
    have HE : Hid (decide (l = m) = false) := Lib.hid (decide_eq_false (fun e => hlen (by rw [e])))
    clear hlen
    go_wp2_with fail
    go_ret
    exact ⟨by rw [HE.out]; rfl, Below.refl _ _⟩
set_option maxHeartbeats 1000000 in
set_option maxRecDepth 100000 in
theorem lref_any (v : Int) (a : Option Addr) (n c : Nat) (w : World) :
    Calls Tryz.prog 16 #[.agg #[.int .i64 v, .slice a n c]] w fun e w' => e = .returned (.agg #[.int .i64 v, .slice a n c]) ∧ Below w.heap.size w w' := by
  go_enter Tryz.func16, Tryz.ntmps16
  go_wp2_with fail
  have hr := heap_new (w.alloc (.cells #[.int .i64 v, .slice a n c] 24)) (.cells #[.int .i64 v, .slice a n c] 31)
  rw [show (w.alloc (.cells #[.int .i64 v, .slice a n c] 24)).heap.size = w.heap.size + 1 by simp] at hr
  have y0 := root_cell hr 0 _ rfl
  have y1 := root_cell hr 1 _ rfl
  refine bodyPost_ret (v := .agg #[.int .i64 v, .slice a n c]) (by simp [results, Tryz.results16, go_sem, y0, y1]) rfl ?_
  exact ⟨rfl, ((Below.refl _ _).alloc (Nat.le_refl _) _).alloc (by simp) _⟩
set_option maxHeartbeats 1000000 in
set_option maxRecDepth 100000 in
theorem lsame_any (v u : Int) (a b : Value) (l m : List Int) (w : World) (ha : Nums w a l) (hb : Nums w b m) (hl : l.length ≤ 1000000000) (hm : m.length ≤ 1000000000) :
    Calls Tryz.prog 20 #[.agg #[.int .i64 v, a], .agg #[.int .i64 u, b]] w fun e w' => e = .returned (.bool (decide (v = u ∧ l = m))) ∧ Below w.heap.size w w' := by
  obtain ⟨aa, ac, rfl⟩ := ha.form
  obtain ⟨ba, bc, rfl⟩ := hb.form
  have hb0 : Below w.heap.size w ((w.alloc (.cells #[.int .i64 v, .slice aa l.length ac] 24)).alloc (.cells #[.int .i64 u, .slice ba m.length bc] 31)) := ((Below.refl _ _).alloc (Nat.le_refl _) _).alloc (by simp) _
  have HA := Lib.hid (ha.below hb0)
  have HB := Lib.hid (hb.below hb0)
  have HB0 := Lib.hid hb0
  clear ha hb hb0
  go_enter Tryz.func20, Tryz.ntmps20
  by_cases hvu : v = u
  · subst hvu
    have ht : (v == v) = true := by simp
    go_wp2_with fail
    refine (ints_any _ _ l m _ HA.out HB.out hl hm).mono ?_
    rintro e w1 ⟨rfl, hb1⟩
    have HB1 := Lib.hid (HB0.out.trans (hb1.mono HB0.out.size))
    clear hb1
    go_wp2_with fail
    go_ret
    refine ⟨congrArg (fun b => Ending.returned (.bool b)) ?_, HB1.out⟩
    by_cases h : l = m <;> simp [h]
  · have ht : (v == u) = false := by rw [beq_eq_false_iff_ne]; exact hvu
    have HF : Hid (decide (v = u ∧ l = m) = false) := Lib.hid (decide_eq_false (fun h => hvu h.1))
    clear hvu
    go_wp2_with fail
    go_ret
    exact ⟨by rw [HF.out]; rfl, HB0.out⟩
namespace Mf
theorem digits3 : pay [3, 1, 12] = [51, 10, 49, 10, 49, 50, 10] := by
  have h3 := Lib.itoa_nonneg 3
  have h1 := Lib.itoa_nonneg 1
  have h12 := Lib.itoa_nonneg 12
  rw [Lib.decDigits_one (by omega)] at h3 h1
  rw [Lib.decDigits_two (by omega) (by omega)] at h12
  unfold pay
  simp only [List.flatMap_cons, List.flatMap_nil]
  rw [show (3 : Int) = ((3 : Nat) : Int) from rfl, h3, show (1 : Int) = ((1 : Nat) : Int) from rfl, h1, show (12 : Int) = ((12 : Nat) : Int) from rfl, h12]
  rfl
theorem good3 : good 3 [1, 12] = true := by decide
theorem enc3 : (enc 3 [1, 12]).length = 16 ∧ ((enc 3 [1, 12]).drop 5).take 7 = [51, 10, 49, 10, 49, 50, 10] := by
  have h1 : (enc 3 [1, 12]).length = 16 := by unfold enc; rw [Fr.bytes_len, digits3]; rfl
  have h2 : Fr.pay (enc 3 [1, 12]) = pay [3, 1, 12] := Fr.pay_bytes
  refine ⟨h1, ?_⟩
  rw [← digits3, ← h2]
  unfold Fr.pay
  rw [h1]
theorem saved3 : ∃ st, Mf.save (Fs.new 1000) 3 [1, 12] = (st, 0) ∧ Mf.load st = ((3, [1, 12]), 0) ∧ Fs.openE st final = 0 ∧ Fs.fileAt st final = enc 3 [1, 12] ∧ Fs.Sound st 20 ∧ Fs.PlanOK st := by
  obtain ⟨h1, _, _, _, _, h2⟩ := save_calm (st := Fs.new 1000) ⟨rfl, rfl⟩ (Fs.Inv.new 1000) good3 (by decide) (M := 0) (fun n b h => by rw [Fs.look_new] at h; cases h) (by decide) (fun f hf => by cases hf)
  have h3 := h2 final
  rw [if_pos rfl] at h3
  obtain ⟨h4, h5⟩ := Fs.look_some h3
  obtain ⟨h6, h7⟩ := save_sound (st := Fs.new 1000) (k := 0) (Fs.Sound.new ⟨by decide, by decide⟩ 0) (fun z hz => by cases hz) 3 [1, 12]
  exact ⟨(save (Fs.new 1000) 3 [1, 12]).1, Prod.ext rfl h1, load_look good3 h3, Fs.openE_of good_final h4, h5, h6.mono (by omega), h7⟩
end Mf
set_option maxHeartbeats 1000000 in
set_option maxRecDepth 100000 in
theorem mawake_any (w : World) (B : Nat) (hE : MEnv B w) (hB : B ≤ w.heap.size) :
    Calls Tryz.prog 13 #[] w fun e w' => e = .returned (.bool true) ∧ Below w.heap.size w w' := by
  have HE := Lib.hid hE
  clear hE
  obtain ⟨st, hsv, hld, hop, hfa, hso, hpl⟩ := Mf.saved3
  have HSV := Lib.hid hsv
  have HLD := Lib.hid hld
  have HOP := Lib.hid hop
  have HFA := Lib.hid hfa
  have HSO := Lib.hid hso
  clear hsv hld hop hfa hso hpl
  go_enter Tryz.func13, Tryz.ntmps13
  go_wp2_with fail
  refine (new_any 1000 w).mono ?_
  rintro e w1 ⟨hb1, hres⟩
  have HB1 := Lib.hid hb1
  rcases hres with ⟨h, rfl⟩ | ⟨_, rfl, V, hok⟩
  · omega
  · have hz1 := hb1.size
    have hbA : Below w1.heap.size w1 (w1.alloc (.cells #[.int .i64 1, .int .i64 12] 3)) := (Below.refl _ _).alloc (Nat.le_refl _) _
    have HNI : Hid (Nums (w1.alloc (.cells #[.int .i64 1, .int .i64 12] 3)) (.slice (some ⟨w1.heap.size, 0, none⟩) 2 2) [1, 12]) :=
      Lib.hid (OwnI.nums (base := w1.heap.size) (World.ownsRow_lit (base := w1.heap.size) (e := 3) (size := 1) w1 #[.int .i64 1, .int .i64 12] 2 (Nat.le_refl _) (by unfold maxLen; omega) rfl))
    have HE1 := Lib.hid ((HE.out.below (hb1.mono hB)).mono hB)
    have HOK := Lib.hid (hok.kept (kept_below hbA))
    have HBA := Lib.hid (hb1.trans (hbA.mono hz1))
    have HE2 := Lib.hid (HE1.out.below (hbA.mono hz1))
    clear hb1 hok hbA
    go_wp2_with fail
    refine (save_any w.heap.size (w.heap.size + 2) (Fs.new 1000) V _ 3 _ [1, 12] _ HOK.out HE2.out.sg HBA.out.size 0 (Fs.Sound.new ⟨by decide, by decide⟩ 0) (by omega) (fun z hz => by cases hz) HNI.out (by simp)).mono ?_
    rintro e w2 ⟨rfl, hp2⟩
    rw [HSV.out] at hp2 ⊢
    have hb2 := hp2.below0 HOK.out HBA.out.size
    obtain ⟨V2, own2, h2, _, _⟩ := hp2
    have H2 := Lib.hid h2
    have HB2 := Lib.hid (HBA.out.trans hb2)
    have HE3 := Lib.hid (HE2.out.below hb2)
    clear hb2 h2
    go_wp2_with fail
    refine (load_any w.heap.size (w.heap.size + 2) st V2 own2 w2 H2.out HE3.out HB2.out.size 20 HSO.out).mono ?_
    rintro e w3 ⟨hb3, sv, rfl, hoi⟩
    rw [HLD.out] at hoi ⊢
    obtain ⟨sva, svn, svc, hsv, HSVN⟩ := OwnI.form3 hoi
    subst hsv
    have HOI := Lib.hid hoi
    have HB3 := Lib.hid (HB2.out.trans (hb3.mono HB2.out.size))
    have hbC : Below w3.heap.size w3 (w3.alloc (.cells #[.int .i64 3, .slice sva svn svc] 24)) := (Below.refl _ _).alloc (Nat.le_refl _) _
    have HBC := Lib.hid (HB3.out.trans (hbC.mono HB3.out.size))
    have H3 := Lib.hid (H2.out.kept (kept_below (hb3.trans (hbC.mono hb3.size))))
    have hr3 := heap_new w3 (.cells #[.int .i64 3, .slice sva svn svc] 24)
    have HR3 := Lib.hid hr3
    have HOI3 := Lib.hid (HOI.out.keep hbC)
    clear hb3 hoi hbC hr3
    go_wp2_with fail
    refine (read_any w.heap.size (w.heap.size + 2) st V2 own2 finalB _ H3.out (by decide) (fun f hf => by have := (HSO.out.full f hf).2; omega)).mono ?_
    rintro e w4 ⟨hb4, hres⟩
    rw [show finalB.data.toList = Mf.final from rfl] at hres
    rcases hres with ⟨_, f, v2, hf, rfl, ho2⟩ | ⟨hx, _⟩
    · have hf1 : f.1 = Mf.enc 3 [1, 12] := by have := HFA.out; unfold Fs.fileAt at this; rw [hf] at this; exact this
      rw [hf1] at ho2
      obtain ⟨g, c, hv2⟩ := row_form ho2 (by rw [Mf.enc3.1]; omega)
      rw [Mf.enc3.1] at hv2
      subst hv2
      have HB4 := Lib.hid (HBC.out.trans (hb4.mono HBC.out.size))
      have hr4 : w4.heap[w3.heap.size]? = some (.cells #[.int .i64 3, .slice sva svn svc] 24 (0, 0)) := by rw [hb4.block _ (heap_lt HR3.out)]; exact HR3.out
      have y0 : w4.cell? ⟨w3.heap.size, 0, none⟩ = some (.int .i64 3) := root_cell hr4 0 _ rfl
      have y1 : w4.cell? ⟨w3.heap.size, 1, none⟩ = some (.slice sva svn svc) := root_cell hr4 1 _ rfl
      have hbD : Below w4.heap.size w4 (w4.alloc (.cells #[.int .i64 1, .int .i64 12] 3)) := (Below.refl _ _).alloc (Nat.le_refl _) _
      have HBD := Lib.hid (HB4.out.trans (hbD.mono HB4.out.size))
      have HN4 := Lib.hid ((HOI3.out.keep hb4).keep hbD).nums
      have HNI4 : Hid (Nums (w4.alloc (.cells #[.int .i64 1, .int .i64 12] 3)) (.slice (some ⟨w4.heap.size, 0, none⟩) 2 2) [1, 12]) :=
        Lib.hid (OwnI.nums (base := w4.heap.size) (World.ownsRow_lit (base := w4.heap.size) (e := 3) (size := 1) w4 #[.int .i64 1, .int .i64 12] 2 (Nat.le_refl _) (by unfold maxLen; omega) rfl))
      have HBY := Lib.hid (ho2.byts.below hbD)
      have hc16 : 16 ≤ c := by
        obtain ⟨_, c9, e9, hc9⟩ := ho2.byts.form
        simp only [Value.slice.injEq] at e9
        rw [Mf.enc3.1] at hc9
        omega
      clear hb4 ho2 hf hr4 hbD
      go_wp2_with fail
      refine (ints_any _ _ [1, 12] [1, 12] _ HN4.out HNI4.out (by simp) (by simp)).mono ?_
      rintro e w5 ⟨rfl, hb5⟩
      rw [decide_eq_true rfl]
      have HB5 := Lib.hid (HBD.out.trans (hb5.mono HBD.out.size))
      have hpt : Byts w5 (.slice (some ⟨g, 5, none⟩) 7 (c - 5)) [51, 10, 49, 10, 49, 50, 10] := by
        have h1 := (HBY.out.below hb5).part 5 12 (c - 5) (by omega) (by rw [Mf.enc3.1]; omega) (by omega) (some ⟨g, 0 + 5, none⟩) (.inl rfl)
        rw [show 12 - 5 = 7 from rfl, Mf.enc3.2] at h1
        exact h1
      have hcv := convB hpt
      have hc12 : (12 : Int) ≤ (c : Int) := by omega
      have hc5 : c ≠ 5 := by omega
      clear hb5 hpt
      go_wp2_with fail
      go_ret
      exact ⟨rfl, HB5.out⟩
    · exact absurd HOP.out hx
end Go.Proofs.YtcinagglbkbmkaaGreatDoor
namespace Go.Proofs.YtcinagglbkbmkaaGreatDoor
set_option linter.unusedSimpArgs false
set_option linter.unusedVariables false
open Go Go.RowKit
open Go.Maps Go.WideMaps

/-- A slice of manifests. -/
def Manifs (w : World) (v : Value) (ms : List (Int × List Int)) : Prop :=
  ∃ a cap, v = .slice a ms.length cap ∧ ∀ (i : Nat) m, ms[i]? = some m → ∃ b off sv, a = some ⟨b, off, none⟩ ∧ b < w.heap.size ∧ w.cell? ⟨b, off + i * 2, none⟩ = some (.int .i64 m.1) ∧ w.cell? ⟨b, off + i * 2 + 1, none⟩ = some sv ∧ Ints w sv m.2
theorem Manifs.form {w : World} {v : Value} {ms : List (Int × List Int)} (h : Manifs w v ms) : ∃ a cap, v = .slice a ms.length cap := by
  obtain ⟨a, cap, h1, _⟩ := h
  exact ⟨a, cap, h1⟩
theorem Manifs.at {w : World} {a : Option Addr} {n cap : Nat} {ms : List (Int × List Int)} (h : Manifs w (.slice a n cap) ms) {i : Nat} {m : Int × List Int} (hi : ms[i]? = some m) :
    ∃ b off sv, a = some ⟨b, off, none⟩ ∧ b < w.heap.size ∧ w.cell? ⟨b, off + i * 2, none⟩ = some (.int .i64 m.1) ∧ w.cell? ⟨b, off + i * 2 + 1, none⟩ = some sv ∧ Ints w sv m.2 := by
  obtain ⟨a', cap', h1, h2⟩ := h
  obtain ⟨b, off, sv, e, h3, h4, h5⟩ := h2 i m hi
  simp only [Value.slice.injEq] at h1
  exact ⟨b, off, sv, by rw [h1.1, e], h3, h4, h5⟩
theorem Manifs.below {w w' : World} {v : Value} {l : List (Int × List Int)} (h : Manifs w v l) (hb : Below w.heap.size w w') : Manifs w' v l := by
  obtain ⟨a, cap, h1, h3⟩ := h
  refine ⟨a, cap, h1, fun i x hi => ?_⟩
  obtain ⟨b, off, sv, e, h4, h5, h6, h7⟩ := h3 i x hi
  exact ⟨b, off, sv, e, Nat.lt_of_lt_of_le h4 hb.size, by rw [World.cell?_of_block (hb.block b h4)]; exact h5, by rw [World.cell?_of_block (hb.block b h4)]; exact h6, h7.below hb⟩
theorem Strs.below {w w' : World} {v : Value} {l : List ByteArray} (h : Strs w v l) (hb : Below w.heap.size w w') : Strs w' v l := by
  obtain ⟨a, cap, h1, h3⟩ := h
  refine ⟨a, cap, h1, fun i x hi => ?_⟩
  obtain ⟨b, off, e, h4, h5⟩ := h3 i x hi
  exact ⟨b, off, e, Nat.lt_of_lt_of_le h4 hb.size, by rw [World.cell?_of_block (hb.block b h4)]; exact h5⟩
/-- The file system, and a block of the caller's own beside it. -/
structure LWorld (base B g : Nat) (w1 : World) (c : Array Value) (st : Fs.St) (V : FsV) (own : Nat → Tag) (w : World) : Prop where
  ok : FsOK base B st V own w
  bel : Below base w1 w
  cell : w.heap[g]? = some (.cells c 24 (0, 0))
  og : own g = .other
  bg : base ≤ g
  hb : base ≤ w.heap.size
section
variable {base B g : Nat} {w1 : World} {c : Array Value} {st : Fs.St} {V : FsV} {own : Nat → Tag} {w w' : World} (h : LWorld base B g w1 c st V own w)
include h
theorem LWorld.op {st' : Fs.St} (hp : OpPost base B st' own w w') : ∃ V' own', LWorld base B g w1 c st' V' own' w' := by
  have hb := hp.below0 h.ok h.hb
  obtain ⟨V', own', h1, h2, h3⟩ := hp
  have hg := heap_lt h.cell
  exact ⟨V', own', h1, h.bel.trans hb, by rw [h3.block g hg (by rw [h.og]; simp)]; exact h.cell, (h2 g hg).trans h.og, h.bg, Nat.le_trans h.hb h3.size⟩
theorem LWorld.below (hb : Below w.heap.size w w') : LWorld base B g w1 c st V own w' :=
  ⟨h.ok.kept (kept_below hb), h.bel.trans (hb.mono h.hb), by rw [hb.block g (heap_lt h.cell)]; exact h.cell, h.og, h.bg, Nat.le_trans h.hb hb.size⟩
theorem LWorld.set (k : Nat) (v : Value) : LWorld base B g w1 (c.setIfInBounds k v) st V own (w.setCell ⟨g, k, none⟩ v) :=
  ⟨h.ok.kept ((Kept.refl _ _ _).setCell ⟨g, k, none⟩ h.og v), h.bel.setCell (p := ⟨g, k, none⟩) h.bg v, heap_set h.cell v, h.og, h.bg, by simpa [World.setCell] using h.hb⟩
end
end Go.Proofs.YtcinagglbkbmkaaGreatDoor
namespace Go.Proofs.YtcinagglbkbmkaaGreatDoor
set_option linter.unusedSimpArgs false
set_option linter.unusedVariables false
open Go Go.RowKit
open Go.Maps Go.WideMaps

/-- The file system, over a world. -/
structure CWorld (base B : Nat) (w1 : World) (st : Fs.St) (V : FsV) (own : Nat → Tag) (w : World) : Prop where
  ok : FsOK base B st V own w
  bel : Below base w1 w
  hb : base ≤ w.heap.size
section
variable {base B : Nat} {w1 : World} {st : Fs.St} {V : FsV} {own : Nat → Tag} {w w' : World} (h : CWorld base B w1 st V own w)
include h
theorem CWorld.op {st' : Fs.St} (hp : OpPost base B st' own w w') : ∃ V' own', CWorld base B w1 st' V' own' w' := by
  have hb := hp.below0 h.ok h.hb
  obtain ⟨V', own', h1, h2, h3⟩ := hp
  exact ⟨V', own', h1, h.bel.trans hb, Nat.le_trans h.hb h3.size⟩
theorem CWorld.below (hb : Below w.heap.size w w') : CWorld base B w1 st V own w' :=
  ⟨h.ok.kept (kept_below hb), h.bel.trans (hb.mono h.hb), Nat.le_trans h.hb hb.size⟩
end
set_option maxHeartbeats 1000000 in
set_option maxRecDepth 100000 in
theorem check_all (ver : Int) (sv : Value) (l : List Int) (w : World) (hS : Nums w sv l) (hl : l.length ≤ 9223372036854775807) :
    Calls Tryz.prog 17 #[.agg #[.int .i64 ver, sv]] w fun e w' => e = .returned (.int .i64 (Mf.chk ver l)) ∧ Below w.heap.size w w' := by
  by_cases hsm : l.length ≤ 1000000000
  · exact check_any ver sv l w hS hsm
  obtain ⟨sa, sc, rfl⟩ := hS.form
  have hr := heap_new w (.cells #[.int .i64 ver, .slice sa l.length sc] 24)
  have y0 := root_cell hr 0 _ rfl
  have y1 := root_cell hr 1 _ rfl
  clear hS hr
  go_enter Tryz.func17, Tryz.ntmps17
  by_cases h1 : ver < 1
  · skip
    have HE : Hid (Mf.chk ver l = 1) := by unfold Mf.chk; rw [Mf.good_bad (by omega)]; exact Lib.hid rfl
    go_wp2_with fail
    go_ret
    exact ⟨congrArg (fun x => Ending.returned (.int .i64 x)) HE.out.symm, (Below.refl _ _).alloc (Nat.le_refl _) _⟩
  have h1' : 1 ≤ ver := by omega
  by_cases h2 : 2147483647 < ver
  · skip
    have HE : Hid (Mf.chk ver l = 1) := by unfold Mf.chk; rw [Mf.good_bad (by omega)]; exact Lib.hid rfl
    go_wp2_with fail
    go_ret
    exact ⟨congrArg (fun x => Ending.returned (.int .i64 x)) HE.out.symm, (Below.refl _ _).alloc (Nat.le_refl _) _⟩
  have h2' : ver ≤ 2147483647 := by omega
  have h3' : (1 : Int) ≤ (l.length : Int) := by omega
  have h4i : (32 : Int) < (l.length : Int) := by omega
  have HE : Hid (Mf.chk ver l = 1) := by unfold Mf.chk; rw [Mf.good_bad (by omega)]; exact Lib.hid rfl
  go_wp2_with fail
  go_ret
  exact ⟨congrArg (fun x => Ending.returned (.int .i64 x)) HE.out.symm, (Below.refl _ _).alloc (Nat.le_refl _) _⟩
end Go.Proofs.YtcinagglbkbmkaaGreatDoor
