/-
  The reader of documents: Parse, walked. Names of operations, and rows of texts compared, walked. 'awake' of the documents' law, walked.
-/
import Derived.Test.YtabcaljnpahgpaaGreatDoorK25
import Derived.Test.YtabcaljnpahgpaaGreatDoorK21
import Derived.Test.YtabcaljnpahgpaaGreatDoorK2
import Derived.Test.YtabcaljnpahgpaaGreatDoorK16b
namespace Go.Proofs.YtabcaljnpahgpaaGreatDoor
set_option linter.unusedSimpArgs false
set_option linter.unusedVariables false
open Go Go.RowKit

def mkDoc (v1 v2 : Value) : Array Value := #[v1, v2]
/-- What 'Parse' leaves. -/
def QdPost (l : List UInt8) (w : World) (r : Ending) (w' : World) : Prop :=
  Below w.heap.size w w' ∧ StdAll l ∧ ((∃ (a1 a2 : Option Addr) (c1 c2 : Nat), (Qr.parse l).1.err = 0 ∧ r = .returned (.tuple #[.agg #[.slice a1 (Qr.parse l).2.1.length c1, .slice a2 (Qr.parse l).2.2.length c2], .int .i64 0, .int .i64 0]) ∧
      Reads w' (fun x => w.heap.size ≤ x) (.seq 6 ((Qr.parse l).2.1.map Qr.Op.d)) [.slice a1 (Qr.parse l).2.1.length c1] ∧ Reads w' (fun x => w.heap.size ≤ x) (.seq 5 ((Qr.parse l).2.2.map Qr.Fr.d)) [.slice a2 (Qr.parse l).2.2.length c2]) ∨
    ((Qr.parse l).1.err ≠ 0 ∧ r = .returned (.tuple #[.agg #[.slice none 0 0, .slice none 0 0], .int .i64 (Qr.parse l).1.at_, .int .i64 (Qr.parse l).1.err])))
abbrev DQ (w0 : World) (b g t6 : Nat) (s : Rd.St) (v1 v2 : Value) (d : List Qr.Op × List Qr.Fr) (w : World) : Prop :=
  DI w0 b g t6 (t6 + 1) 43 mkDoc 49 99 6 5 s v1 v2 (d.1.map Qr.Op.d) (d.2.map Qr.Fr.d) w
theorem Op_cells {w : World} {P : Nat → Prop} {x : Qr.Op} {cs : List Value} (h : Reads w P x.d cs) : ∃ (kd : Int) (nm : ByteArray) (a3 : Option Addr) (n3 c3 : Nat) (a4 : Option Addr) (n4 c4 : Nat) (a5 : Option Addr) (n5 c5 : Nat) (a6 : Int), cs = [.int .i64 kd, .string nm, .slice a3 n3 c3, .slice a4 n4 c4, .slice a5 n5 c5, .int .i64 a6] := by
  obtain ⟨a1, a2, a3, c1, c2, c3, rfl, _⟩ := Op_open h
  exact ⟨_, _, _, _, _, _, _, _, _, _, _, _, rfl⟩
theorem Fr_cells {w : World} {P : Nat → Prop} {x : Qr.Fr} {cs : List Value} (h : Reads w P x.d cs) : ∃ (nm on : ByteArray) (a3 : Option Addr) (n3 c3 : Nat) (a4 : Option Addr) (n4 c4 : Nat) (a5 : Int), cs = [.string nm, .string on, .slice a3 n3 c3, .slice a4 n4 c4, .int .i64 a5] := by
  obtain ⟨a1, a2, c1, c2, rfl, _⟩ := Fr_open h
  exact ⟨_, _, _, _, _, _, _, _, _, rfl⟩
set_option maxHeartbeats 4000000 in
set_option maxRecDepth 100000 in
theorem qparse_any (s : ByteArray) (w : World) (hs : s.size ≤ 9223372036854775807) (hE : Env w) (h3 : 3 ≤ w.heap.size) :
    Calls Tryz.prog 42 #[.string s] w (QdPost s.data.toList w) := by
  obtain ⟨i01, hi1, hz01, hz11, hz21⟩ := info_parts infoFr
  obtain ⟨i00, hi0, hz00, hz10, hz20⟩ := info_parts infoOp
  have hba : Below w.heap.size w (w.alloc (.cells #[.slice none 0 0, .slice none 0 0] 43)) := (Below.refl _ _).alloc (Nat.le_refl _) _
  have HBA := Lib.hid hba
  have HE := Lib.hid (hE.below hba)
  have hz0 : 3 ≤ (w.alloc (.cells #[.slice none 0 0, .slice none 0 0] 43)).heap.size := by have := hba.size; omega
  clear hE hba
  go_enter Tryz.func42, Tryz.ntmps42
  go_wp2_with fail
  refine (rnew_any s _ hs HE.out hz0).mono ?_
  rintro r w1 ⟨hb1, hstd, g, cap, ts, a, e, rfl, hg, hrow, hok, hpos, hbg⟩
  have HSTD := Lib.hid hstd
  obtain ⟨w2, hw2⟩ : ∃ z, z = w1.alloc (.cells #[.slice (some ⟨g, 0, none⟩) ts.length cap, .int .i64 0, .int .i64 0, .int .i64 a, .int .i64 e] 142) := ⟨_, rfl⟩
  obtain ⟨w3, hw3⟩ : ∃ z, z = w2.alloc (.cells #[.slice none 0 0, .slice none 0 0] 43) := ⟨_, rfl⟩
  obtain ⟨s0, hs0⟩ : ∃ z, z = Rd.begin_ s.data.toList := ⟨_, rfl⟩
  have hb2 : Below w1.heap.size w1 w2 := by rw [hw2]; exact (Below.refl _ _).alloc (Nat.le_refl _) _
  have hb3 : Below w2.heap.size w2 w3 := by rw [hw3]; exact (Below.refl _ _).alloc (Nat.le_refl _) _
  have hsz2 : w2.heap.size = w1.heap.size + 1 := by rw [hw2]; simp
  have hgl := hrow.lt
  have hR : RdAt w2 w1.heap.size g s0 := by
    rw [hs0]
    exact NewPost.rdAt (T := 142) (by rw [hw2]; exact heap_at_new _ _) (hrow.heap hb2.size (hb2.block g hgl)) (by omega) hok hpos hbg
  have HZ1 : Hid (w1.heap[w.heap.size]? = some (.cells #[.slice none 0 0, .slice none 0 0] 43 (0, 0))) := Lib.hid (by rw [hb1.block w.heap.size (by simp)]; exact heap_at_new _ _)
  have HZ2 : Hid (w2.heap[w.heap.size]? = some (.cells #[.slice none 0 0, .slice none 0 0] 43 (0, 0))) := Lib.hid (by rw [hb2.block w.heap.size (block_lt HZ1.out)]; exact HZ1.out)
  have hsz1 : w.heap.size < w1.heap.size := block_lt HZ1.out
  have HBW := Lib.hid ((HBA.out.trans (hb1.mono HBA.out.size)).trans (hb2.mono (Nat.le_trans HBA.out.size hb1.size)))
  have HDI : Hid (DQ w2 w1.heap.size g (w1.heap.size + 1) s0 (.slice none 0 0) (.slice none 0 0) ([], []) w3) := by
    refine Lib.hid ⟨hR.below hb3, But.of_below hb3, by omega, by omega, ⟨by omega, by omega⟩, by rw [hw3]; simp; omega, ?_, Grows.nil _ _ _ _ _, Grows.nil _ _ _ _ _, fun x hx => by simp [Value.ownBlock] at hx⟩
    rw [← hsz2, hw3]
    exact heap_at_new _ _
  have hm := hR.rest_len
  obtain ⟨n, hn⟩ : ∃ z, z = s0.rest.length := ⟨_, rfl⟩
  have HPG : Hid (Qr.parse s.data.toList = Qr.go (n + 1) true (n + 2) s0 ([], [])) := by unfold Qr.parse; dsimp only; rw [hn, hs0]; exact Lib.hid rfl
  have HD0 : Hid (s0.deep = 0) := by rw [hs0, hbg]; exact Lib.hid rfl
  have HN := Lib.hid hn
  have hnb : n ≤ 1501 := by omega
  have HX3 := Lib.hid hw3
  have HX2 := Lib.hid hw2
  have HS2 := Lib.hid hsz2
  clear hbg hs0 hn hb2 hR hrow hok hb1 hm hg hw2 hw3 hgl hb3 hsz2 hstd
  go_wp2_with fail
  rw [← HX2.out, ← HX3.out]
  obtain ⟨b, hb⟩ : ∃ z, z = w1.heap.size := ⟨_, rfl⟩
  rw [← hb] at HDI hsz1 ⊢
  clear hb HX2 HX3
  have hwb : w.heap.size < b := hsz1
  clear hsz1
  go_loopg [7] (n + 2) (fun k s7 wr => ∃ (ff : Bool) (sr : Rd.St) (d : List Qr.Op × List Qr.Fr) (v1 v2 : Value), s7 = .bool ff ∧ (sr.err ≠ 0 ∨ sr.rest.length + 1 ≤ k) ∧ d.1.length + k ≤ n + 2 ∧ d.2.length + k ≤ n + 2 ∧ sr.deep = 0 ∧ sr.rest.length ≤ n ∧ DQ w2 b g (b + 1) sr v1 v2 d wr ∧ Qr.go (n + 1) ff k sr d = Qr.parse s.data.toList)
  case atStart => exact ⟨true, s0, ([], []), _, _, rfl, .inr (by have := HN.out; omega), by simp, by simp, HD0.out, by rw [HN.out]; exact Nat.le_refl _, HDI.out, HPG.out.symm⟩
  case round =>
    obtain ⟨ff, sr, d, v1, v2, rfl, hm, hl1, hl2, hdp, hrn, hD, hgo⟩ := hrel
    obtain ⟨a1, c1, hv1⟩ := hD.g1.form
    obtain ⟨a2, c2, hv2⟩ := hD.g2.form
    rw [List.length_map] at hv1 hv2
    subst hv1 hv2
    have HD := Lib.hid hD
    have HGO := Lib.hid hgo
    have HM := Lib.hid hm
    have HDP := Lib.hid hdp
    have c4' := hD.rd.c4
    clear hD hgo HDI hm hdp HN
    by_cases he : sr.err = 0
    · have e4 := eqT (n := sr.err) (k := 0) (by omega)
      have e5 := neF (n := sr.err) (k := 0) (by omega)
      have HERR := Lib.hid he
      clear he
      have hml : sr.rest.length + 1 ≤ gk := by rcases HM.out with h | h; exact absurd HERR.out h; exact h
      have hpos := HD.out.rd.rest_len
      obtain ⟨k', hk'⟩ : ∃ k', gk = k' + 1 := ⟨gk - 1, by omega⟩
      subst hk'
      cases ff
      · go_wp2_with fail
        refine (rpeek_any b g sr wr HD.out.rd).mono ?_
        rintro r w7 ⟨rfl, hb7⟩
        have HD3 := Lib.hid (HD.out.below hb7)
        obtain ⟨tk, htk⟩ : ∃ z, z = Rd.peek sr := ⟨_, rfl⟩
        have HTK := Lib.hid htk
        rw [← htk]
        clear hb7 htk c4'
        have c4' := HD3.out.rd.c4
        by_cases hk : tk.kind = 0
        · have e6 := neF (n := tk.kind) (k := 0) (by omega)
          have HE2 : Hid (Qr.parse s.data.toList = (sr, d)) := by
            rw [← HGO.out]
            refine Lib.hid ?_
            unfold Qr.go
            rw [if_neg (by rw [← HTK.out]; simp [hk])]
          clear hk
          have HZR : Hid (w7.heap[w.heap.size]? = some (.cells #[.slice none 0 0, .slice none 0 0] 43 (0, 0))) := Lib.hid (by rw [HD3.out.fr.block w.heap.size (block_lt HZ2.out) (by omega)]; exact HZ2.out)
          have z0 := blk_cell HZR.out 0 (.slice none 0 0) rfl
          have zf0 := blk_free HZR.out 0
          have z1 := blk_cell HZR.out 1 (.slice none 0 0) rfl
          have zf1 := blk_free HZR.out 1
          have y0 := blk_cell HD3.out.b6 0 (.slice a1 d.1.length c1) rfl
          have y1 := blk_cell HD3.out.b6 1 (.slice a2 d.2.length c2) rfl
          have n1 : ¬ w.heap.size = b + 1 := by omega
          have n2 : ¬ b + 1 = w.heap.size := by omega
          go_wp2_with fail
          refine bodyPost_ret (v := .tuple #[.agg #[.slice a1 d.1.length c1, .slice a2 d.2.length c2], .int .i64 0, .int .i64 0]) (by simp [results, Tryz.results42, go_sem, z0, z1, y0, y1, n1, n2]) rfl ?_
          refine ⟨((below_fr HBW.out (Nat.le_refl _) HD3.out.fr (Nat.le_of_lt hwb)).setCell (Nat.le_refl _) _).setCell (Nat.le_refl _) _, HSTD.out, .inl ⟨a1, a2, c1, c2, ?_⟩⟩
          rw [HE2.out]
          have hst : Stands w7 (fun x => b + 1 + 1 ≤ x) ((w7.setCell ⟨w.heap.size, 0, none⟩ (.slice a1 d.1.length c1)).setCell ⟨w.heap.size, 1, none⟩ (.slice a2 d.2.length c2)) (fun x => w.heap.size ≤ x) :=
            ⟨by rw [size_set, size_set]; exact Nat.le_refl _, fun x hx hp => ⟨by have h9 : b + 1 + 1 ≤ x := hp; show w.heap.size ≤ x; omega, by have h9 : b + 1 + 1 ≤ x := hp; rw [heap_set_ne (by omega), heap_set_ne (by omega)]⟩⟩
          exact ⟨HERR.out, rfl, HD3.out.reads.1.to hst, HD3.out.reads.2.to hst⟩
        · skip
          have HGOES : Hid (sr.err = 0 ∧ (false = true ∨ (Rd.peek sr).kind ≠ 0)) := Lib.hid ⟨HERR.out, .inr (by rw [← HTK.out]; exact hk)⟩
          have e6 := neT (n := tk.kind) (k := 0) (by omega)
          clear hk
          have HGN : Hid (Qr.go (n + 1) false k' (Qr.step (n + 1) sr d).1 (Qr.step (n + 1) sr d).2 = Qr.parse s.data.toList) := by rw [← HGO.out, Qr.go, if_pos HGOES.out]; exact Lib.hid rfl
          have HBL : Hid (Below w7.heap.size w7 ((w7).alloc (.cells #[.string ⟨#[102, 114, 97, 103, 109, 101, 110, 116]⟩] 9))) := Lib.hid ((Below.refl _ _).alloc (Nat.le_refl _) _)
          go_wp2_with fail
          refine (rword_any b g sr _ [Qr.sFrag] _ ((HD3.out.below HBL.out).rd) (txts_one w7 Qr.sFrag _ _ rfl) (by simp)).mono ?_
          rintro r w9 ⟨rfl, hb9⟩
          have HD9 := Lib.hid ((HD3.out.below HBL.out).below hb9)
          obtain ⟨F, hF⟩ : ∃ B, B = Rd.isW sr [Qr.sFrag] := ⟨_, rfl⟩
          have HFF := Lib.hid hF
          rw [← hF]
          clear hF hb9 c4'
          cases F
          · go_wp2_with fail
            refine wp_region_phase (fun _ => True) 13 (by kernel_rfl) ?_
            refine wpAnyB_take (i := 0) (v := (.pointer (some ⟨b, 0, none⟩))) (by kernel_rfl) (by decide) rfl (by kernel_rfl) (by kernel_rfl) (by kernel_rfl) (fun _ _ _ h => h) (Or.inl ⟨by rfl, fun w hSw => by go_simp⟩) trivial ?_; simp only [Act.put, Array.getInternal_eq_getElem, List.getElem_toArray, List.getElem_cons_zero, List.getElem_cons_succ, List.setIfInBounds_toArray, List.set_cons_zero, List.set_cons_succ]
            refine wpAnyB_take (i := 1) (v := (.pointer (some ⟨b, 0, none⟩))) (by kernel_rfl) (by decide) rfl (by kernel_rfl) (by kernel_rfl) (by kernel_rfl) (fun _ _ _ h => h) (Or.inl ⟨by rfl, fun w hSw => by go_simp⟩) trivial ?_; simp only [Act.put, Array.getInternal_eq_getElem, List.getElem_toArray, List.getElem_cons_zero, List.getElem_cons_succ, List.setIfInBounds_toArray, List.set_cons_zero, List.set_cons_succ]
            refine wpAnyB_take (i := 2) (v := (.pointer (some ⟨b, 0, none⟩))) (by kernel_rfl) (by decide) rfl (by kernel_rfl) (by kernel_rfl) (by kernel_rfl) (fun _ _ _ h => h) (Or.inl ⟨by rfl, fun w hSw => by go_simp⟩) trivial ?_; simp only [Act.put, Array.getInternal_eq_getElem, List.getElem_toArray, List.getElem_cons_zero, List.getElem_cons_succ, List.setIfInBounds_toArray, List.set_cons_zero, List.set_cons_succ]
            refine wpAnyB_one (i := 3) (by kernel_rfl) ?_
            refine wpOp_intro (by decide) (fun K3 HK3 => ?_); simp only [List.drop_succ_cons, List.drop_zero, List.take_succ_cons, List.take_zero]
            have HBL2 : Hid (Below w9.heap.size w9 ((w9.drew).alloc (.cells #[.string ⟨#[123]⟩] 9))) := Lib.hid (((Below.refl _ _).drew).alloc (Nat.le_refl _) _)
            have HTX : Hid (Txts ((w9.drew).alloc (.cells #[.string ⟨#[123]⟩] 9)) (.slice (some ⟨w9.heap.size, 0, none⟩) 1 1) [Rd.lbrc]) := Lib.hid (txts_one w9.drew Rd.lbrc ⟨#[123]⟩ 9 rfl)
            have HDL := Lib.hid (HD9.out.below HBL2.out)
            go_wp2_with fail
            refine HK3.out _ _ ⟨fun _ => trivial, ?_⟩
            clear HK3
            refine wpAnyB_one (i := 4) (by kernel_rfl) ?_
            refine wpOp_intro (by decide) (fun K4 HK4 => ?_); simp only [List.drop_succ_cons, List.drop_zero, List.take_succ_cons, List.take_zero]
            go_wp2_with fail
            refine (ris_any b g sr _ [Rd.lbrc] _ HDL.out.rd HTX.out (by simp)).mono ?_
            rintro r w10 ⟨rfl, hb10⟩
            rw [show ([Rd.lbrc].any (Rd.isS sr)) = Rd.isS sr Rd.lbrc by simp]
            have HD10 := Lib.hid (HDL.out.below hb10)
            obtain ⟨B, hB⟩ : ∃ B, B = Rd.isS sr Rd.lbrc := ⟨_, rfl⟩
            have HB := Lib.hid hB
            rw [← hB]
            clear hB hb10 HBL2 HTX HDL
            go_wp2_with fail
            refine HK4.out _ _ ⟨fun _ => trivial, ?_⟩
            clear HK4
            cases B
            · refine wpAnyB_take (i := 5) (v := (.bool false)) (by kernel_rfl) (by decide) rfl (by kernel_rfl) (by kernel_rfl) (by kernel_rfl) (fun _ _ _ h => h) (Or.inl ⟨by rfl, fun w hSw => by go_simp⟩) trivial ?_; simp only [Act.put, Array.getInternal_eq_getElem, List.getElem_toArray, List.getElem_cons_zero, List.getElem_cons_succ, List.setIfInBounds_toArray, List.set_cons_zero, List.set_cons_succ]
              refine wpAnyB_take (i := 6) (v := (.pointer (some ⟨b, 0, none⟩))) (by kernel_rfl) (by decide) rfl (by kernel_rfl) (by kernel_rfl) (by kernel_rfl) (fun _ _ _ h => h) (Or.inl ⟨by rfl, fun w hSw => by go_simp⟩) trivial ?_; simp only [Act.put, Array.getInternal_eq_getElem, List.getElem_toArray, List.getElem_cons_zero, List.getElem_cons_succ, List.setIfInBounds_toArray, List.set_cons_zero, List.set_cons_succ]
              refine wpAnyB_take (i := 7) (v := (.pointer (some ⟨b, 0, none⟩))) (by kernel_rfl) (by decide) rfl (by kernel_rfl) (by kernel_rfl) (by kernel_rfl) (fun _ _ _ h => h) (Or.inl ⟨by rfl, fun w hSw => by go_simp⟩) trivial ?_; simp only [Act.put, Array.getInternal_eq_getElem, List.getElem_toArray, List.getElem_cons_zero, List.getElem_cons_succ, List.setIfInBounds_toArray, List.set_cons_zero, List.set_cons_succ]
              refine wpAnyB_take (i := 8) (v := (.pointer (some ⟨b, 0, none⟩))) (by kernel_rfl) (by decide) rfl (by kernel_rfl) (by kernel_rfl) (by kernel_rfl) (fun _ _ _ h => h) (Or.inl ⟨by rfl, fun w hSw => by go_simp⟩) trivial ?_; simp only [Act.put, Array.getInternal_eq_getElem, List.getElem_toArray, List.getElem_cons_zero, List.getElem_cons_succ, List.setIfInBounds_toArray, List.set_cons_zero, List.set_cons_succ]
              refine wpAnyB_one (i := 9) (by kernel_rfl) ?_
              refine wpOp_intro (by decide) (fun K9 HK9 => ?_); simp only [List.drop_succ_cons, List.drop_zero, List.take_succ_cons, List.take_zero]
              go_wp2_with fail
              refine (kinds_any _).mono ?_
              rintro r w12 ⟨rfl, hb12, hx⟩
              have HX12 := Lib.hid hx
              have HD12 := Lib.hid (HD10.out.below hb12)
              clear hb12 hx
              go_wp2_with fail
              refine HK9.out _ _ ⟨fun _ => trivial, ?_⟩
              clear HK9
              refine wpAnyB_one (i := 10) (by kernel_rfl) ?_
              refine wpOp_intro (by decide) (fun K10 HK10 => ?_); simp only [List.drop_succ_cons, List.drop_zero, List.take_succ_cons, List.take_zero]
              go_wp2_with fail
              refine (rword_any b g sr _ Qr.kinds _ HD12.out.rd HX12.out (by decide)).mono ?_
              rintro r w13 ⟨rfl, hb13⟩
              have HD13 := Lib.hid (HD12.out.below hb13)
              obtain ⟨C, hC⟩ : ∃ B, B = Rd.isW sr Qr.kinds := ⟨_, rfl⟩
              have HC := Lib.hid hC
              rw [← hC]
              clear hC hb13 HX12 HD12
              go_wp2_with fail
              refine HK10.out _ _ ⟨fun _ => trivial, ?_⟩
              clear HK10
              refine wpAnyB_take (i := 11) (v := (.bool C)) (by kernel_rfl) (by decide) rfl (by kernel_rfl) (by kernel_rfl) (by kernel_rfl) (fun _ _ _ h => h) (Or.inl ⟨by rfl, fun w hSw => by go_simp⟩) trivial ?_; simp only [Act.put, Array.getInternal_eq_getElem, List.getElem_toArray, List.getElem_cons_zero, List.getElem_cons_succ, List.setIfInBounds_toArray, List.set_cons_zero, List.set_cons_succ]
              refine wpAnyB_take (i := 12) (v := (.bool C)) (by kernel_rfl) (by decide) rfl (by kernel_rfl) (by kernel_rfl) (by kernel_rfl) (fun _ _ _ h => h) (Or.inl ⟨by rfl, fun w hSw => by go_simp⟩) trivial ?_; simp only [Act.put, Array.getInternal_eq_getElem, List.getElem_toArray, List.getElem_cons_zero, List.getElem_cons_succ, List.setIfInBounds_toArray, List.set_cons_zero, List.set_cons_succ]
              refine wpAnyB_done (by kernel_rfl) ?_ _
              cases C
              · have HSTEP : Hid (Qr.step (n + 1) sr d = (Rd.wrong sr, d)) := by unfold Qr.step; rw [if_neg (by rw [← HFF.out]; simp), if_neg (by rw [← HB.out, ← HC.out]; simp)]; exact Lib.hid rfl
                go_wp2_with fail
                refine (rwrong_any b g sr _ HD13.out.rd).mono ?_
                rintro r w14 ⟨rfl, hr14, hf14⟩
                have HND := Lib.hid (HD13.out.step hr14 hf14)
                clear hr14 hf14
                go_wp2_with fail
                go_roundg k'
                case measure => omega
                case rel =>
                  have hsd := Qr.step_deep (n + 1) sr d
                  have hsg := Qr.step_goes (n + 1) sr d
                  have hsk := (Qr.ok_step (n + 1) sr d).len
                  have hgo2 : Qr.go (n + 1) false k' (Qr.step (n + 1) sr d).1 (Qr.step (n + 1) sr d).2 = Qr.parse s.data.toList := HGN.out
                  rw [HSTEP.out] at hsd hsg hsk hgo2
                  exact ⟨false, _, _, _, _, rfl, by rcases hsg with hx | hx; exact .inl hx; right; simp only at hx ⊢; omega, by omega, by omega, by rw [← HDP.out]; exact hsd, Nat.le_trans hsk hrn, HND.out, hgo2⟩
              · have HSTEP : Hid (Qr.step (n + 1) sr d = ((Qr.op (n + 1) sr).1, (d.1 ++ [(Qr.op (n + 1) sr).2], d.2))) := by unfold Qr.step; rw [if_neg (by rw [← HFF.out]; simp), if_pos (by rw [← HB.out, ← HC.out]; simp [])]; exact Lib.hid rfl
                go_wp2_with fail
                have HDd := Lib.hid (HD13.out.below ((Below.refl _ _).drew))
                have hSC : w13.cell? ⟨b + 1, 0, none⟩ = some (.slice a1 d.1.length c1) := blk_cell HD13.out.b6 0 _ rfl
                refine wp_region_phase (fun w' => w'.cell? ⟨b + 1, 0, none⟩ = some (.slice a1 d.1.length c1)) 6 (by kernel_rfl) ?_
                refine wpAnyB_take (i := 0) (v := (.pointer (some ⟨b + 1, 0, none⟩))) (by kernel_rfl) (by decide) rfl (by kernel_rfl) (by kernel_rfl) (by kernel_rfl) (fun _ _ _ h => h) (Or.inl ⟨by rfl, fun w hSw => by have s0 := hSw; go_simp⟩) hSC ?_; simp only [Act.put, Array.getInternal_eq_getElem, List.getElem_toArray, List.getElem_cons_zero, List.getElem_cons_succ, List.setIfInBounds_toArray, List.set_cons_zero, List.set_cons_succ]
                refine wpAnyB_take (i := 1) (v := (.slice a1 d.1.length c1)) (by kernel_rfl) (by decide) rfl (by kernel_rfl) (by kernel_rfl) (by kernel_rfl) (fun _ _ _ h => h) (Or.inl ⟨by rfl, fun w hSw => by have s0 := hSw; go_simp⟩) hSC ?_; simp only [Act.put, Array.getInternal_eq_getElem, List.getElem_toArray, List.getElem_cons_zero, List.getElem_cons_succ, List.setIfInBounds_toArray, List.set_cons_zero, List.set_cons_succ]
                refine wpAnyB_take (i := 2) (v := (.pointer (some ⟨b, 0, none⟩))) (by kernel_rfl) (by decide) rfl (by kernel_rfl) (by kernel_rfl) (by kernel_rfl) (fun _ _ _ h => h) (Or.inl ⟨by rfl, fun w hSw => by have s0 := hSw; go_simp⟩) hSC ?_; simp only [Act.put, Array.getInternal_eq_getElem, List.getElem_toArray, List.getElem_cons_zero, List.getElem_cons_succ, List.setIfInBounds_toArray, List.set_cons_zero, List.set_cons_succ]
                clear hSC
                refine wpAnyB_one (i := 3) (by kernel_rfl) ?_
                refine wpOp_intro (by decide) (fun K3 HK3 => ?_); simp only [List.drop_succ_cons, List.drop_zero, List.take_succ_cons, List.take_zero]
                go_wp2_with fail
                refine (op_any b g n (by omega) sr _ HDd.out.rd hrn (by rw [HDP.out]; omega)).mono ?_
                rintro r w11 ⟨cs, rfl, hrd, hr3, hf3⟩
                obtain ⟨kd, nm, a3, n3, c3, a4, n4, c4, a5, n5, c5, a6, rfl⟩ := Op_cells hrd
                have HD11 := Lib.hid (HDd.out.step hr3 hf3)
                have HDAT := Lib.hid (HDd.out.data hrd)
                have HONE := Lib.hid (Reads.one hrd)
                clear hrd hr3 hf3
                go_wp2_with fail
                refine HK3.out _ _ ⟨fun _ => blk_cell HD11.out.b6 0 _ rfl, ?_⟩
                clear HK3
                refine wpAnyB_one (i := 4) (by kernel_rfl) ?_
                refine wpOp_intro (by decide) (fun K4 HK4 => ?_); simp only [List.drop_succ_cons, List.drop_zero, List.take_succ_cons, List.take_zero]
                go_wp2_with fail
                have hA : Below w11.heap.size w11 (w11.alloc (.cells #[.int .i64 kd, .string nm, .slice a3 n3 c3, .slice a4 n4 c4, .slice a5 n5 c5, .int .i64 a6] 49)) := (Below.refl _ _).alloc (Nat.le_refl _) _
                have hE := (HD11.out.below hA)
                have HE := Lib.hid hE
                obtain ⟨⟨xs, hx, hRo⟩, hap⟩ := hE.g1
                rw [List.length_map] at hx
                have HXX := Lib.hid hx
                have HRO := Lib.hid hRo
                have HDD := Lib.hid (HDAT.out.to (Stands.below hA))
                have HLIT : Hid (∀ j u, ([Value.int .i64 kd, .string nm, .slice a3 n3 c3, .slice a4 n4 c4, .slice a5 n5 c5, .int .i64 a6] : List Value)[j]? = some u → (w11.alloc (.cells #[.int .i64 kd, .string nm, .slice a3 n3 c3, .slice a4 n4 c4, .slice a5 n5 c5, .int .i64 a6] 49)).cell? ((⟨w11.heap.size, 0, none⟩ : Addr).add j) = some u) := Lib.hid (lit_cells (fz := (0, 0)) (heap_at_new _ _))
                have hbase : b + 1 + 1 ≤ (w11.alloc (.cells #[.int .i64 kd, .string nm, .slice a3 n3 c3, .slice a4 n4 c4, .slice a5 n5 c5, .int .i64 a6] 49)).heap.size := hE.hi
                have HYC : Hid (∀ w8 : World, (w11.alloc (.cells #[.int .i64 kd, .string nm, .slice a3 n3 c3, .slice a4 n4 c4, .slice a5 n5 c5, .int .i64 a6] 49)).grownBy w8 (Value.ownBlock (.slice a1 d.1.length c1)) → w8.heap[b + 1]? = some (.cells (mkDoc (.slice a1 d.1.length c1) (.slice a2 d.2.length c2)) 43 (0, 0))) := by
                  refine Lib.hid fun w8 hg => ?_
                  rw [hg.block (b + 1) (block_lt hE.b6) (fun e => by have := (hx.lt _ e.symm).1; omega)]
                  exact hE.b6
                refine HK4.out _ _ ⟨fun _ => blk_cell (HD11.out.below hA).b6 0 _ rfl, ?_⟩
                clear HK4 hA hE hx hRo hap
                refine wpAnyB_one (i := 5) (by kernel_rfl) ?_
                refine wpOp_intro (by decide) (fun K5 HK5 => ?_); simp only [List.drop_succ_cons, List.drop_zero, List.take_succ_cons, List.take_zero]
                go_wp2_with (first | (at_builtin; refine wpList_append_own_at _ rfl _ _ 40 rfl (b + 1 + 1) 49 i00 _ 6 104 Tryz.underlying40 hi0 hz00 hz10 hz20 rfl (by decide) (.slice a1 d.1.length c1) d.1.length xs rfl HXX.out ⟨w11.heap.size, 0, none⟩ 1 1 [.int .i64 kd, .string nm, .slice a3 n3 c3, .slice a4 n4 c4, .slice a5 n5 c5, .int .i64 a6] rfl rfl HLIT.out HONE.out (by unfold maxLen; omega) (by omega) hbase ?_; intro v' w8 hrow8 hg8 hnil8 hloc8; clear hnil8; obtain ⟨g', c', rfl, hg1, hg2⟩ := rowForm hrow8 (by omega); have HROW := Lib.hid hrow8; have HG8 := Lib.hid hg8; have HL8 := Lib.hid hloc8; clear hrow8 hg8 hloc8) | fail)
                have hy := HYC.out _ HG8.out
                have y0 := blk_cell hy 0 (.slice a1 d.1.length c1) rfl
                have yf0 := blk_free hy 0
                clear hy
                refine HK5.out _ _ ⟨fun _ => y0, ?_⟩
                clear HK5
                refine wpAnyB_takeAny (i := 6) (v := (.pointer (some ⟨b + 1, 0, none⟩))) (by decide) rfl (by kernel_rfl) (by kernel_rfl) (by kernel_rfl) (fun _ _ _ h => h) (Or.inl ⟨by rfl, fun w _ => by go_simp⟩) ?_; simp only [Act.put, Array.getInternal_eq_getElem, List.getElem_toArray, List.getElem_cons_zero, List.getElem_cons_succ, List.setIfInBounds_toArray, List.set_cons_zero, List.set_cons_succ]
                refine wpAnyB_one (i := 7) (by kernel_rfl) ?_
                refine wpOp_intro (by decide) (fun K7 HK7 => ?_); simp only [List.drop_succ_cons, List.drop_zero, List.take_succ_cons, List.take_zero]
                go_wp2_with fail
                refine HK7.out _ _ ⟨fun h => absurd h (by decide), ?_⟩
                clear HK7 y0 yf0
                refine wpAnyB_done (by kernel_rfl) ?_ _
                obtain ⟨v', hv'⟩ : ∃ z, z = Value.slice (some ⟨g', 0, none⟩) (d.1.length + 1) c' := ⟨_, rfl⟩
                have HND : Hid (DQ w2 b g (b + 1) (Qr.op (n + 1) sr).1 v' (.slice a2 d.2.length c2) (d.1 ++ [(Qr.op (n + 1) sr).2], d.2) (w8.setCell ⟨b + 1, 0, none⟩ (.slice (some ⟨g', 0, none⟩) (d.1.length + 1) c'))) := by
                  have := (HE.out.more (j := 0) (v' := .slice (some ⟨g', 0, none⟩) (d.1.length + 1) c') (by rw [List.length_map]; exact HXX.out) HRO.out HDD.out rfl HG8.out HL8.out (by rw [List.length_map]; exact HROW.out) rfl)
                  rw [show d.1.map Qr.Op.d ++ [(Qr.op (n + 1) sr).2.d] = (d.1 ++ [(Qr.op (n + 1) sr).2], d.2).1.map Qr.Op.d by simp, ← hv'] at this
                  rw [← hv']
                  exact Lib.hid this
                clear hv' HXX HRO HDD HG8 HL8 HROW HYC HE HLIT HONE HDAT HD11 hg1 hg2 hbase
                go_wp2_with fail
                go_roundg k'
                case measure => omega
                case rel =>
                  have hsd := Qr.step_deep (n + 1) sr d
                  have hsg := Qr.step_goes (n + 1) sr d
                  have hsk := (Qr.ok_step (n + 1) sr d).len
                  have hgo2 : Qr.go (n + 1) false k' (Qr.step (n + 1) sr d).1 (Qr.step (n + 1) sr d).2 = Qr.parse s.data.toList := HGN.out
                  rw [HSTEP.out] at hsd hsg hsk hgo2
                  exact ⟨false, _, _, _, _, rfl, by rcases hsg with hx | hx; exact .inl hx; right; simp only at hx ⊢; omega, by show (d.1 ++ [_]).length + k' ≤ n + 2; rw [List.length_append, List.length_singleton]; omega, by show d.2.length + k' ≤ n + 2; omega, by rw [← HDP.out]; exact hsd, Nat.le_trans hsk hrn, HND.out, hgo2⟩
            · refine wpAnyB_take (i := 5) (v := (.bool true)) (by kernel_rfl) (by decide) rfl (by kernel_rfl) (by kernel_rfl) (by kernel_rfl) (fun _ _ _ h => h) (Or.inl ⟨by rfl, fun w hSw => by go_simp⟩) trivial ?_; simp only [Act.put, Array.getInternal_eq_getElem, List.getElem_toArray, List.getElem_cons_zero, List.getElem_cons_succ, List.setIfInBounds_toArray, List.set_cons_zero, List.set_cons_succ]
              refine wpAnyB_take (i := 6) (v := undef) (by kernel_rfl) (by decide) rfl (by kernel_rfl) (by kernel_rfl) (by kernel_rfl) (fun _ _ _ h => h) (Or.inr ⟨by rfl, rfl⟩) trivial ?_; simp only [Act.put, Array.getInternal_eq_getElem, List.getElem_toArray, List.getElem_cons_zero, List.getElem_cons_succ, List.setIfInBounds_toArray, List.set_cons_zero, List.set_cons_succ]
              refine wpAnyB_take (i := 7) (v := undef) (by kernel_rfl) (by decide) rfl (by kernel_rfl) (by kernel_rfl) (by kernel_rfl) (fun _ _ _ h => h) (Or.inr ⟨by rfl, rfl⟩) trivial ?_; simp only [Act.put, Array.getInternal_eq_getElem, List.getElem_toArray, List.getElem_cons_zero, List.getElem_cons_succ, List.setIfInBounds_toArray, List.set_cons_zero, List.set_cons_succ]
              refine wpAnyB_take (i := 8) (v := undef) (by kernel_rfl) (by decide) rfl (by kernel_rfl) (by kernel_rfl) (by kernel_rfl) (fun _ _ _ h => h) (Or.inr ⟨by rfl, rfl⟩) trivial ?_; simp only [Act.put, Array.getInternal_eq_getElem, List.getElem_toArray, List.getElem_cons_zero, List.getElem_cons_succ, List.setIfInBounds_toArray, List.set_cons_zero, List.set_cons_succ]
              refine wpAnyB_take (i := 9) (v := undef) (by kernel_rfl) (by decide) rfl (by kernel_rfl) (by kernel_rfl) (by kernel_rfl) (fun _ _ _ h => h) (Or.inr ⟨by rfl, rfl⟩) trivial ?_; simp only [Act.put, Array.getInternal_eq_getElem, List.getElem_toArray, List.getElem_cons_zero, List.getElem_cons_succ, List.setIfInBounds_toArray, List.set_cons_zero, List.set_cons_succ]
              refine wpAnyB_take (i := 10) (v := undef) (by kernel_rfl) (by decide) rfl (by kernel_rfl) (by kernel_rfl) (by kernel_rfl) (fun _ _ _ h => h) (Or.inr ⟨by rfl, rfl⟩) trivial ?_; simp only [Act.put, Array.getInternal_eq_getElem, List.getElem_toArray, List.getElem_cons_zero, List.getElem_cons_succ, List.setIfInBounds_toArray, List.set_cons_zero, List.set_cons_succ]
              refine wpAnyB_take (i := 11) (v := (.bool true)) (by kernel_rfl) (by decide) rfl (by kernel_rfl) (by kernel_rfl) (by kernel_rfl) (fun _ _ _ h => h) (Or.inl ⟨by rfl, fun w hSw => by go_simp⟩) trivial ?_; simp only [Act.put, Array.getInternal_eq_getElem, List.getElem_toArray, List.getElem_cons_zero, List.getElem_cons_succ, List.setIfInBounds_toArray, List.set_cons_zero, List.set_cons_succ]
              refine wpAnyB_take (i := 12) (v := (.bool true)) (by kernel_rfl) (by decide) rfl (by kernel_rfl) (by kernel_rfl) (by kernel_rfl) (fun _ _ _ h => h) (Or.inl ⟨by rfl, fun w hSw => by go_simp⟩) trivial ?_; simp only [Act.put, Array.getInternal_eq_getElem, List.getElem_toArray, List.getElem_cons_zero, List.getElem_cons_succ, List.setIfInBounds_toArray, List.set_cons_zero, List.set_cons_succ]
              refine wpAnyB_done (by kernel_rfl) ?_ _
              have HSTEP : Hid (Qr.step (n + 1) sr d = ((Qr.op (n + 1) sr).1, (d.1 ++ [(Qr.op (n + 1) sr).2], d.2))) := by unfold Qr.step; rw [if_neg (by rw [← HFF.out]; simp), if_pos (by rw [← HB.out]; simp [])]; exact Lib.hid rfl
              go_wp2_with fail
              have HDd := Lib.hid (HD10.out.below ((Below.refl _ _).drew))
              have hSC : w10.cell? ⟨b + 1, 0, none⟩ = some (.slice a1 d.1.length c1) := blk_cell HD10.out.b6 0 _ rfl
              refine wp_region_phase (fun w' => w'.cell? ⟨b + 1, 0, none⟩ = some (.slice a1 d.1.length c1)) 6 (by kernel_rfl) ?_
              refine wpAnyB_take (i := 0) (v := (.pointer (some ⟨b + 1, 0, none⟩))) (by kernel_rfl) (by decide) rfl (by kernel_rfl) (by kernel_rfl) (by kernel_rfl) (fun _ _ _ h => h) (Or.inl ⟨by rfl, fun w hSw => by have s0 := hSw; go_simp⟩) hSC ?_; simp only [Act.put, Array.getInternal_eq_getElem, List.getElem_toArray, List.getElem_cons_zero, List.getElem_cons_succ, List.setIfInBounds_toArray, List.set_cons_zero, List.set_cons_succ]
              refine wpAnyB_take (i := 1) (v := (.slice a1 d.1.length c1)) (by kernel_rfl) (by decide) rfl (by kernel_rfl) (by kernel_rfl) (by kernel_rfl) (fun _ _ _ h => h) (Or.inl ⟨by rfl, fun w hSw => by have s0 := hSw; go_simp⟩) hSC ?_; simp only [Act.put, Array.getInternal_eq_getElem, List.getElem_toArray, List.getElem_cons_zero, List.getElem_cons_succ, List.setIfInBounds_toArray, List.set_cons_zero, List.set_cons_succ]
              refine wpAnyB_take (i := 2) (v := (.pointer (some ⟨b, 0, none⟩))) (by kernel_rfl) (by decide) rfl (by kernel_rfl) (by kernel_rfl) (by kernel_rfl) (fun _ _ _ h => h) (Or.inl ⟨by rfl, fun w hSw => by have s0 := hSw; go_simp⟩) hSC ?_; simp only [Act.put, Array.getInternal_eq_getElem, List.getElem_toArray, List.getElem_cons_zero, List.getElem_cons_succ, List.setIfInBounds_toArray, List.set_cons_zero, List.set_cons_succ]
              clear hSC
              refine wpAnyB_one (i := 3) (by kernel_rfl) ?_
              refine wpOp_intro (by decide) (fun K3 HK3 => ?_); simp only [List.drop_succ_cons, List.drop_zero, List.take_succ_cons, List.take_zero]
              go_wp2_with fail
              refine (op_any b g n (by omega) sr _ HDd.out.rd hrn (by rw [HDP.out]; omega)).mono ?_
              rintro r w11 ⟨cs, rfl, hrd, hr3, hf3⟩
              obtain ⟨kd, nm, a3, n3, c3, a4, n4, c4, a5, n5, c5, a6, rfl⟩ := Op_cells hrd
              have HD11 := Lib.hid (HDd.out.step hr3 hf3)
              have HDAT := Lib.hid (HDd.out.data hrd)
              have HONE := Lib.hid (Reads.one hrd)
              clear hrd hr3 hf3
              go_wp2_with fail
              refine HK3.out _ _ ⟨fun _ => blk_cell HD11.out.b6 0 _ rfl, ?_⟩
              clear HK3
              refine wpAnyB_one (i := 4) (by kernel_rfl) ?_
              refine wpOp_intro (by decide) (fun K4 HK4 => ?_); simp only [List.drop_succ_cons, List.drop_zero, List.take_succ_cons, List.take_zero]
              go_wp2_with fail
              have hA : Below w11.heap.size w11 (w11.alloc (.cells #[.int .i64 kd, .string nm, .slice a3 n3 c3, .slice a4 n4 c4, .slice a5 n5 c5, .int .i64 a6] 49)) := (Below.refl _ _).alloc (Nat.le_refl _) _
              have hE := (HD11.out.below hA)
              have HE := Lib.hid hE
              obtain ⟨⟨xs, hx, hRo⟩, hap⟩ := hE.g1
              rw [List.length_map] at hx
              have HXX := Lib.hid hx
              have HRO := Lib.hid hRo
              have HDD := Lib.hid (HDAT.out.to (Stands.below hA))
              have HLIT : Hid (∀ j u, ([Value.int .i64 kd, .string nm, .slice a3 n3 c3, .slice a4 n4 c4, .slice a5 n5 c5, .int .i64 a6] : List Value)[j]? = some u → (w11.alloc (.cells #[.int .i64 kd, .string nm, .slice a3 n3 c3, .slice a4 n4 c4, .slice a5 n5 c5, .int .i64 a6] 49)).cell? ((⟨w11.heap.size, 0, none⟩ : Addr).add j) = some u) := Lib.hid (lit_cells (fz := (0, 0)) (heap_at_new _ _))
              have hbase : b + 1 + 1 ≤ (w11.alloc (.cells #[.int .i64 kd, .string nm, .slice a3 n3 c3, .slice a4 n4 c4, .slice a5 n5 c5, .int .i64 a6] 49)).heap.size := hE.hi
              have HYC : Hid (∀ w8 : World, (w11.alloc (.cells #[.int .i64 kd, .string nm, .slice a3 n3 c3, .slice a4 n4 c4, .slice a5 n5 c5, .int .i64 a6] 49)).grownBy w8 (Value.ownBlock (.slice a1 d.1.length c1)) → w8.heap[b + 1]? = some (.cells (mkDoc (.slice a1 d.1.length c1) (.slice a2 d.2.length c2)) 43 (0, 0))) := by
                refine Lib.hid fun w8 hg => ?_
                rw [hg.block (b + 1) (block_lt hE.b6) (fun e => by have := (hx.lt _ e.symm).1; omega)]
                exact hE.b6
              refine HK4.out _ _ ⟨fun _ => blk_cell (HD11.out.below hA).b6 0 _ rfl, ?_⟩
              clear HK4 hA hE hx hRo hap
              refine wpAnyB_one (i := 5) (by kernel_rfl) ?_
              refine wpOp_intro (by decide) (fun K5 HK5 => ?_); simp only [List.drop_succ_cons, List.drop_zero, List.take_succ_cons, List.take_zero]
              go_wp2_with (first | (at_builtin; refine wpList_append_own_at _ rfl _ _ 40 rfl (b + 1 + 1) 49 i00 _ 6 104 Tryz.underlying40 hi0 hz00 hz10 hz20 rfl (by decide) (.slice a1 d.1.length c1) d.1.length xs rfl HXX.out ⟨w11.heap.size, 0, none⟩ 1 1 [.int .i64 kd, .string nm, .slice a3 n3 c3, .slice a4 n4 c4, .slice a5 n5 c5, .int .i64 a6] rfl rfl HLIT.out HONE.out (by unfold maxLen; omega) (by omega) hbase ?_; intro v' w8 hrow8 hg8 hnil8 hloc8; clear hnil8; obtain ⟨g', c', rfl, hg1, hg2⟩ := rowForm hrow8 (by omega); have HROW := Lib.hid hrow8; have HG8 := Lib.hid hg8; have HL8 := Lib.hid hloc8; clear hrow8 hg8 hloc8) | fail)
              have hy := HYC.out _ HG8.out
              have y0 := blk_cell hy 0 (.slice a1 d.1.length c1) rfl
              have yf0 := blk_free hy 0
              clear hy
              refine HK5.out _ _ ⟨fun _ => y0, ?_⟩
              clear HK5
              refine wpAnyB_takeAny (i := 6) (v := (.pointer (some ⟨b + 1, 0, none⟩))) (by decide) rfl (by kernel_rfl) (by kernel_rfl) (by kernel_rfl) (fun _ _ _ h => h) (Or.inl ⟨by rfl, fun w _ => by go_simp⟩) ?_; simp only [Act.put, Array.getInternal_eq_getElem, List.getElem_toArray, List.getElem_cons_zero, List.getElem_cons_succ, List.setIfInBounds_toArray, List.set_cons_zero, List.set_cons_succ]
              refine wpAnyB_one (i := 7) (by kernel_rfl) ?_
              refine wpOp_intro (by decide) (fun K7 HK7 => ?_); simp only [List.drop_succ_cons, List.drop_zero, List.take_succ_cons, List.take_zero]
              go_wp2_with fail
              refine HK7.out _ _ ⟨fun h => absurd h (by decide), ?_⟩
              clear HK7 y0 yf0
              refine wpAnyB_done (by kernel_rfl) ?_ _
              obtain ⟨v', hv'⟩ : ∃ z, z = Value.slice (some ⟨g', 0, none⟩) (d.1.length + 1) c' := ⟨_, rfl⟩
              have HND : Hid (DQ w2 b g (b + 1) (Qr.op (n + 1) sr).1 v' (.slice a2 d.2.length c2) (d.1 ++ [(Qr.op (n + 1) sr).2], d.2) (w8.setCell ⟨b + 1, 0, none⟩ (.slice (some ⟨g', 0, none⟩) (d.1.length + 1) c'))) := by
                have := (HE.out.more (j := 0) (v' := .slice (some ⟨g', 0, none⟩) (d.1.length + 1) c') (by rw [List.length_map]; exact HXX.out) HRO.out HDD.out rfl HG8.out HL8.out (by rw [List.length_map]; exact HROW.out) rfl)
                rw [show d.1.map Qr.Op.d ++ [(Qr.op (n + 1) sr).2.d] = (d.1 ++ [(Qr.op (n + 1) sr).2], d.2).1.map Qr.Op.d by simp, ← hv'] at this
                rw [← hv']
                exact Lib.hid this
              clear hv' HXX HRO HDD HG8 HL8 HROW HYC HE HLIT HONE HDAT HD11 hg1 hg2 hbase
              go_wp2_with fail
              go_roundg k'
              case measure => omega
              case rel =>
                have hsd := Qr.step_deep (n + 1) sr d
                have hsg := Qr.step_goes (n + 1) sr d
                have hsk := (Qr.ok_step (n + 1) sr d).len
                have hgo2 : Qr.go (n + 1) false k' (Qr.step (n + 1) sr d).1 (Qr.step (n + 1) sr d).2 = Qr.parse s.data.toList := HGN.out
                rw [HSTEP.out] at hsd hsg hsk hgo2
                exact ⟨false, _, _, _, _, rfl, by rcases hsg with hx | hx; exact .inl hx; right; simp only at hx ⊢; omega, by show (d.1 ++ [_]).length + k' ≤ n + 2; rw [List.length_append, List.length_singleton]; omega, by show d.2.length + k' ≤ n + 2; omega, by rw [← HDP.out]; exact hsd, Nat.le_trans hsk hrn, HND.out, hgo2⟩
          · have HSTEP : Hid (Qr.step (n + 1) sr d = ((Qr.frag (n + 1) sr).1, (d.1, d.2 ++ [(Qr.frag (n + 1) sr).2]))) := by unfold Qr.step; rw [if_pos HFF.out.symm]; exact Lib.hid rfl
            go_wp2_with fail
            have HDd := Lib.hid (HD9.out.below ((Below.refl _ _).drew))
            have hSC : w9.cell? ⟨b + 1, 1, none⟩ = some (.slice a2 d.2.length c2) := blk_cell HD9.out.b6 1 _ rfl
            refine wp_region_phase (fun w' => w'.cell? ⟨b + 1, 1, none⟩ = some (.slice a2 d.2.length c2)) 6 (by kernel_rfl) ?_
            refine wpAnyB_take (i := 0) (v := (.pointer (some ⟨b + 1, 1, none⟩))) (by kernel_rfl) (by decide) rfl (by kernel_rfl) (by kernel_rfl) (by kernel_rfl) (fun _ _ _ h => h) (Or.inl ⟨by rfl, fun w hSw => by have s0 := hSw; go_simp⟩) hSC ?_; simp only [Act.put, Array.getInternal_eq_getElem, List.getElem_toArray, List.getElem_cons_zero, List.getElem_cons_succ, List.setIfInBounds_toArray, List.set_cons_zero, List.set_cons_succ]
            refine wpAnyB_take (i := 1) (v := (.slice a2 d.2.length c2)) (by kernel_rfl) (by decide) rfl (by kernel_rfl) (by kernel_rfl) (by kernel_rfl) (fun _ _ _ h => h) (Or.inl ⟨by rfl, fun w hSw => by have s0 := hSw; go_simp⟩) hSC ?_; simp only [Act.put, Array.getInternal_eq_getElem, List.getElem_toArray, List.getElem_cons_zero, List.getElem_cons_succ, List.setIfInBounds_toArray, List.set_cons_zero, List.set_cons_succ]
            refine wpAnyB_take (i := 2) (v := (.pointer (some ⟨b, 0, none⟩))) (by kernel_rfl) (by decide) rfl (by kernel_rfl) (by kernel_rfl) (by kernel_rfl) (fun _ _ _ h => h) (Or.inl ⟨by rfl, fun w hSw => by have s0 := hSw; go_simp⟩) hSC ?_; simp only [Act.put, Array.getInternal_eq_getElem, List.getElem_toArray, List.getElem_cons_zero, List.getElem_cons_succ, List.setIfInBounds_toArray, List.set_cons_zero, List.set_cons_succ]
            clear hSC
            refine wpAnyB_one (i := 3) (by kernel_rfl) ?_
            refine wpOp_intro (by decide) (fun K3 HK3 => ?_); simp only [List.drop_succ_cons, List.drop_zero, List.take_succ_cons, List.take_zero]
            go_wp2_with fail
            refine (frag_any b g n (by omega) sr _ HDd.out.rd hrn (by rw [HDP.out]; omega)).mono ?_
            rintro r w11 ⟨cs, rfl, hrd, hr3, hf3⟩
            obtain ⟨nm, on, a3, n3, c3, a4, n4, c4, a5, rfl⟩ := Fr_cells hrd
            have HD11 := Lib.hid (HDd.out.step hr3 hf3)
            have HDAT := Lib.hid (HDd.out.swap.data hrd)
            have HONE := Lib.hid (Reads.one hrd)
            clear hrd hr3 hf3
            go_wp2_with fail
            refine HK3.out _ _ ⟨fun _ => blk_cell HD11.out.b6 1 _ rfl, ?_⟩
            clear HK3
            refine wpAnyB_one (i := 4) (by kernel_rfl) ?_
            refine wpOp_intro (by decide) (fun K4 HK4 => ?_); simp only [List.drop_succ_cons, List.drop_zero, List.take_succ_cons, List.take_zero]
            go_wp2_with fail
            have hA : Below w11.heap.size w11 (w11.alloc (.cells #[.string nm, .string on, .slice a3 n3 c3, .slice a4 n4 c4, .int .i64 a5] 99)) := (Below.refl _ _).alloc (Nat.le_refl _) _
            have hE := (HD11.out.below hA).swap
            have HE := Lib.hid hE
            obtain ⟨⟨xs, hx, hRo⟩, hap⟩ := hE.g1
            rw [List.length_map] at hx
            have HXX := Lib.hid hx
            have HRO := Lib.hid hRo
            have HDD := Lib.hid (HDAT.out.to (Stands.below hA))
            have HLIT : Hid (∀ j u, ([Value.string nm, .string on, .slice a3 n3 c3, .slice a4 n4 c4, .int .i64 a5] : List Value)[j]? = some u → (w11.alloc (.cells #[.string nm, .string on, .slice a3 n3 c3, .slice a4 n4 c4, .int .i64 a5] 99)).cell? ((⟨w11.heap.size, 0, none⟩ : Addr).add j) = some u) := Lib.hid (lit_cells (fz := (0, 0)) (heap_at_new _ _))
            have hbase : b + 1 + 1 ≤ (w11.alloc (.cells #[.string nm, .string on, .slice a3 n3 c3, .slice a4 n4 c4, .int .i64 a5] 99)).heap.size := hE.hi
            have HYC : Hid (∀ w8 : World, (w11.alloc (.cells #[.string nm, .string on, .slice a3 n3 c3, .slice a4 n4 c4, .int .i64 a5] 99)).grownBy w8 (Value.ownBlock (.slice a2 d.2.length c2)) → w8.heap[b + 1]? = some (.cells (mkDoc (.slice a1 d.1.length c1) (.slice a2 d.2.length c2)) 43 (0, 0))) := by
              refine Lib.hid fun w8 hg => ?_
              rw [hg.block (b + 1) (block_lt hE.b6) (fun e => by have := (hx.lt _ e.symm).1; omega)]
              exact hE.b6
            refine HK4.out _ _ ⟨fun _ => blk_cell (HD11.out.below hA).b6 1 _ rfl, ?_⟩
            clear HK4 hA hE hx hRo hap
            refine wpAnyB_one (i := 5) (by kernel_rfl) ?_
            refine wpOp_intro (by decide) (fun K5 HK5 => ?_); simp only [List.drop_succ_cons, List.drop_zero, List.take_succ_cons, List.take_zero]
            go_wp2_with (first | (at_builtin; refine wpList_append_own_at _ rfl _ _ 41 rfl (b + 1 + 1) 99 i01 _ 5 88 Tryz.underlying41 hi1 hz01 hz11 hz21 rfl (by decide) (.slice a2 d.2.length c2) d.2.length xs rfl HXX.out ⟨w11.heap.size, 0, none⟩ 1 1 [.string nm, .string on, .slice a3 n3 c3, .slice a4 n4 c4, .int .i64 a5] rfl rfl HLIT.out HONE.out (by unfold maxLen; omega) (by omega) hbase ?_; intro v' w8 hrow8 hg8 hnil8 hloc8; clear hnil8; obtain ⟨g', c', rfl, hg1, hg2⟩ := rowForm hrow8 (by omega); have HROW := Lib.hid hrow8; have HG8 := Lib.hid hg8; have HL8 := Lib.hid hloc8; clear hrow8 hg8 hloc8) | fail)
            have hy := HYC.out _ HG8.out
            have y0 := blk_cell hy 1 (.slice a2 d.2.length c2) rfl
            have yf0 := blk_free hy 1
            clear hy
            refine HK5.out _ _ ⟨fun _ => y0, ?_⟩
            clear HK5
            refine wpAnyB_takeAny (i := 6) (v := (.pointer (some ⟨b + 1, 1, none⟩))) (by decide) rfl (by kernel_rfl) (by kernel_rfl) (by kernel_rfl) (fun _ _ _ h => h) (Or.inl ⟨by rfl, fun w _ => by go_simp⟩) ?_; simp only [Act.put, Array.getInternal_eq_getElem, List.getElem_toArray, List.getElem_cons_zero, List.getElem_cons_succ, List.setIfInBounds_toArray, List.set_cons_zero, List.set_cons_succ]
            refine wpAnyB_one (i := 7) (by kernel_rfl) ?_
            refine wpOp_intro (by decide) (fun K7 HK7 => ?_); simp only [List.drop_succ_cons, List.drop_zero, List.take_succ_cons, List.take_zero]
            go_wp2_with fail
            refine HK7.out _ _ ⟨fun h => absurd h (by decide), ?_⟩
            clear HK7 y0 yf0
            refine wpAnyB_done (by kernel_rfl) ?_ _
            obtain ⟨v', hv'⟩ : ∃ z, z = Value.slice (some ⟨g', 0, none⟩) (d.2.length + 1) c' := ⟨_, rfl⟩
            have HND : Hid (DQ w2 b g (b + 1) (Qr.frag (n + 1) sr).1 (.slice a1 d.1.length c1) v' (d.1, d.2 ++ [(Qr.frag (n + 1) sr).2]) (w8.setCell ⟨b + 1, 1, none⟩ (.slice (some ⟨g', 0, none⟩) (d.2.length + 1) c'))) := by
              have := (HE.out.more (j := 1) (v' := .slice (some ⟨g', 0, none⟩) (d.2.length + 1) c') (by rw [List.length_map]; exact HXX.out) HRO.out HDD.out rfl HG8.out HL8.out (by rw [List.length_map]; exact HROW.out) rfl).swap
              rw [show d.2.map Qr.Fr.d ++ [(Qr.frag (n + 1) sr).2.d] = (d.1, d.2 ++ [(Qr.frag (n + 1) sr).2]).2.map Qr.Fr.d by simp, ← hv'] at this
              rw [← hv']
              exact Lib.hid this
            clear hv' HXX HRO HDD HG8 HL8 HROW HYC HE HLIT HONE HDAT HD11 hg1 hg2 hbase
            go_wp2_with fail
            go_roundg k'
            case measure => omega
            case rel =>
              have hsd := Qr.step_deep (n + 1) sr d
              have hsg := Qr.step_goes (n + 1) sr d
              have hsk := (Qr.ok_step (n + 1) sr d).len
              have hgo2 : Qr.go (n + 1) false k' (Qr.step (n + 1) sr d).1 (Qr.step (n + 1) sr d).2 = Qr.parse s.data.toList := HGN.out
              rw [HSTEP.out] at hsd hsg hsk hgo2
              exact ⟨false, _, _, _, _, rfl, by rcases hsg with hx | hx; exact .inl hx; right; simp only at hx ⊢; omega, by show d.1.length + k' ≤ n + 2; omega, by show (d.2 ++ [_]).length + k' ≤ n + 2; rw [List.length_append, List.length_singleton]; omega, by rw [← HDP.out]; exact hsd, Nat.le_trans hsk hrn, HND.out, hgo2⟩
      · skip
        have HGOES : Hid (sr.err = 0 ∧ (true = true ∨ (Rd.peek sr).kind ≠ 0)) := Lib.hid ⟨HERR.out, .inl rfl⟩
        have HGN : Hid (Qr.go (n + 1) false k' (Qr.step (n + 1) sr d).1 (Qr.step (n + 1) sr d).2 = Qr.parse s.data.toList) := by rw [← HGO.out, Qr.go, if_pos HGOES.out]; exact Lib.hid rfl
        have HBL : Hid (Below wr.heap.size wr ((wr).alloc (.cells #[.string ⟨#[102, 114, 97, 103, 109, 101, 110, 116]⟩] 9))) := Lib.hid ((Below.refl _ _).alloc (Nat.le_refl _) _)
        go_wp2_with fail
        refine (rword_any b g sr _ [Qr.sFrag] _ ((HD.out.below HBL.out).rd) (txts_one wr Qr.sFrag _ _ rfl) (by simp)).mono ?_
        rintro r w9 ⟨rfl, hb9⟩
        have HD9 := Lib.hid ((HD.out.below HBL.out).below hb9)
        obtain ⟨F, hF⟩ : ∃ B, B = Rd.isW sr [Qr.sFrag] := ⟨_, rfl⟩
        have HFF := Lib.hid hF
        rw [← hF]
        clear hF hb9 c4'
        cases F
        · go_wp2_with fail
          refine wp_region_phase (fun _ => True) 13 (by kernel_rfl) ?_
          refine wpAnyB_take (i := 0) (v := (.pointer (some ⟨b, 0, none⟩))) (by kernel_rfl) (by decide) rfl (by kernel_rfl) (by kernel_rfl) (by kernel_rfl) (fun _ _ _ h => h) (Or.inl ⟨by rfl, fun w hSw => by go_simp⟩) trivial ?_; simp only [Act.put, Array.getInternal_eq_getElem, List.getElem_toArray, List.getElem_cons_zero, List.getElem_cons_succ, List.setIfInBounds_toArray, List.set_cons_zero, List.set_cons_succ]
          refine wpAnyB_take (i := 1) (v := (.pointer (some ⟨b, 0, none⟩))) (by kernel_rfl) (by decide) rfl (by kernel_rfl) (by kernel_rfl) (by kernel_rfl) (fun _ _ _ h => h) (Or.inl ⟨by rfl, fun w hSw => by go_simp⟩) trivial ?_; simp only [Act.put, Array.getInternal_eq_getElem, List.getElem_toArray, List.getElem_cons_zero, List.getElem_cons_succ, List.setIfInBounds_toArray, List.set_cons_zero, List.set_cons_succ]
          refine wpAnyB_take (i := 2) (v := (.pointer (some ⟨b, 0, none⟩))) (by kernel_rfl) (by decide) rfl (by kernel_rfl) (by kernel_rfl) (by kernel_rfl) (fun _ _ _ h => h) (Or.inl ⟨by rfl, fun w hSw => by go_simp⟩) trivial ?_; simp only [Act.put, Array.getInternal_eq_getElem, List.getElem_toArray, List.getElem_cons_zero, List.getElem_cons_succ, List.setIfInBounds_toArray, List.set_cons_zero, List.set_cons_succ]
          refine wpAnyB_one (i := 3) (by kernel_rfl) ?_
          refine wpOp_intro (by decide) (fun K3 HK3 => ?_); simp only [List.drop_succ_cons, List.drop_zero, List.take_succ_cons, List.take_zero]
          have HBL2 : Hid (Below w9.heap.size w9 ((w9.drew).alloc (.cells #[.string ⟨#[123]⟩] 9))) := Lib.hid (((Below.refl _ _).drew).alloc (Nat.le_refl _) _)
          have HTX : Hid (Txts ((w9.drew).alloc (.cells #[.string ⟨#[123]⟩] 9)) (.slice (some ⟨w9.heap.size, 0, none⟩) 1 1) [Rd.lbrc]) := Lib.hid (txts_one w9.drew Rd.lbrc ⟨#[123]⟩ 9 rfl)
          have HDL := Lib.hid (HD9.out.below HBL2.out)
          go_wp2_with fail
          refine HK3.out _ _ ⟨fun _ => trivial, ?_⟩
          clear HK3
          refine wpAnyB_one (i := 4) (by kernel_rfl) ?_
          refine wpOp_intro (by decide) (fun K4 HK4 => ?_); simp only [List.drop_succ_cons, List.drop_zero, List.take_succ_cons, List.take_zero]
          go_wp2_with fail
          refine (ris_any b g sr _ [Rd.lbrc] _ HDL.out.rd HTX.out (by simp)).mono ?_
          rintro r w10 ⟨rfl, hb10⟩
          rw [show ([Rd.lbrc].any (Rd.isS sr)) = Rd.isS sr Rd.lbrc by simp]
          have HD10 := Lib.hid (HDL.out.below hb10)
          obtain ⟨B, hB⟩ : ∃ B, B = Rd.isS sr Rd.lbrc := ⟨_, rfl⟩
          have HB := Lib.hid hB
          rw [← hB]
          clear hB hb10 HBL2 HTX HDL
          go_wp2_with fail
          refine HK4.out _ _ ⟨fun _ => trivial, ?_⟩
          clear HK4
          cases B
          · refine wpAnyB_take (i := 5) (v := (.bool false)) (by kernel_rfl) (by decide) rfl (by kernel_rfl) (by kernel_rfl) (by kernel_rfl) (fun _ _ _ h => h) (Or.inl ⟨by rfl, fun w hSw => by go_simp⟩) trivial ?_; simp only [Act.put, Array.getInternal_eq_getElem, List.getElem_toArray, List.getElem_cons_zero, List.getElem_cons_succ, List.setIfInBounds_toArray, List.set_cons_zero, List.set_cons_succ]
            refine wpAnyB_take (i := 6) (v := (.pointer (some ⟨b, 0, none⟩))) (by kernel_rfl) (by decide) rfl (by kernel_rfl) (by kernel_rfl) (by kernel_rfl) (fun _ _ _ h => h) (Or.inl ⟨by rfl, fun w hSw => by go_simp⟩) trivial ?_; simp only [Act.put, Array.getInternal_eq_getElem, List.getElem_toArray, List.getElem_cons_zero, List.getElem_cons_succ, List.setIfInBounds_toArray, List.set_cons_zero, List.set_cons_succ]
            refine wpAnyB_take (i := 7) (v := (.pointer (some ⟨b, 0, none⟩))) (by kernel_rfl) (by decide) rfl (by kernel_rfl) (by kernel_rfl) (by kernel_rfl) (fun _ _ _ h => h) (Or.inl ⟨by rfl, fun w hSw => by go_simp⟩) trivial ?_; simp only [Act.put, Array.getInternal_eq_getElem, List.getElem_toArray, List.getElem_cons_zero, List.getElem_cons_succ, List.setIfInBounds_toArray, List.set_cons_zero, List.set_cons_succ]
            refine wpAnyB_take (i := 8) (v := (.pointer (some ⟨b, 0, none⟩))) (by kernel_rfl) (by decide) rfl (by kernel_rfl) (by kernel_rfl) (by kernel_rfl) (fun _ _ _ h => h) (Or.inl ⟨by rfl, fun w hSw => by go_simp⟩) trivial ?_; simp only [Act.put, Array.getInternal_eq_getElem, List.getElem_toArray, List.getElem_cons_zero, List.getElem_cons_succ, List.setIfInBounds_toArray, List.set_cons_zero, List.set_cons_succ]
            refine wpAnyB_one (i := 9) (by kernel_rfl) ?_
            refine wpOp_intro (by decide) (fun K9 HK9 => ?_); simp only [List.drop_succ_cons, List.drop_zero, List.take_succ_cons, List.take_zero]
            go_wp2_with fail
            refine (kinds_any _).mono ?_
            rintro r w12 ⟨rfl, hb12, hx⟩
            have HX12 := Lib.hid hx
            have HD12 := Lib.hid (HD10.out.below hb12)
            clear hb12 hx
            go_wp2_with fail
            refine HK9.out _ _ ⟨fun _ => trivial, ?_⟩
            clear HK9
            refine wpAnyB_one (i := 10) (by kernel_rfl) ?_
            refine wpOp_intro (by decide) (fun K10 HK10 => ?_); simp only [List.drop_succ_cons, List.drop_zero, List.take_succ_cons, List.take_zero]
            go_wp2_with fail
            refine (rword_any b g sr _ Qr.kinds _ HD12.out.rd HX12.out (by decide)).mono ?_
            rintro r w13 ⟨rfl, hb13⟩
            have HD13 := Lib.hid (HD12.out.below hb13)
            obtain ⟨C, hC⟩ : ∃ B, B = Rd.isW sr Qr.kinds := ⟨_, rfl⟩
            have HC := Lib.hid hC
            rw [← hC]
            clear hC hb13 HX12 HD12
            go_wp2_with fail
            refine HK10.out _ _ ⟨fun _ => trivial, ?_⟩
            clear HK10
            refine wpAnyB_take (i := 11) (v := (.bool C)) (by kernel_rfl) (by decide) rfl (by kernel_rfl) (by kernel_rfl) (by kernel_rfl) (fun _ _ _ h => h) (Or.inl ⟨by rfl, fun w hSw => by go_simp⟩) trivial ?_; simp only [Act.put, Array.getInternal_eq_getElem, List.getElem_toArray, List.getElem_cons_zero, List.getElem_cons_succ, List.setIfInBounds_toArray, List.set_cons_zero, List.set_cons_succ]
            refine wpAnyB_take (i := 12) (v := (.bool C)) (by kernel_rfl) (by decide) rfl (by kernel_rfl) (by kernel_rfl) (by kernel_rfl) (fun _ _ _ h => h) (Or.inl ⟨by rfl, fun w hSw => by go_simp⟩) trivial ?_; simp only [Act.put, Array.getInternal_eq_getElem, List.getElem_toArray, List.getElem_cons_zero, List.getElem_cons_succ, List.setIfInBounds_toArray, List.set_cons_zero, List.set_cons_succ]
            refine wpAnyB_done (by kernel_rfl) ?_ _
            cases C
            · have HSTEP : Hid (Qr.step (n + 1) sr d = (Rd.wrong sr, d)) := by unfold Qr.step; rw [if_neg (by rw [← HFF.out]; simp), if_neg (by rw [← HB.out, ← HC.out]; simp)]; exact Lib.hid rfl
              go_wp2_with fail
              refine (rwrong_any b g sr _ HD13.out.rd).mono ?_
              rintro r w14 ⟨rfl, hr14, hf14⟩
              have HND := Lib.hid (HD13.out.step hr14 hf14)
              clear hr14 hf14
              go_wp2_with fail
              go_roundg k'
              case measure => omega
              case rel =>
                have hsd := Qr.step_deep (n + 1) sr d
                have hsg := Qr.step_goes (n + 1) sr d
                have hsk := (Qr.ok_step (n + 1) sr d).len
                have hgo2 : Qr.go (n + 1) false k' (Qr.step (n + 1) sr d).1 (Qr.step (n + 1) sr d).2 = Qr.parse s.data.toList := HGN.out
                rw [HSTEP.out] at hsd hsg hsk hgo2
                exact ⟨false, _, _, _, _, rfl, by rcases hsg with hx | hx; exact .inl hx; right; simp only at hx ⊢; omega, by omega, by omega, by rw [← HDP.out]; exact hsd, Nat.le_trans hsk hrn, HND.out, hgo2⟩
            · have HSTEP : Hid (Qr.step (n + 1) sr d = ((Qr.op (n + 1) sr).1, (d.1 ++ [(Qr.op (n + 1) sr).2], d.2))) := by unfold Qr.step; rw [if_neg (by rw [← HFF.out]; simp), if_pos (by rw [← HB.out, ← HC.out]; simp [])]; exact Lib.hid rfl
              go_wp2_with fail
              have HDd := Lib.hid (HD13.out.below ((Below.refl _ _).drew))
              have hSC : w13.cell? ⟨b + 1, 0, none⟩ = some (.slice a1 d.1.length c1) := blk_cell HD13.out.b6 0 _ rfl
              refine wp_region_phase (fun w' => w'.cell? ⟨b + 1, 0, none⟩ = some (.slice a1 d.1.length c1)) 6 (by kernel_rfl) ?_
              refine wpAnyB_take (i := 0) (v := (.pointer (some ⟨b + 1, 0, none⟩))) (by kernel_rfl) (by decide) rfl (by kernel_rfl) (by kernel_rfl) (by kernel_rfl) (fun _ _ _ h => h) (Or.inl ⟨by rfl, fun w hSw => by have s0 := hSw; go_simp⟩) hSC ?_; simp only [Act.put, Array.getInternal_eq_getElem, List.getElem_toArray, List.getElem_cons_zero, List.getElem_cons_succ, List.setIfInBounds_toArray, List.set_cons_zero, List.set_cons_succ]
              refine wpAnyB_take (i := 1) (v := (.slice a1 d.1.length c1)) (by kernel_rfl) (by decide) rfl (by kernel_rfl) (by kernel_rfl) (by kernel_rfl) (fun _ _ _ h => h) (Or.inl ⟨by rfl, fun w hSw => by have s0 := hSw; go_simp⟩) hSC ?_; simp only [Act.put, Array.getInternal_eq_getElem, List.getElem_toArray, List.getElem_cons_zero, List.getElem_cons_succ, List.setIfInBounds_toArray, List.set_cons_zero, List.set_cons_succ]
              refine wpAnyB_take (i := 2) (v := (.pointer (some ⟨b, 0, none⟩))) (by kernel_rfl) (by decide) rfl (by kernel_rfl) (by kernel_rfl) (by kernel_rfl) (fun _ _ _ h => h) (Or.inl ⟨by rfl, fun w hSw => by have s0 := hSw; go_simp⟩) hSC ?_; simp only [Act.put, Array.getInternal_eq_getElem, List.getElem_toArray, List.getElem_cons_zero, List.getElem_cons_succ, List.setIfInBounds_toArray, List.set_cons_zero, List.set_cons_succ]
              clear hSC
              refine wpAnyB_one (i := 3) (by kernel_rfl) ?_
              refine wpOp_intro (by decide) (fun K3 HK3 => ?_); simp only [List.drop_succ_cons, List.drop_zero, List.take_succ_cons, List.take_zero]
              go_wp2_with fail
              refine (op_any b g n (by omega) sr _ HDd.out.rd hrn (by rw [HDP.out]; omega)).mono ?_
              rintro r w11 ⟨cs, rfl, hrd, hr3, hf3⟩
              obtain ⟨kd, nm, a3, n3, c3, a4, n4, c4, a5, n5, c5, a6, rfl⟩ := Op_cells hrd
              have HD11 := Lib.hid (HDd.out.step hr3 hf3)
              have HDAT := Lib.hid (HDd.out.data hrd)
              have HONE := Lib.hid (Reads.one hrd)
              clear hrd hr3 hf3
              go_wp2_with fail
              refine HK3.out _ _ ⟨fun _ => blk_cell HD11.out.b6 0 _ rfl, ?_⟩
              clear HK3
              refine wpAnyB_one (i := 4) (by kernel_rfl) ?_
              refine wpOp_intro (by decide) (fun K4 HK4 => ?_); simp only [List.drop_succ_cons, List.drop_zero, List.take_succ_cons, List.take_zero]
              go_wp2_with fail
              have hA : Below w11.heap.size w11 (w11.alloc (.cells #[.int .i64 kd, .string nm, .slice a3 n3 c3, .slice a4 n4 c4, .slice a5 n5 c5, .int .i64 a6] 49)) := (Below.refl _ _).alloc (Nat.le_refl _) _
              have hE := (HD11.out.below hA)
              have HE := Lib.hid hE
              obtain ⟨⟨xs, hx, hRo⟩, hap⟩ := hE.g1
              rw [List.length_map] at hx
              have HXX := Lib.hid hx
              have HRO := Lib.hid hRo
              have HDD := Lib.hid (HDAT.out.to (Stands.below hA))
              have HLIT : Hid (∀ j u, ([Value.int .i64 kd, .string nm, .slice a3 n3 c3, .slice a4 n4 c4, .slice a5 n5 c5, .int .i64 a6] : List Value)[j]? = some u → (w11.alloc (.cells #[.int .i64 kd, .string nm, .slice a3 n3 c3, .slice a4 n4 c4, .slice a5 n5 c5, .int .i64 a6] 49)).cell? ((⟨w11.heap.size, 0, none⟩ : Addr).add j) = some u) := Lib.hid (lit_cells (fz := (0, 0)) (heap_at_new _ _))
              have hbase : b + 1 + 1 ≤ (w11.alloc (.cells #[.int .i64 kd, .string nm, .slice a3 n3 c3, .slice a4 n4 c4, .slice a5 n5 c5, .int .i64 a6] 49)).heap.size := hE.hi
              have HYC : Hid (∀ w8 : World, (w11.alloc (.cells #[.int .i64 kd, .string nm, .slice a3 n3 c3, .slice a4 n4 c4, .slice a5 n5 c5, .int .i64 a6] 49)).grownBy w8 (Value.ownBlock (.slice a1 d.1.length c1)) → w8.heap[b + 1]? = some (.cells (mkDoc (.slice a1 d.1.length c1) (.slice a2 d.2.length c2)) 43 (0, 0))) := by
                refine Lib.hid fun w8 hg => ?_
                rw [hg.block (b + 1) (block_lt hE.b6) (fun e => by have := (hx.lt _ e.symm).1; omega)]
                exact hE.b6
              refine HK4.out _ _ ⟨fun _ => blk_cell (HD11.out.below hA).b6 0 _ rfl, ?_⟩
              clear HK4 hA hE hx hRo hap
              refine wpAnyB_one (i := 5) (by kernel_rfl) ?_
              refine wpOp_intro (by decide) (fun K5 HK5 => ?_); simp only [List.drop_succ_cons, List.drop_zero, List.take_succ_cons, List.take_zero]
              go_wp2_with (first | (at_builtin; refine wpList_append_own_at _ rfl _ _ 40 rfl (b + 1 + 1) 49 i00 _ 6 104 Tryz.underlying40 hi0 hz00 hz10 hz20 rfl (by decide) (.slice a1 d.1.length c1) d.1.length xs rfl HXX.out ⟨w11.heap.size, 0, none⟩ 1 1 [.int .i64 kd, .string nm, .slice a3 n3 c3, .slice a4 n4 c4, .slice a5 n5 c5, .int .i64 a6] rfl rfl HLIT.out HONE.out (by unfold maxLen; omega) (by omega) hbase ?_; intro v' w8 hrow8 hg8 hnil8 hloc8; clear hnil8; obtain ⟨g', c', rfl, hg1, hg2⟩ := rowForm hrow8 (by omega); have HROW := Lib.hid hrow8; have HG8 := Lib.hid hg8; have HL8 := Lib.hid hloc8; clear hrow8 hg8 hloc8) | fail)
              have hy := HYC.out _ HG8.out
              have y0 := blk_cell hy 0 (.slice a1 d.1.length c1) rfl
              have yf0 := blk_free hy 0
              clear hy
              refine HK5.out _ _ ⟨fun _ => y0, ?_⟩
              clear HK5
              refine wpAnyB_takeAny (i := 6) (v := (.pointer (some ⟨b + 1, 0, none⟩))) (by decide) rfl (by kernel_rfl) (by kernel_rfl) (by kernel_rfl) (fun _ _ _ h => h) (Or.inl ⟨by rfl, fun w _ => by go_simp⟩) ?_; simp only [Act.put, Array.getInternal_eq_getElem, List.getElem_toArray, List.getElem_cons_zero, List.getElem_cons_succ, List.setIfInBounds_toArray, List.set_cons_zero, List.set_cons_succ]
              refine wpAnyB_one (i := 7) (by kernel_rfl) ?_
              refine wpOp_intro (by decide) (fun K7 HK7 => ?_); simp only [List.drop_succ_cons, List.drop_zero, List.take_succ_cons, List.take_zero]
              go_wp2_with fail
              refine HK7.out _ _ ⟨fun h => absurd h (by decide), ?_⟩
              clear HK7 y0 yf0
              refine wpAnyB_done (by kernel_rfl) ?_ _
              obtain ⟨v', hv'⟩ : ∃ z, z = Value.slice (some ⟨g', 0, none⟩) (d.1.length + 1) c' := ⟨_, rfl⟩
              have HND : Hid (DQ w2 b g (b + 1) (Qr.op (n + 1) sr).1 v' (.slice a2 d.2.length c2) (d.1 ++ [(Qr.op (n + 1) sr).2], d.2) (w8.setCell ⟨b + 1, 0, none⟩ (.slice (some ⟨g', 0, none⟩) (d.1.length + 1) c'))) := by
                have := (HE.out.more (j := 0) (v' := .slice (some ⟨g', 0, none⟩) (d.1.length + 1) c') (by rw [List.length_map]; exact HXX.out) HRO.out HDD.out rfl HG8.out HL8.out (by rw [List.length_map]; exact HROW.out) rfl)
                rw [show d.1.map Qr.Op.d ++ [(Qr.op (n + 1) sr).2.d] = (d.1 ++ [(Qr.op (n + 1) sr).2], d.2).1.map Qr.Op.d by simp, ← hv'] at this
                rw [← hv']
                exact Lib.hid this
              clear hv' HXX HRO HDD HG8 HL8 HROW HYC HE HLIT HONE HDAT HD11 hg1 hg2 hbase
              go_wp2_with fail
              go_roundg k'
              case measure => omega
              case rel =>
                have hsd := Qr.step_deep (n + 1) sr d
                have hsg := Qr.step_goes (n + 1) sr d
                have hsk := (Qr.ok_step (n + 1) sr d).len
                have hgo2 : Qr.go (n + 1) false k' (Qr.step (n + 1) sr d).1 (Qr.step (n + 1) sr d).2 = Qr.parse s.data.toList := HGN.out
                rw [HSTEP.out] at hsd hsg hsk hgo2
                exact ⟨false, _, _, _, _, rfl, by rcases hsg with hx | hx; exact .inl hx; right; simp only at hx ⊢; omega, by show (d.1 ++ [_]).length + k' ≤ n + 2; rw [List.length_append, List.length_singleton]; omega, by show d.2.length + k' ≤ n + 2; omega, by rw [← HDP.out]; exact hsd, Nat.le_trans hsk hrn, HND.out, hgo2⟩
          · refine wpAnyB_take (i := 5) (v := (.bool true)) (by kernel_rfl) (by decide) rfl (by kernel_rfl) (by kernel_rfl) (by kernel_rfl) (fun _ _ _ h => h) (Or.inl ⟨by rfl, fun w hSw => by go_simp⟩) trivial ?_; simp only [Act.put, Array.getInternal_eq_getElem, List.getElem_toArray, List.getElem_cons_zero, List.getElem_cons_succ, List.setIfInBounds_toArray, List.set_cons_zero, List.set_cons_succ]
            refine wpAnyB_take (i := 6) (v := undef) (by kernel_rfl) (by decide) rfl (by kernel_rfl) (by kernel_rfl) (by kernel_rfl) (fun _ _ _ h => h) (Or.inr ⟨by rfl, rfl⟩) trivial ?_; simp only [Act.put, Array.getInternal_eq_getElem, List.getElem_toArray, List.getElem_cons_zero, List.getElem_cons_succ, List.setIfInBounds_toArray, List.set_cons_zero, List.set_cons_succ]
            refine wpAnyB_take (i := 7) (v := undef) (by kernel_rfl) (by decide) rfl (by kernel_rfl) (by kernel_rfl) (by kernel_rfl) (fun _ _ _ h => h) (Or.inr ⟨by rfl, rfl⟩) trivial ?_; simp only [Act.put, Array.getInternal_eq_getElem, List.getElem_toArray, List.getElem_cons_zero, List.getElem_cons_succ, List.setIfInBounds_toArray, List.set_cons_zero, List.set_cons_succ]
            refine wpAnyB_take (i := 8) (v := undef) (by kernel_rfl) (by decide) rfl (by kernel_rfl) (by kernel_rfl) (by kernel_rfl) (fun _ _ _ h => h) (Or.inr ⟨by rfl, rfl⟩) trivial ?_; simp only [Act.put, Array.getInternal_eq_getElem, List.getElem_toArray, List.getElem_cons_zero, List.getElem_cons_succ, List.setIfInBounds_toArray, List.set_cons_zero, List.set_cons_succ]
            refine wpAnyB_take (i := 9) (v := undef) (by kernel_rfl) (by decide) rfl (by kernel_rfl) (by kernel_rfl) (by kernel_rfl) (fun _ _ _ h => h) (Or.inr ⟨by rfl, rfl⟩) trivial ?_; simp only [Act.put, Array.getInternal_eq_getElem, List.getElem_toArray, List.getElem_cons_zero, List.getElem_cons_succ, List.setIfInBounds_toArray, List.set_cons_zero, List.set_cons_succ]
            refine wpAnyB_take (i := 10) (v := undef) (by kernel_rfl) (by decide) rfl (by kernel_rfl) (by kernel_rfl) (by kernel_rfl) (fun _ _ _ h => h) (Or.inr ⟨by rfl, rfl⟩) trivial ?_; simp only [Act.put, Array.getInternal_eq_getElem, List.getElem_toArray, List.getElem_cons_zero, List.getElem_cons_succ, List.setIfInBounds_toArray, List.set_cons_zero, List.set_cons_succ]
            refine wpAnyB_take (i := 11) (v := (.bool true)) (by kernel_rfl) (by decide) rfl (by kernel_rfl) (by kernel_rfl) (by kernel_rfl) (fun _ _ _ h => h) (Or.inl ⟨by rfl, fun w hSw => by go_simp⟩) trivial ?_; simp only [Act.put, Array.getInternal_eq_getElem, List.getElem_toArray, List.getElem_cons_zero, List.getElem_cons_succ, List.setIfInBounds_toArray, List.set_cons_zero, List.set_cons_succ]
            refine wpAnyB_take (i := 12) (v := (.bool true)) (by kernel_rfl) (by decide) rfl (by kernel_rfl) (by kernel_rfl) (by kernel_rfl) (fun _ _ _ h => h) (Or.inl ⟨by rfl, fun w hSw => by go_simp⟩) trivial ?_; simp only [Act.put, Array.getInternal_eq_getElem, List.getElem_toArray, List.getElem_cons_zero, List.getElem_cons_succ, List.setIfInBounds_toArray, List.set_cons_zero, List.set_cons_succ]
            refine wpAnyB_done (by kernel_rfl) ?_ _
            have HSTEP : Hid (Qr.step (n + 1) sr d = ((Qr.op (n + 1) sr).1, (d.1 ++ [(Qr.op (n + 1) sr).2], d.2))) := by unfold Qr.step; rw [if_neg (by rw [← HFF.out]; simp), if_pos (by rw [← HB.out]; simp [])]; exact Lib.hid rfl
            go_wp2_with fail
            have HDd := Lib.hid (HD10.out.below ((Below.refl _ _).drew))
            have hSC : w10.cell? ⟨b + 1, 0, none⟩ = some (.slice a1 d.1.length c1) := blk_cell HD10.out.b6 0 _ rfl
            refine wp_region_phase (fun w' => w'.cell? ⟨b + 1, 0, none⟩ = some (.slice a1 d.1.length c1)) 6 (by kernel_rfl) ?_
            refine wpAnyB_take (i := 0) (v := (.pointer (some ⟨b + 1, 0, none⟩))) (by kernel_rfl) (by decide) rfl (by kernel_rfl) (by kernel_rfl) (by kernel_rfl) (fun _ _ _ h => h) (Or.inl ⟨by rfl, fun w hSw => by have s0 := hSw; go_simp⟩) hSC ?_; simp only [Act.put, Array.getInternal_eq_getElem, List.getElem_toArray, List.getElem_cons_zero, List.getElem_cons_succ, List.setIfInBounds_toArray, List.set_cons_zero, List.set_cons_succ]
            refine wpAnyB_take (i := 1) (v := (.slice a1 d.1.length c1)) (by kernel_rfl) (by decide) rfl (by kernel_rfl) (by kernel_rfl) (by kernel_rfl) (fun _ _ _ h => h) (Or.inl ⟨by rfl, fun w hSw => by have s0 := hSw; go_simp⟩) hSC ?_; simp only [Act.put, Array.getInternal_eq_getElem, List.getElem_toArray, List.getElem_cons_zero, List.getElem_cons_succ, List.setIfInBounds_toArray, List.set_cons_zero, List.set_cons_succ]
            refine wpAnyB_take (i := 2) (v := (.pointer (some ⟨b, 0, none⟩))) (by kernel_rfl) (by decide) rfl (by kernel_rfl) (by kernel_rfl) (by kernel_rfl) (fun _ _ _ h => h) (Or.inl ⟨by rfl, fun w hSw => by have s0 := hSw; go_simp⟩) hSC ?_; simp only [Act.put, Array.getInternal_eq_getElem, List.getElem_toArray, List.getElem_cons_zero, List.getElem_cons_succ, List.setIfInBounds_toArray, List.set_cons_zero, List.set_cons_succ]
            clear hSC
            refine wpAnyB_one (i := 3) (by kernel_rfl) ?_
            refine wpOp_intro (by decide) (fun K3 HK3 => ?_); simp only [List.drop_succ_cons, List.drop_zero, List.take_succ_cons, List.take_zero]
            go_wp2_with fail
            refine (op_any b g n (by omega) sr _ HDd.out.rd hrn (by rw [HDP.out]; omega)).mono ?_
            rintro r w11 ⟨cs, rfl, hrd, hr3, hf3⟩
            obtain ⟨kd, nm, a3, n3, c3, a4, n4, c4, a5, n5, c5, a6, rfl⟩ := Op_cells hrd
            have HD11 := Lib.hid (HDd.out.step hr3 hf3)
            have HDAT := Lib.hid (HDd.out.data hrd)
            have HONE := Lib.hid (Reads.one hrd)
            clear hrd hr3 hf3
            go_wp2_with fail
            refine HK3.out _ _ ⟨fun _ => blk_cell HD11.out.b6 0 _ rfl, ?_⟩
            clear HK3
            refine wpAnyB_one (i := 4) (by kernel_rfl) ?_
            refine wpOp_intro (by decide) (fun K4 HK4 => ?_); simp only [List.drop_succ_cons, List.drop_zero, List.take_succ_cons, List.take_zero]
            go_wp2_with fail
            have hA : Below w11.heap.size w11 (w11.alloc (.cells #[.int .i64 kd, .string nm, .slice a3 n3 c3, .slice a4 n4 c4, .slice a5 n5 c5, .int .i64 a6] 49)) := (Below.refl _ _).alloc (Nat.le_refl _) _
            have hE := (HD11.out.below hA)
            have HE := Lib.hid hE
            obtain ⟨⟨xs, hx, hRo⟩, hap⟩ := hE.g1
            rw [List.length_map] at hx
            have HXX := Lib.hid hx
            have HRO := Lib.hid hRo
            have HDD := Lib.hid (HDAT.out.to (Stands.below hA))
            have HLIT : Hid (∀ j u, ([Value.int .i64 kd, .string nm, .slice a3 n3 c3, .slice a4 n4 c4, .slice a5 n5 c5, .int .i64 a6] : List Value)[j]? = some u → (w11.alloc (.cells #[.int .i64 kd, .string nm, .slice a3 n3 c3, .slice a4 n4 c4, .slice a5 n5 c5, .int .i64 a6] 49)).cell? ((⟨w11.heap.size, 0, none⟩ : Addr).add j) = some u) := Lib.hid (lit_cells (fz := (0, 0)) (heap_at_new _ _))
            have hbase : b + 1 + 1 ≤ (w11.alloc (.cells #[.int .i64 kd, .string nm, .slice a3 n3 c3, .slice a4 n4 c4, .slice a5 n5 c5, .int .i64 a6] 49)).heap.size := hE.hi
            have HYC : Hid (∀ w8 : World, (w11.alloc (.cells #[.int .i64 kd, .string nm, .slice a3 n3 c3, .slice a4 n4 c4, .slice a5 n5 c5, .int .i64 a6] 49)).grownBy w8 (Value.ownBlock (.slice a1 d.1.length c1)) → w8.heap[b + 1]? = some (.cells (mkDoc (.slice a1 d.1.length c1) (.slice a2 d.2.length c2)) 43 (0, 0))) := by
              refine Lib.hid fun w8 hg => ?_
              rw [hg.block (b + 1) (block_lt hE.b6) (fun e => by have := (hx.lt _ e.symm).1; omega)]
              exact hE.b6
            refine HK4.out _ _ ⟨fun _ => blk_cell (HD11.out.below hA).b6 0 _ rfl, ?_⟩
            clear HK4 hA hE hx hRo hap
            refine wpAnyB_one (i := 5) (by kernel_rfl) ?_
            refine wpOp_intro (by decide) (fun K5 HK5 => ?_); simp only [List.drop_succ_cons, List.drop_zero, List.take_succ_cons, List.take_zero]
            go_wp2_with (first | (at_builtin; refine wpList_append_own_at _ rfl _ _ 40 rfl (b + 1 + 1) 49 i00 _ 6 104 Tryz.underlying40 hi0 hz00 hz10 hz20 rfl (by decide) (.slice a1 d.1.length c1) d.1.length xs rfl HXX.out ⟨w11.heap.size, 0, none⟩ 1 1 [.int .i64 kd, .string nm, .slice a3 n3 c3, .slice a4 n4 c4, .slice a5 n5 c5, .int .i64 a6] rfl rfl HLIT.out HONE.out (by unfold maxLen; omega) (by omega) hbase ?_; intro v' w8 hrow8 hg8 hnil8 hloc8; clear hnil8; obtain ⟨g', c', rfl, hg1, hg2⟩ := rowForm hrow8 (by omega); have HROW := Lib.hid hrow8; have HG8 := Lib.hid hg8; have HL8 := Lib.hid hloc8; clear hrow8 hg8 hloc8) | fail)
            have hy := HYC.out _ HG8.out
            have y0 := blk_cell hy 0 (.slice a1 d.1.length c1) rfl
            have yf0 := blk_free hy 0
            clear hy
            refine HK5.out _ _ ⟨fun _ => y0, ?_⟩
            clear HK5
            refine wpAnyB_takeAny (i := 6) (v := (.pointer (some ⟨b + 1, 0, none⟩))) (by decide) rfl (by kernel_rfl) (by kernel_rfl) (by kernel_rfl) (fun _ _ _ h => h) (Or.inl ⟨by rfl, fun w _ => by go_simp⟩) ?_; simp only [Act.put, Array.getInternal_eq_getElem, List.getElem_toArray, List.getElem_cons_zero, List.getElem_cons_succ, List.setIfInBounds_toArray, List.set_cons_zero, List.set_cons_succ]
            refine wpAnyB_one (i := 7) (by kernel_rfl) ?_
            refine wpOp_intro (by decide) (fun K7 HK7 => ?_); simp only [List.drop_succ_cons, List.drop_zero, List.take_succ_cons, List.take_zero]
            go_wp2_with fail
            refine HK7.out _ _ ⟨fun h => absurd h (by decide), ?_⟩
            clear HK7 y0 yf0
            refine wpAnyB_done (by kernel_rfl) ?_ _
            obtain ⟨v', hv'⟩ : ∃ z, z = Value.slice (some ⟨g', 0, none⟩) (d.1.length + 1) c' := ⟨_, rfl⟩
            have HND : Hid (DQ w2 b g (b + 1) (Qr.op (n + 1) sr).1 v' (.slice a2 d.2.length c2) (d.1 ++ [(Qr.op (n + 1) sr).2], d.2) (w8.setCell ⟨b + 1, 0, none⟩ (.slice (some ⟨g', 0, none⟩) (d.1.length + 1) c'))) := by
              have := (HE.out.more (j := 0) (v' := .slice (some ⟨g', 0, none⟩) (d.1.length + 1) c') (by rw [List.length_map]; exact HXX.out) HRO.out HDD.out rfl HG8.out HL8.out (by rw [List.length_map]; exact HROW.out) rfl)
              rw [show d.1.map Qr.Op.d ++ [(Qr.op (n + 1) sr).2.d] = (d.1 ++ [(Qr.op (n + 1) sr).2], d.2).1.map Qr.Op.d by simp, ← hv'] at this
              rw [← hv']
              exact Lib.hid this
            clear hv' HXX HRO HDD HG8 HL8 HROW HYC HE HLIT HONE HDAT HD11 hg1 hg2 hbase
            go_wp2_with fail
            go_roundg k'
            case measure => omega
            case rel =>
              have hsd := Qr.step_deep (n + 1) sr d
              have hsg := Qr.step_goes (n + 1) sr d
              have hsk := (Qr.ok_step (n + 1) sr d).len
              have hgo2 : Qr.go (n + 1) false k' (Qr.step (n + 1) sr d).1 (Qr.step (n + 1) sr d).2 = Qr.parse s.data.toList := HGN.out
              rw [HSTEP.out] at hsd hsg hsk hgo2
              exact ⟨false, _, _, _, _, rfl, by rcases hsg with hx | hx; exact .inl hx; right; simp only at hx ⊢; omega, by show (d.1 ++ [_]).length + k' ≤ n + 2; rw [List.length_append, List.length_singleton]; omega, by show d.2.length + k' ≤ n + 2; omega, by rw [← HDP.out]; exact hsd, Nat.le_trans hsk hrn, HND.out, hgo2⟩
        · have HSTEP : Hid (Qr.step (n + 1) sr d = ((Qr.frag (n + 1) sr).1, (d.1, d.2 ++ [(Qr.frag (n + 1) sr).2]))) := by unfold Qr.step; rw [if_pos HFF.out.symm]; exact Lib.hid rfl
          go_wp2_with fail
          have HDd := Lib.hid (HD9.out.below ((Below.refl _ _).drew))
          have hSC : w9.cell? ⟨b + 1, 1, none⟩ = some (.slice a2 d.2.length c2) := blk_cell HD9.out.b6 1 _ rfl
          refine wp_region_phase (fun w' => w'.cell? ⟨b + 1, 1, none⟩ = some (.slice a2 d.2.length c2)) 6 (by kernel_rfl) ?_
          refine wpAnyB_take (i := 0) (v := (.pointer (some ⟨b + 1, 1, none⟩))) (by kernel_rfl) (by decide) rfl (by kernel_rfl) (by kernel_rfl) (by kernel_rfl) (fun _ _ _ h => h) (Or.inl ⟨by rfl, fun w hSw => by have s0 := hSw; go_simp⟩) hSC ?_; simp only [Act.put, Array.getInternal_eq_getElem, List.getElem_toArray, List.getElem_cons_zero, List.getElem_cons_succ, List.setIfInBounds_toArray, List.set_cons_zero, List.set_cons_succ]
          refine wpAnyB_take (i := 1) (v := (.slice a2 d.2.length c2)) (by kernel_rfl) (by decide) rfl (by kernel_rfl) (by kernel_rfl) (by kernel_rfl) (fun _ _ _ h => h) (Or.inl ⟨by rfl, fun w hSw => by have s0 := hSw; go_simp⟩) hSC ?_; simp only [Act.put, Array.getInternal_eq_getElem, List.getElem_toArray, List.getElem_cons_zero, List.getElem_cons_succ, List.setIfInBounds_toArray, List.set_cons_zero, List.set_cons_succ]
          refine wpAnyB_take (i := 2) (v := (.pointer (some ⟨b, 0, none⟩))) (by kernel_rfl) (by decide) rfl (by kernel_rfl) (by kernel_rfl) (by kernel_rfl) (fun _ _ _ h => h) (Or.inl ⟨by rfl, fun w hSw => by have s0 := hSw; go_simp⟩) hSC ?_; simp only [Act.put, Array.getInternal_eq_getElem, List.getElem_toArray, List.getElem_cons_zero, List.getElem_cons_succ, List.setIfInBounds_toArray, List.set_cons_zero, List.set_cons_succ]
          clear hSC
          refine wpAnyB_one (i := 3) (by kernel_rfl) ?_
          refine wpOp_intro (by decide) (fun K3 HK3 => ?_); simp only [List.drop_succ_cons, List.drop_zero, List.take_succ_cons, List.take_zero]
          go_wp2_with fail
          refine (frag_any b g n (by omega) sr _ HDd.out.rd hrn (by rw [HDP.out]; omega)).mono ?_
          rintro r w11 ⟨cs, rfl, hrd, hr3, hf3⟩
          obtain ⟨nm, on, a3, n3, c3, a4, n4, c4, a5, rfl⟩ := Fr_cells hrd
          have HD11 := Lib.hid (HDd.out.step hr3 hf3)
          have HDAT := Lib.hid (HDd.out.swap.data hrd)
          have HONE := Lib.hid (Reads.one hrd)
          clear hrd hr3 hf3
          go_wp2_with fail
          refine HK3.out _ _ ⟨fun _ => blk_cell HD11.out.b6 1 _ rfl, ?_⟩
          clear HK3
          refine wpAnyB_one (i := 4) (by kernel_rfl) ?_
          refine wpOp_intro (by decide) (fun K4 HK4 => ?_); simp only [List.drop_succ_cons, List.drop_zero, List.take_succ_cons, List.take_zero]
          go_wp2_with fail
          have hA : Below w11.heap.size w11 (w11.alloc (.cells #[.string nm, .string on, .slice a3 n3 c3, .slice a4 n4 c4, .int .i64 a5] 99)) := (Below.refl _ _).alloc (Nat.le_refl _) _
          have hE := (HD11.out.below hA).swap
          have HE := Lib.hid hE
          obtain ⟨⟨xs, hx, hRo⟩, hap⟩ := hE.g1
          rw [List.length_map] at hx
          have HXX := Lib.hid hx
          have HRO := Lib.hid hRo
          have HDD := Lib.hid (HDAT.out.to (Stands.below hA))
          have HLIT : Hid (∀ j u, ([Value.string nm, .string on, .slice a3 n3 c3, .slice a4 n4 c4, .int .i64 a5] : List Value)[j]? = some u → (w11.alloc (.cells #[.string nm, .string on, .slice a3 n3 c3, .slice a4 n4 c4, .int .i64 a5] 99)).cell? ((⟨w11.heap.size, 0, none⟩ : Addr).add j) = some u) := Lib.hid (lit_cells (fz := (0, 0)) (heap_at_new _ _))
          have hbase : b + 1 + 1 ≤ (w11.alloc (.cells #[.string nm, .string on, .slice a3 n3 c3, .slice a4 n4 c4, .int .i64 a5] 99)).heap.size := hE.hi
          have HYC : Hid (∀ w8 : World, (w11.alloc (.cells #[.string nm, .string on, .slice a3 n3 c3, .slice a4 n4 c4, .int .i64 a5] 99)).grownBy w8 (Value.ownBlock (.slice a2 d.2.length c2)) → w8.heap[b + 1]? = some (.cells (mkDoc (.slice a1 d.1.length c1) (.slice a2 d.2.length c2)) 43 (0, 0))) := by
            refine Lib.hid fun w8 hg => ?_
            rw [hg.block (b + 1) (block_lt hE.b6) (fun e => by have := (hx.lt _ e.symm).1; omega)]
            exact hE.b6
          refine HK4.out _ _ ⟨fun _ => blk_cell (HD11.out.below hA).b6 1 _ rfl, ?_⟩
          clear HK4 hA hE hx hRo hap
          refine wpAnyB_one (i := 5) (by kernel_rfl) ?_
          refine wpOp_intro (by decide) (fun K5 HK5 => ?_); simp only [List.drop_succ_cons, List.drop_zero, List.take_succ_cons, List.take_zero]
          go_wp2_with (first | (at_builtin; refine wpList_append_own_at _ rfl _ _ 41 rfl (b + 1 + 1) 99 i01 _ 5 88 Tryz.underlying41 hi1 hz01 hz11 hz21 rfl (by decide) (.slice a2 d.2.length c2) d.2.length xs rfl HXX.out ⟨w11.heap.size, 0, none⟩ 1 1 [.string nm, .string on, .slice a3 n3 c3, .slice a4 n4 c4, .int .i64 a5] rfl rfl HLIT.out HONE.out (by unfold maxLen; omega) (by omega) hbase ?_; intro v' w8 hrow8 hg8 hnil8 hloc8; clear hnil8; obtain ⟨g', c', rfl, hg1, hg2⟩ := rowForm hrow8 (by omega); have HROW := Lib.hid hrow8; have HG8 := Lib.hid hg8; have HL8 := Lib.hid hloc8; clear hrow8 hg8 hloc8) | fail)
          have hy := HYC.out _ HG8.out
          have y0 := blk_cell hy 1 (.slice a2 d.2.length c2) rfl
          have yf0 := blk_free hy 1
          clear hy
          refine HK5.out _ _ ⟨fun _ => y0, ?_⟩
          clear HK5
          refine wpAnyB_takeAny (i := 6) (v := (.pointer (some ⟨b + 1, 1, none⟩))) (by decide) rfl (by kernel_rfl) (by kernel_rfl) (by kernel_rfl) (fun _ _ _ h => h) (Or.inl ⟨by rfl, fun w _ => by go_simp⟩) ?_; simp only [Act.put, Array.getInternal_eq_getElem, List.getElem_toArray, List.getElem_cons_zero, List.getElem_cons_succ, List.setIfInBounds_toArray, List.set_cons_zero, List.set_cons_succ]
          refine wpAnyB_one (i := 7) (by kernel_rfl) ?_
          refine wpOp_intro (by decide) (fun K7 HK7 => ?_); simp only [List.drop_succ_cons, List.drop_zero, List.take_succ_cons, List.take_zero]
          go_wp2_with fail
          refine HK7.out _ _ ⟨fun h => absurd h (by decide), ?_⟩
          clear HK7 y0 yf0
          refine wpAnyB_done (by kernel_rfl) ?_ _
          obtain ⟨v', hv'⟩ : ∃ z, z = Value.slice (some ⟨g', 0, none⟩) (d.2.length + 1) c' := ⟨_, rfl⟩
          have HND : Hid (DQ w2 b g (b + 1) (Qr.frag (n + 1) sr).1 (.slice a1 d.1.length c1) v' (d.1, d.2 ++ [(Qr.frag (n + 1) sr).2]) (w8.setCell ⟨b + 1, 1, none⟩ (.slice (some ⟨g', 0, none⟩) (d.2.length + 1) c'))) := by
            have := (HE.out.more (j := 1) (v' := .slice (some ⟨g', 0, none⟩) (d.2.length + 1) c') (by rw [List.length_map]; exact HXX.out) HRO.out HDD.out rfl HG8.out HL8.out (by rw [List.length_map]; exact HROW.out) rfl).swap
            rw [show d.2.map Qr.Fr.d ++ [(Qr.frag (n + 1) sr).2.d] = (d.1, d.2 ++ [(Qr.frag (n + 1) sr).2]).2.map Qr.Fr.d by simp, ← hv'] at this
            rw [← hv']
            exact Lib.hid this
          clear hv' HXX HRO HDD HG8 HL8 HROW HYC HE HLIT HONE HDAT HD11 hg1 hg2 hbase
          go_wp2_with fail
          go_roundg k'
          case measure => omega
          case rel =>
            have hsd := Qr.step_deep (n + 1) sr d
            have hsg := Qr.step_goes (n + 1) sr d
            have hsk := (Qr.ok_step (n + 1) sr d).len
            have hgo2 : Qr.go (n + 1) false k' (Qr.step (n + 1) sr d).1 (Qr.step (n + 1) sr d).2 = Qr.parse s.data.toList := HGN.out
            rw [HSTEP.out] at hsd hsg hsk hgo2
            exact ⟨false, _, _, _, _, rfl, by rcases hsg with hx | hx; exact .inl hx; right; simp only at hx ⊢; omega, by show d.1.length + k' ≤ n + 2; omega, by show (d.2 ++ [_]).length + k' ≤ n + 2; rw [List.length_append, List.length_singleton]; omega, by rw [← HDP.out]; exact hsd, Nat.le_trans hsk hrn, HND.out, hgo2⟩
    · have e4 := eqF (n := sr.err) (k := 0) (by omega)
      have e5 := neT (n := sr.err) (k := 0) (by omega)
      have HERR := Lib.hid he
      clear he
      have HE2 : Hid (Qr.parse s.data.toList = (sr, d)) := by rw [← HGO.out]; exact Lib.hid (Qr.go_err _ _ _ _ _ HERR.out)
      have c3' := HD.out.rd.c3
      have HZR : Hid (wr.heap[w.heap.size]? = some (.cells #[.slice none 0 0, .slice none 0 0] 43 (0, 0))) := Lib.hid (by rw [HD.out.fr.block w.heap.size (block_lt HZ2.out) (by omega)]; exact HZ2.out)
      have z0 := blk_cell HZR.out 0 (.slice none 0 0) rfl
      have zf0 := blk_free HZR.out 0
      have z1 := blk_cell HZR.out 1 (.slice none 0 0) rfl
      have zf1 := blk_free HZR.out 1
      have n1 : ¬ w.heap.size = b := by omega
      have n2 : ¬ b = w.heap.size := by omega
      go_wp2_with fail
      have hSE : wr.cell? ⟨b, 3, none⟩ = some (.int .i64 sr.at_) ∧ wr.cell? ⟨b, 4, none⟩ = some (.int .i64 sr.err) := ⟨c3', c4'⟩
      refine wp_region_phase (fun w' => w'.cell? ⟨b, 3, none⟩ = some (.int .i64 sr.at_) ∧ w'.cell? ⟨b, 4, none⟩ = some (.int .i64 sr.err)) 14 (by kernel_rfl) ?_
      refine wpAnyB_take (i := 0) (v := (.agg #[.slice none 0 0, .slice none 0 0])) (by kernel_rfl) (by decide) rfl (by kernel_rfl) (by kernel_rfl) (by kernel_rfl) (fun _ _ _ h => h) (Or.inl ⟨by rfl, fun w hSw => by obtain ⟨s0, s1⟩ := hSw; go_simp⟩) hSE ?_; simp only [Act.put, Array.getInternal_eq_getElem, List.getElem_toArray, List.getElem_cons_zero, List.getElem_cons_succ, List.setIfInBounds_toArray, List.set_cons_zero, List.set_cons_succ]
      refine wpAnyB_take (i := 1) (v := (.pointer (some ⟨b, 0, none⟩))) (by kernel_rfl) (by decide) rfl (by kernel_rfl) (by kernel_rfl) (by kernel_rfl) (fun _ _ _ h => h) (Or.inl ⟨by rfl, fun w hSw => by obtain ⟨s0, s1⟩ := hSw; go_simp⟩) hSE ?_; simp only [Act.put, Array.getInternal_eq_getElem, List.getElem_toArray, List.getElem_cons_zero, List.getElem_cons_succ, List.setIfInBounds_toArray, List.set_cons_zero, List.set_cons_succ]
      refine wpAnyB_take (i := 2) (v := (.pointer (some ⟨b, 0, none⟩))) (by kernel_rfl) (by decide) rfl (by kernel_rfl) (by kernel_rfl) (by kernel_rfl) (fun _ _ _ h => h) (Or.inl ⟨by rfl, fun w hSw => by obtain ⟨s0, s1⟩ := hSw; go_simp⟩) hSE ?_; simp only [Act.put, Array.getInternal_eq_getElem, List.getElem_toArray, List.getElem_cons_zero, List.getElem_cons_succ, List.setIfInBounds_toArray, List.set_cons_zero, List.set_cons_succ]
      refine wpAnyB_take (i := 3) (v := (.pointer (some ⟨b, 0, none⟩))) (by kernel_rfl) (by decide) rfl (by kernel_rfl) (by kernel_rfl) (by kernel_rfl) (fun _ _ _ h => h) (Or.inl ⟨by rfl, fun w hSw => by obtain ⟨s0, s1⟩ := hSw; go_simp⟩) hSE ?_; simp only [Act.put, Array.getInternal_eq_getElem, List.getElem_toArray, List.getElem_cons_zero, List.getElem_cons_succ, List.setIfInBounds_toArray, List.set_cons_zero, List.set_cons_succ]
      refine wpAnyB_take (i := 4) (v := (.pointer (some ⟨b, 3, none⟩))) (by kernel_rfl) (by decide) rfl (by kernel_rfl) (by kernel_rfl) (by kernel_rfl) (fun _ _ _ h => h) (Or.inl ⟨by rfl, fun w hSw => by obtain ⟨s0, s1⟩ := hSw; go_simp⟩) hSE ?_; simp only [Act.put, Array.getInternal_eq_getElem, List.getElem_toArray, List.getElem_cons_zero, List.getElem_cons_succ, List.setIfInBounds_toArray, List.set_cons_zero, List.set_cons_succ]
      refine wpAnyB_take (i := 5) (v := (.int .i64 sr.at_)) (by kernel_rfl) (by decide) rfl (by kernel_rfl) (by kernel_rfl) (by kernel_rfl) (fun _ _ _ h => h) (Or.inl ⟨by rfl, fun w hSw => by obtain ⟨s0, s1⟩ := hSw; go_simp⟩) hSE ?_; simp only [Act.put, Array.getInternal_eq_getElem, List.getElem_toArray, List.getElem_cons_zero, List.getElem_cons_succ, List.setIfInBounds_toArray, List.set_cons_zero, List.set_cons_succ]
      refine wpAnyB_take (i := 6) (v := (.pointer (some ⟨b, 0, none⟩))) (by kernel_rfl) (by decide) rfl (by kernel_rfl) (by kernel_rfl) (by kernel_rfl) (fun _ _ _ h => h) (Or.inl ⟨by rfl, fun w hSw => by obtain ⟨s0, s1⟩ := hSw; go_simp⟩) hSE ?_; simp only [Act.put, Array.getInternal_eq_getElem, List.getElem_toArray, List.getElem_cons_zero, List.getElem_cons_succ, List.setIfInBounds_toArray, List.set_cons_zero, List.set_cons_succ]
      refine wpAnyB_take (i := 7) (v := (.pointer (some ⟨b, 0, none⟩))) (by kernel_rfl) (by decide) rfl (by kernel_rfl) (by kernel_rfl) (by kernel_rfl) (fun _ _ _ h => h) (Or.inl ⟨by rfl, fun w hSw => by obtain ⟨s0, s1⟩ := hSw; go_simp⟩) hSE ?_; simp only [Act.put, Array.getInternal_eq_getElem, List.getElem_toArray, List.getElem_cons_zero, List.getElem_cons_succ, List.setIfInBounds_toArray, List.set_cons_zero, List.set_cons_succ]
      refine wpAnyB_take (i := 8) (v := (.pointer (some ⟨b, 0, none⟩))) (by kernel_rfl) (by decide) rfl (by kernel_rfl) (by kernel_rfl) (by kernel_rfl) (fun _ _ _ h => h) (Or.inl ⟨by rfl, fun w hSw => by obtain ⟨s0, s1⟩ := hSw; go_simp⟩) hSE ?_; simp only [Act.put, Array.getInternal_eq_getElem, List.getElem_toArray, List.getElem_cons_zero, List.getElem_cons_succ, List.setIfInBounds_toArray, List.set_cons_zero, List.set_cons_succ]
      refine wpAnyB_take (i := 9) (v := (.pointer (some ⟨b, 4, none⟩))) (by kernel_rfl) (by decide) rfl (by kernel_rfl) (by kernel_rfl) (by kernel_rfl) (fun _ _ _ h => h) (Or.inl ⟨by rfl, fun w hSw => by obtain ⟨s0, s1⟩ := hSw; go_simp⟩) hSE ?_; simp only [Act.put, Array.getInternal_eq_getElem, List.getElem_toArray, List.getElem_cons_zero, List.getElem_cons_succ, List.setIfInBounds_toArray, List.set_cons_zero, List.set_cons_succ]
      refine wpAnyB_take (i := 10) (v := (.int .i64 sr.err)) (by kernel_rfl) (by decide) rfl (by kernel_rfl) (by kernel_rfl) (by kernel_rfl) (fun _ _ _ h => h) (Or.inl ⟨by rfl, fun w hSw => by obtain ⟨s0, s1⟩ := hSw; go_simp⟩) hSE ?_; simp only [Act.put, Array.getInternal_eq_getElem, List.getElem_toArray, List.getElem_cons_zero, List.getElem_cons_succ, List.setIfInBounds_toArray, List.set_cons_zero, List.set_cons_succ]
      refine wpAnyB_one (i := 11) (by kernel_rfl) ?_
      refine wpOp_intro (by decide) (fun K1 HK1 => ?_); simp only [List.drop_succ_cons, List.drop_zero, List.take_succ_cons, List.take_zero]
      go_wp2_with fail
      have hSF : ((wr.drew.setCell ⟨w.heap.size, 0, none⟩ (.slice none 0 0)).setCell ⟨w.heap.size, 1, none⟩ (.slice none 0 0)).cell? ⟨b, 3, none⟩ = some (.int .i64 sr.at_) ∧ ((wr.drew.setCell ⟨w.heap.size, 0, none⟩ (.slice none 0 0)).setCell ⟨w.heap.size, 1, none⟩ (.slice none 0 0)).cell? ⟨b, 4, none⟩ = some (.int .i64 sr.err) := by
        have hh : ∀ k, ((wr.drew.setCell ⟨w.heap.size, 0, none⟩ (.slice none 0 0)).setCell ⟨w.heap.size, 1, none⟩ (.slice none 0 0)).cell? ⟨b, k, none⟩ = wr.cell? ⟨b, k, none⟩ := fun k => World.cell?_of_block (by rw [heap_set_ne n2, heap_set_ne n2]; rfl)
        exact ⟨(hh 3).trans c3', (hh 4).trans c4'⟩
      refine HK1.out _ _ ⟨fun _ => hSF, ?_⟩
      clear HK1 hSE
      have hSE := hSF
      refine wpAnyB_take (i := 12) (v := (.int .i64 sr.at_)) (by kernel_rfl) (by decide) rfl (by kernel_rfl) (by kernel_rfl) (by kernel_rfl) (fun _ _ _ h => h) (Or.inl ⟨by rfl, fun w hSw => by obtain ⟨s0, s1⟩ := hSw; go_simp⟩) hSE ?_; simp only [Act.put, Array.getInternal_eq_getElem, List.getElem_toArray, List.getElem_cons_zero, List.getElem_cons_succ, List.setIfInBounds_toArray, List.set_cons_zero, List.set_cons_succ]
      refine wpAnyB_take (i := 13) (v := (.int .i64 sr.err)) (by kernel_rfl) (by decide) rfl (by kernel_rfl) (by kernel_rfl) (by kernel_rfl) (fun _ _ _ h => h) (Or.inl ⟨by rfl, fun w hSw => by obtain ⟨s0, s1⟩ := hSw; go_simp⟩) hSE ?_; simp only [Act.put, Array.getInternal_eq_getElem, List.getElem_toArray, List.getElem_cons_zero, List.getElem_cons_succ, List.setIfInBounds_toArray, List.set_cons_zero, List.set_cons_succ]
      clear hSE hSF
      refine wpAnyB_done (by kernel_rfl) ?_ _
      go_wp2_with fail
      refine bodyPost_ret (v := .tuple #[.agg #[.slice none 0 0, .slice none 0 0], .int .i64 sr.at_, .int .i64 sr.err]) (by simp [results, Tryz.results42, go_sem, z0, z1]) rfl ?_
      refine ⟨Below.drew (((below_fr HBW.out (Nat.le_refl _) HD.out.fr (Nat.le_of_lt hwb)).setCell (Nat.le_refl _) _).setCell (Nat.le_refl _) _), HSTD.out, .inr ?_⟩
      rw [HE2.out]
      exact ⟨HERR.out, rfl⟩
end Go.Proofs.YtabcaljnpahgpaaGreatDoor
namespace Go.Proofs.YtabcaljnpahgpaaGreatDoor
set_option linter.unusedSimpArgs false
set_option linter.unusedVariables false
open Go Go.RowKit

theorem infoStr : (Tryz.prog.info? 9).map (fun i => (i.zero, i.size, i.bytes)) = some (some (.string ⟨#[]⟩), 1, 16) := by kernel_rfl
def strCells (l : List (List UInt8)) : List Value := l.map fun s => .string ⟨s.toArray⟩
theorem txts_row {w : World} {base n : Nat} {v : Value} {ls : List (List UInt8)} (h : w.ownsRow base 9 1 v n (strCells ls)) (hn : ls.length = n) : Txts w v ls := by
  subst hn
  rcases Nat.eq_zero_or_pos ls.length with h0 | h0
  · rcases h.2 with ⟨h4, h5⟩ | ⟨g, cap, cur, hv, hg, hc, h6⟩
    · have : ls = [] := List.eq_nil_of_length_eq_zero h0
      subst this
      exact ⟨none, 0, h4, fun i s hi => by simp at hi⟩
    · refine ⟨_, _, hv, fun i s hi => ?_⟩
      have : ls = [] := List.eq_nil_of_length_eq_zero h0
      subst this
      simp at hi
  · obtain ⟨g, c, rfl, -, h2⟩ := rowForm h h0
    refine ⟨_, _, rfl, fun i s hi => ⟨g, 0, rfl, h2, ?_⟩⟩
    have := row_cell h i (.string ⟨s.toArray⟩) (by unfold strCells; rw [List.getElem?_map, hi]; rfl)
    rw [Nat.zero_add]
    exact this
theorem below_grown {lo n k : Nat} {E : TypeId} {v : Value} {cs : List Value} {w1 wr w8 : World} (h : Below lo w1 wr) (hx : wr.ownsRow lo E k v n cs) (hs : lo ≤ wr.heap.size) (hg : wr.grownBy w8 v.ownBlock) : Below lo w1 w8 :=
  ⟨hg.os.trans h.os, hg.tape.trans h.tape, hg.output.trans h.output, Nat.le_trans h.size hg.size, fun k hk => by rw [hg.block k (by omega) (fun e => by have := (hx.lt k e.symm).1; omega)]; exact h.block k hk⟩
namespace Qr
def names (l : List Op) : List (List UInt8) := (l.map Op.name).filter fun s => !s.isEmpty
theorem names_snoc (l : List Op) (o : Op) : names (l ++ [o]) = if o.name.isEmpty then names l else names l ++ [o.name] := by
  unfold names
  rw [List.map_append, List.filter_append]
  cases h : o.name.isEmpty
  · simp [h]
  · simp [h]
theorem names_len (l : List Op) : (names l).length ≤ l.length := by
  unfold names
  have := List.length_filter_le (fun s => !s.isEmpty) (l.map Op.name)
  rwa [List.length_map] at this
end Qr
set_option maxHeartbeats 1000000 in
set_option maxRecDepth 100000 in
theorem names_any (xs : List Qr.Op) (a : Option Addr) (c : Nat) (v2 : Value) (hv2 : ∃ p n k, v2 = .slice p n k) (w : World) (P : Nat → Prop) (hr : Reads w P (.seq 6 (xs.map Qr.Op.d)) [.slice a xs.length c]) (hl : xs.length ≤ 1000000) :
    Calls Tryz.prog 20 #[.agg #[.slice a xs.length c, v2]] w fun r w' => ∃ v, r = .returned v ∧ Below w.heap.size w w' ∧ Txts w' v (Qr.names xs) := by
  obtain ⟨i0, hi, hz0, hz1, hz2⟩ := info_parts infoStr
  obtain ⟨p2, n2, k2, rfl⟩ := hv2
  obtain ⟨w1, hw1⟩ : ∃ z, z = w.alloc (.cells #[.slice a xs.length c, .slice p2 n2 k2] 43) := ⟨_, rfl⟩
  have hb1 : Below w.heap.size w w1 := by rw [hw1]; exact (Below.refl _ _).alloc (Nat.le_refl _) _
  have hs1 : w1.heap.size = w.heap.size + 1 := by rw [hw1]; simp
  have HR1 := Lib.hid (hr.to (Stands.below hb1))
  have HB1 := Lib.hid hb1
  have HW1 := Lib.hid hw1
  clear hr hb1 hw1
  go_enter Tryz.func20, Tryz.ntmps20
  go_wp2_with fail
  rw [← HW1.out]
  clear HW1
  go_loopg [3, 9] (xs.length + 1) (fun k s i wr => ∃ (j m : Nat) (va : Option Addr) (vc : Nat), k = xs.length + 1 - j ∧ j ≤ xs.length ∧ i = .int .i64 j ∧ s = .slice va m vc ∧ m = (Qr.names (xs.take j)).length ∧ wr.ownsRow w1.heap.size 9 1 (.slice va m vc) m (strCells (Qr.names (xs.take j))) ∧ Below w1.heap.size w1 wr)
  case atStart => exact ⟨0, 0, none, 0, rfl, Nat.zero_le _, rfl, rfl, rfl, World.ownsRow_nil _ _ _ _, Below.refl _ _⟩
  case round =>
    obtain ⟨j, m, va, vc, hk, hj, rfl, rfl, hm, hrow, hbel⟩ := hrel
    have HK := Lib.hid hk
    have HM := Lib.hid hm
    have HBE := Lib.hid hbel
    have hml : m ≤ j := by rw [hm]; exact Nat.le_trans (Qr.names_len _) (by simp; omega)
    have HROW0 := Lib.hid hrow
    clear hk hm hrow hbel
    by_cases hjl : j < xs.length
    · have e4 : decide (j < xs.length) = true := decide_eq_true hjl
      obtain ⟨x, hx⟩ : ∃ z, xs[j]? = some z := ⟨xs[j], List.getElem?_eq_getElem hjl⟩
      have HTK : Hid (xs.take (j + 1) = xs.take j ++ [x]) := by
        rw [List.take_add_one, hx]; exact Lib.hid rfl
      obtain ⟨g, o, cs, ha, -, hgl, hlen, hcell, hd⟩ := HR1.out.elem.2 j x.d (by rw [List.getElem?_map, hx]; rfl)
      obtain ⟨a1, a2, a3, c1, c2, c3, rfl, -⟩ := Op_open hd
      subst ha
      have k0 : wr.cell? ⟨g, o + j * 6, none⟩ = _ := (HBE.out.cell (p := ⟨g, o + j * 6, none⟩) hgl).trans (hcell 0 _ rfl)
      have k1 : wr.cell? ⟨g, o + j * 6 + 1, none⟩ = _ := (HBE.out.cell (p := ⟨g, o + j * 6 + 1, none⟩) hgl).trans (hcell 1 _ rfl)
      have k2 : wr.cell? ⟨g, o + j * 6 + 2, none⟩ = _ := (HBE.out.cell (p := ⟨g, o + j * 6 + 2, none⟩) hgl).trans (hcell 2 _ rfl)
      have k3 : wr.cell? ⟨g, o + j * 6 + 3, none⟩ = _ := (HBE.out.cell (p := ⟨g, o + j * 6 + 3, none⟩) hgl).trans (hcell 3 _ rfl)
      have k4 : wr.cell? ⟨g, o + j * 6 + 4, none⟩ = _ := (HBE.out.cell (p := ⟨g, o + j * 6 + 4, none⟩) hgl).trans (hcell 4 _ rfl)
      have k5 : wr.cell? ⟨g, o + j * 6 + 5, none⟩ = _ := (HBE.out.cell (p := ⟨g, o + j * 6 + 5, none⟩) hgl).trans (hcell 5 _ rfl)
      clear hx hlen hcell hd
      obtain ⟨nm, hnm⟩ : ∃ z, z = x.name := ⟨_, rfl⟩
      rw [← hnm] at k1
      have HNM := Lib.hid hnm
      clear hnm
      cases hem : nm with
      | nil =>
        subst hem
        go_wp2_with fail
        go_roundg (xs.length + 1 - (j + 1))
        case measure => rw [HK.out]; omega
        case rel =>
          have e : Qr.names (xs.take (j + 1)) = Qr.names (xs.take j) := by rw [HTK.out, Qr.names_snoc, ← HNM.out]; rfl
          exact ⟨j + 1, m, va, vc, rfl, hjl, by go_num, rfl, by rw [e]; exact HM.out, by rw [e]; exact HROW0.out.alloc _, HBE.out.alloc HBE.out.size _⟩
      | cons ch tl =>
        subst hem
        have hne : (ch :: tl : List UInt8) = [] ↔ False := by simp
        have HXX : Hid ((((wr.alloc (.cells #[.int .i64 x.kind, .string ⟨(ch :: tl).toArray⟩, .slice a1 x.vars.length c1, .slice a2 x.dirs.length c2, .slice a3 x.sels.length c3, .int .i64 x.at_] 49)).alloc (.cells #[.string ⟨(ch :: tl).toArray⟩] 9))).ownsRow w1.heap.size 9 1 (.slice va m vc) m (strCells (Qr.names (xs.take j)))) := Lib.hid ((HROW0.out.alloc _).alloc _)
        have HBX : Hid (Below w1.heap.size w1 ((wr.alloc (.cells #[.int .i64 x.kind, .string ⟨(ch :: tl).toArray⟩, .slice a1 x.vars.length c1, .slice a2 x.dirs.length c2, .slice a3 x.sels.length c3, .int .i64 x.at_] 49)).alloc (.cells #[.string ⟨(ch :: tl).toArray⟩] 9))) := Lib.hid ((HBE.out.alloc HBE.out.size _).alloc (by have := HBE.out.size; simp; omega) _)
        have HLIT : Hid (∀ j u, ([.string ⟨(ch :: tl).toArray⟩] : List Value)[j]? = some u → (((wr.alloc (.cells #[.int .i64 x.kind, .string ⟨(ch :: tl).toArray⟩, .slice a1 x.vars.length c1, .slice a2 x.dirs.length c2, .slice a3 x.sels.length c3, .int .i64 x.at_] 49)).alloc (.cells #[.string ⟨(ch :: tl).toArray⟩] 9))).cell? ((⟨wr.heap.size + 1, 0, none⟩ : Addr).add j) = some u) := by
          have := lit_cells (w := ((wr.alloc (.cells #[.int .i64 x.kind, .string ⟨(ch :: tl).toArray⟩, .slice a1 x.vars.length c1, .slice a2 x.dirs.length c2, .slice a3 x.sels.length c3, .int .i64 x.at_] 49)).alloc (.cells #[.string ⟨(ch :: tl).toArray⟩] 9))) (L := wr.heap.size + 1) (zs := [.string ⟨(ch :: tl).toArray⟩]) (T := 9) (fz := (0, 0)) (by
            have h1 := heap_at_new (wr.alloc (.cells #[.int .i64 x.kind, .string ⟨(ch :: tl).toArray⟩, .slice a1 x.vars.length c1, .slice a2 x.dirs.length c2, .slice a3 x.sels.length c3, .int .i64 x.at_] 49)) (.cells #[.string ⟨(ch :: tl).toArray⟩] 9)
            rw [show (wr.alloc (.cells #[.int .i64 x.kind, .string ⟨(ch :: tl).toArray⟩, .slice a1 x.vars.length c1, .slice a2 x.dirs.length c2, .slice a3 x.sels.length c3, .int .i64 x.at_] 49)).heap.size = wr.heap.size + 1 by simp] at h1
            exact h1)
          exact Lib.hid this
        have hbase : w1.heap.size ≤ (((wr.alloc (.cells #[.int .i64 x.kind, .string ⟨(ch :: tl).toArray⟩, .slice a1 x.vars.length c1, .slice a2 x.dirs.length c2, .slice a3 x.sels.length c3, .int .i64 x.at_] 49)).alloc (.cells #[.string ⟨(ch :: tl).toArray⟩] 9))).heap.size := HBX.out.size
        go_wp2_with (first | (at_builtin; refine wpList_append_own_at _ rfl _ _ 34 rfl w1.heap.size 9 i0 _ 1 16 Tryz.underlying34 hi hz0 hz1 hz2 rfl (by decide) (.slice va m vc) m (strCells (Qr.names (xs.take j))) rfl HXX.out ⟨wr.heap.size + 1, 0, none⟩ 1 1 [.string ⟨(ch :: tl).toArray⟩] rfl rfl HLIT.out (fun u hu => by simp at hu; subst hu; rfl) (by unfold maxLen; omega) (by omega) hbase ?_; intro v' w8 hrow8 hg8 hnil8 hloc8; clear hnil8 hloc8; obtain ⟨g', c', rfl, hg1, hg2⟩ := rowForm hrow8 (by omega); have HROW := Lib.hid hrow8; have HG8 := Lib.hid hg8; clear hrow8 hg8) | fail)
        go_roundg (xs.length + 1 - (j + 1))
        case measure => rw [HK.out]; omega
        case rel =>
          have e : Qr.names (xs.take (j + 1)) = Qr.names (xs.take j) ++ [ch :: tl] := by rw [HTK.out, Qr.names_snoc, ← HNM.out]; rfl
          refine ⟨j + 1, m + 1, _, _, rfl, hjl, by go_num, rfl, by rw [e, List.length_append, ← HM.out]; rfl, ?_, below_grown HBX.out HXX.out HBX.out.size HG8.out⟩
          rw [e]
          unfold strCells
          rw [List.map_append]
          exact HROW.out
    · have hje : j = xs.length := by omega
      have e4 : decide (j < xs.length) = false := decide_eq_false hjl
      have HF : Hid (xs.take j = xs) := Lib.hid (by rw [hje, List.take_length])
      clear hje
      go_wp2_with fail
      go_ret
      refine ⟨_, rfl, HB1.out.trans (HBE.out.mono HB1.out.size), ?_⟩
      have := HROW0.out
      have hm := HM.out
      rw [HF.out] at this hm
      exact txts_row this hm.symm
/-- Rows of texts are the same. -/
theorem texts_any (w : World) (va vb : Value) (la lb : List (List UInt8)) (ha : Txts w va la) (hb : Txts w vb lb) (hl : la.length ≤ 1000000) :
    Calls Tryz.prog 21 #[va, vb] w fun r w' => r = .returned (.bool (decide (la = lb))) ∧ ∃ n, w' = w.drewN n := by
  obtain ⟨aa, ca, rfl⟩ := ha.form
  obtain ⟨ab, cb, rfl⟩ := hb.form
  have HA := Lib.hid ha
  have HB := Lib.hid hb
  clear ha hb
  go_enter Tryz.func21, Tryz.ntmps21
  by_cases hle : la.length = lb.length
  · have e1 : ((la.length : Int) != (lb.length : Int)) = false := neF (by omega)
    have HLE := Lib.hid hle
    have hlb : lb.length ≤ 1000000 := by omega
    clear hle
    go_wp2_with fail
    go_loopg [13] (la.length + 1) (fun k i wr => ∃ j n, k = la.length + 1 - j ∧ j ≤ la.length ∧ i = .int .i64 j ∧ la.take j = lb.take j ∧ wr = w.drewN n)
    case atStart => exact ⟨0, 0, rfl, Nat.zero_le _, rfl, by simp, rfl⟩
    case round =>
      obtain ⟨j, n, hk, hj, rfl, htk, rfl⟩ := hrel
      have HK := Lib.hid hk
      have HT := Lib.hid htk
      clear hk htk
      by_cases hjl : j < la.length
      · have e4 : decide (j < la.length) = true := decide_eq_true hjl
        have hjl2 : j < lb.length := by have := HLE.out; omega
        obtain ⟨x, hx⟩ : ∃ z, la[j]? = some z := ⟨la[j], List.getElem?_eq_getElem hjl⟩
        obtain ⟨y, hy⟩ : ∃ z, lb[j]? = some z := ⟨lb[j], List.getElem?_eq_getElem hjl2⟩
        obtain ⟨b1, o1, rfl, -, k1⟩ := HA.out.at hx
        obtain ⟨b2, o2, rfl, -, k2⟩ := HB.out.at hy
        have HX := Lib.hid hx
        have HY := Lib.hid hy
        clear hx hy
        go_wp2_with fail
        refine wp_region_cuts [] (by kernel_rfl) (by kernel_rfl) ?_; simp only [wpMix, List.take_succ_cons, List.take_zero, List.drop_succ_cons, List.drop_zero, Nat.sub_zero, Nat.reduceSub, Nat.reduceAdd]
        repeat (go_big_quiet_step (fail))
        refine wpQuiet_nil ?_; rintro _ ⟨nq, rfl⟩
        obtain ⟨q, hq⟩ : ∃ q, q = (!(x == y)) := ⟨_, rfl⟩
        rw [← hq]
        have HQ := Lib.hid hq
        clear hq
        cases q
        · have HXY : Hid (x = y) := Lib.hid (by have := HQ.out; simpa using this)
          go_wp2_with fail
          go_roundg (la.length + 1 - (j + 1))
          case measure => rw [HK.out]; omega
          case rel =>
            have e : la.take (j + 1) = lb.take (j + 1) := by rw [List.take_add_one, List.take_add_one, HX.out, HY.out, HT.out, HXY.out]
            exact ⟨j + 1, n + nq, rfl, hjl, by go_num, e, by simp [World.drewN, Nat.add_assoc]⟩
        · have HN : Hid (¬ la = lb) := Lib.hid (fun h => (show ¬ x = y by have := HQ.out; simpa using this) (by have h1 := HX.out; rw [h, HY.out] at h1; exact (Option.some.inj h1).symm))
          go_wp2_with fail
          go_ret
          exact ⟨by rw [decide_eq_false HN.out]; rfl, n + nq, by simp [World.drewN, Nat.add_assoc]⟩
      · have e4 : decide (j < la.length) = false := decide_eq_false hjl
        have hE : la = lb := by
          have h1 := HT.out
          rw [show j = la.length by omega, List.take_length] at h1
          rw [HLE.out, List.take_length] at h1
          exact h1
        have HEQ := Lib.hid hE
        clear hE
        go_wp2_with fail
        go_ret
        exact ⟨by rw [decide_eq_true HEQ.out]; rfl, _, rfl⟩
  · have e1 : ((la.length : Int) != (lb.length : Int)) = true := neT (by omega)
    have HLE := Lib.hid hle
    clear hle
    go_wp2_with fail
    go_ret
    exact ⟨by rw [decide_eq_false (fun h => HLE.out (by rw [h]))]; rfl, 0, rfl⟩
end Go.Proofs.YtabcaljnpahgpaaGreatDoor
namespace Go.Proofs.YtabcaljnpahgpaaGreatDoor
set_option linter.unusedSimpArgs false
set_option linter.unusedVariables false
open Go Go.RowKit

theorem qr1_parts (ops : List Qr.Op) (h : ops.map (fun o => (o.name, o.sels.map (fun x => x.alias))) = [([81], [[98]])]) : ∃ o x, ops = [o] ∧ o.name = [81] ∧ o.sels = [x] ∧ x.alias = [98] := by
  rcases ops with _ | ⟨o, _ | ⟨o2, r⟩⟩
  · simp at h
  · simp only [List.map_cons, List.map_nil, List.cons.injEq, Prod.mk.injEq, and_true] at h
    obtain ⟨h1, h2⟩ := h
    rcases hs : o.sels with _ | ⟨x, _ | ⟨x2, r⟩⟩
    · simp [hs] at h2
    · simp only [hs, List.map_cons, List.map_nil, List.cons.injEq, and_true] at h2
      exact ⟨o, x, rfl, h1, hs, h2⟩
    · simp [hs] at h2
  · simp at h
theorem qd_one (s : ByteArray) (h : s.data.toList = [113, 117, 101, 114, 121, 32, 81, 40, 36, 97, 58, 32, 73, 110, 116, 32, 61, 32, 49, 41, 32, 123, 98, 58, 32, 99, 40, 120, 58, 32, 36, 97, 41, 32, 64, 105, 110, 99, 108, 117, 100, 101, 40, 105, 102, 58, 32, 116, 114, 117, 101, 41, 32, 123, 46, 46, 46, 70, 125, 125, 32, 102, 114, 97, 103, 109, 101, 110, 116, 32, 70, 32, 111, 110, 32, 84, 32, 123, 100, 125]) {w w' : World} {r : Ending} (hq : QdPost s.data.toList w r w') : Below w.heap.size w w' ∧ ∃ (a1 a2 : Option Addr) (c1 c2 : Nat) (o : Qr.Op) (x : Qr.Sel), r = .returned (.tuple #[.agg #[.slice a1 1 c1, .slice a2 1 c2], .int .i64 0, .int .i64 0]) ∧
    Reads w' (fun x => w.heap.size ≤ x) (.seq 6 ([o].map Qr.Op.d)) [.slice a1 1 c1] ∧ o.name = [81] ∧ o.sels = [x] ∧ x.alias = [98] := by
  rw [h] at hq
  obtain ⟨hb, -, hres⟩ := hq
  obtain ⟨p1, p2, p3⟩ := parse_qr1
  obtain ⟨o, x, e1, e2, e3, e4⟩ := qr1_parts _ p2
  rcases hres with ⟨a1, a2, c1, c2, -, rfl, hro, -⟩ | ⟨he, -⟩
  · rw [p3, e1]
    rw [e1] at hro
    exact ⟨hb, a1, a2, c1, c2, o, x, rfl, hro, e2, e3, e4⟩
  · exact absurd p1 he
theorem qd_two (s : ByteArray) (h : s.data.toList = [123, 125]) {w w' : World} {r : Ending} (hq : QdPost s.data.toList w r w') : Below w.heap.size w w' ∧ r = .returned (.tuple #[.agg #[.slice none 0 0, .slice none 0 0], .int .i64 1, .int .i64 41]) := by
  rw [h] at hq
  obtain ⟨hb, -, hres⟩ := hq
  rcases hres with ⟨a1, a2, c1, c2, he, -⟩ | ⟨-, rfl⟩
  · rw [parse_qr2.1] at he; exact absurd he (by decide)
  · rw [parse_qr2.1, parse_qr2.2]; exact ⟨hb, rfl⟩
set_option maxHeartbeats 1000000 in
set_option maxRecDepth 100000 in
theorem qrAwake_any (w : World) (hE : Env w) (h3 : 3 ≤ w.heap.size) :
    Calls Tryz.prog 18 #[] w (fun e w' => e = .returned (.bool true) ∧ Below w.heap.size w w' ∧ Env w') := by
  have HE := Lib.hid hE
  clear hE
  go_enter Tryz.func18, Tryz.ntmps18
  go_wp2_with fail
  refine (qparse_any _ w (by decide) HE.out h3).mono ?_
  intro e w1 hq
  obtain ⟨hb1, a1, a2, c1, c2, o, x, rfl, hro, hn, hs, hx⟩ := qd_one _ rfl hq
  have HB1 := Lib.hid hb1
  have HRO := Lib.hid hro
  have HN := Lib.hid hn
  obtain ⟨g, p, cs, rfl, -, hgl, hlen, hcell, hd⟩ := hro.elem.2 0 o.d rfl
  obtain ⟨b1, b2, b3, d1, d2, d3, rfl, -, -, hsl⟩ := Op_open hd
  rw [hs] at hcell hsl
  obtain ⟨g2, p2, cs2, rfl, -, hgl2, hlen2, hcell2, hd2⟩ := hsl.elem.2 0 x.d rfl
  obtain ⟨e1, e2, e3, f1, f2, f3, rfl, -⟩ := Sel_open hd2
  have k4 := hcell 4 _ rfl
  have k1 := hcell2 1 _ rfl
  rw [hx] at k1
  have HB2 : Hid (Below w1.heap.size w1 (w1.alloc (.cells #[.slice (some ⟨g, p, none⟩) 1 c1, .slice a2 1 c2] 43))) := Lib.hid ((Below.refl _ _).alloc (Nat.le_refl _) _)
  have HE2 := Lib.hid ((HE.out.below hb1).below HB2.out)
  have h32 : 3 ≤ (w1.alloc (.cells #[.slice (some ⟨g, p, none⟩) 1 c1, .slice a2 1 c2] 43)).heap.size := by have := hb1.size; simp; omega
  have HK4 := Lib.hid k4
  have HK1 := Lib.hid k1
  clear hb1 hro hcell hd hcell2 hd2 hsl hlen hlen2 hn hs hx hq k4 k1
  go_wp2_with fail
  refine (qparse_any _ _ (by decide) HE2.out h32).mono ?_
  intro e w2 hq
  obtain ⟨hb2, rfl⟩ := qd_two _ rfl hq
  clear hq
  have HB4 := Lib.hid ((HB2.out.trans (hb2.mono HB2.out.size)).trans (((Below.refl _ _).alloc (Nat.le_refl _) (.cells #[.slice none 0 0, .slice none 0 0] 43) : Below w2.heap.size w2 _).mono (Nat.le_trans HB2.out.size hb2.size)))
  have kD : (w2.alloc (.cells #[.slice none 0 0, .slice none 0 0] 43)).heap[w1.heap.size]? = some (.cells #[.slice (some ⟨g, p, none⟩) 1 c1, .slice a2 1 c2] 43 (0, 0)) := by
    rw [Lib.alloc_old _ _ _ (by have := hb2.size; simp at this; omega), hb2.block w1.heap.size (by simp)]
    exact heap_at_new _ _
  have y0 := blk_cell kD 0 (.slice (some ⟨g, p, none⟩) 1 c1) rfl
  have y1 := blk_cell kD 1 (.slice a2 1 c2) rfl
  have HRD := Lib.hid (HRO.out.to (Stands.below HB4.out))
  clear hb2
  go_wp2_with fail
  refine (names_any [o] _ c1 (.slice a2 1 c2) ⟨_, _, _, rfl⟩ _ _ HRD.out (by simp)).mono ?_
  rintro r w3 ⟨v, rfl, hb3, htx⟩
  have hnm : Qr.names [o] = [[81]] := by unfold Qr.names; simp [HN.out]
  rw [hnm] at htx
  have HTX := Lib.hid htx
  have HB3 := Lib.hid hb3
  clear htx hnm hb3 y0 y1
  have HLB : Hid (Below w3.heap.size w3 (w3.alloc (.cells #[.string ⟨#[81]⟩] 9))) := Lib.hid ((Below.refl _ _).alloc (Nat.le_refl _) _)
  obtain ⟨va, vc, rfl⟩ := HTX.out.form
  go_wp2_with fail
  refine (texts_any _ _ _ [[81]] [[81]] (HTX.out.below HLB.out) (txts_one w3 [81] ⟨#[81]⟩ 9 rfl) (by simp)).mono ?_
  rintro r w4 ⟨rfl, n4, rfl⟩
  have HB5 := Lib.hid (HB4.out.trans (HB3.out.mono HB4.out.size))
  have HB6 := Lib.hid (Below.drewN (HB5.out.trans (HLB.out.mono HB5.out.size)) n4)
  have y0 : ((w3.alloc (.cells #[.string ⟨#[81]⟩] 9)).drewN n4).cell? ⟨w1.heap.size, 0, none⟩ = some (.slice (some ⟨g, p, none⟩) 1 c1) := by
    refine blk_cell (cs := #[.slice (some ⟨g, p, none⟩) 1 c1, .slice a2 1 c2]) (T := 43) (fz := (0, 0)) ?_ 0 _ rfl
    show (w3.alloc _).heap[_]? = _
    have hlt := block_lt kD
    rw [Lib.alloc_old _ _ _ (Nat.lt_of_lt_of_le hlt HB3.out.size), HB3.out.block _ hlt]
    exact kD
  have y4 : ((w3.alloc (.cells #[.string ⟨#[81]⟩] 9)).drewN n4).cell? ⟨g, p + 4, none⟩ = some (.slice (some ⟨g2, p2, none⟩) 1 d3) := (HB6.out.cell (p := ⟨g, p + 4, none⟩) hgl).trans (by have := HK4.out; simpa using this)
  have y5 : ((w3.alloc (.cells #[.string ⟨#[81]⟩] 9)).drewN n4).cell? ⟨g2, p2 + 1, none⟩ = some (.string ⟨#[98]⟩) := (HB6.out.cell (p := ⟨g2, p2 + 1, none⟩) hgl2).trans (by have := HK1.out; simpa using this)
  go_wp2_with fail
  refine bodyPost_ret (v := .bool true) (by simp [results, Tryz.results18, go_sem]) rfl ?_
  exact ⟨rfl, HB1.out.trans (HB6.out.mono HB1.out.size), (HE.out.below HB1.out).below HB6.out⟩
end Go.Proofs.YtabcaljnpahgpaaGreatDoor
