/-
  'SdlStrings', walked.
-/
import Derived.Test.YtabcaljnpahgpaaGreatDoorSdt2
namespace Go.Proofs.YtabcaljnpahgpaaGreatDoor
set_option linter.unusedSimpArgs false
set_option linter.unusedVariables false
open Go Go.RowKit

theorem ba_ext {a b : ByteArray} (h : a.data.toList = b.data.toList) : a = b := by
  cases a; cases b
  simpa using Array.toList_inj.1 h
theorem tx0_eq (b : Nat → Bool) (nm : ByteArray) : tx0 (toldS 0 (b 0)) (toldS 1 (b 1)) (toldS 2 (b 2)) (toldS 3 (b 3)) (toldS 4 (b 4)) nm = ⟨(Sd.sText 0 nm.data.toList b).toArray⟩ := by
  apply ba_ext
  unfold tx0 toldS Sd.sText
  rw [if_pos rfl]
  simp only [ByteArray.data_append, Array.toList_append]
theorem tx1_eq (b : Nat → Bool) (nm : ByteArray) : tx1 (toldS 0 (b 0)) (toldS 1 (b 1)) (toldS 2 (b 2)) nm = ⟨(Sd.sText 1 nm.data.toList b).toArray⟩ := by
  apply ba_ext
  unfold tx1 toldS Sd.sText
  rw [if_neg (by decide), if_pos rfl]
  simp only [ByteArray.data_append, Array.toList_append]
theorem tx2_eq (b : Nat → Bool) (nm : ByteArray) : tx2 (toldS 0 (b 0)) (toldS 1 (b 1)) (toldS 2 (b 2)) nm = ⟨(Sd.sText 2 nm.data.toList b).toArray⟩ := by
  apply ba_ext
  unfold tx2 toldS Sd.sText
  rw [if_neg (by decide), if_neg (by decide)]
  simp only [ByteArray.data_append, Array.toList_append]
theorem toldS_le (i : Nat) (b : Bool) : (toldS i b).size ≤ 12 := Sd.ahead_len i b
def azOk (c : UInt8) : Bool := !Lx.isAz c || (Lx.isLetter c && Lx.isWord c)
set_option maxRecDepth 100000 in
theorem azOk_fin : ∀ n : Fin 256, azOk (UInt8.ofNat n.val) = true := by decide +kernel
theorem az_name {l : List UInt8} (h : Lx.az l = true) : Lx.isLetter (Lx.hd l) = true ∧ ∀ c ∈ l, Lx.isWord c = true := by
  have key : ∀ c : UInt8, Lx.isAz c = true → Lx.isLetter c = true ∧ Lx.isWord c = true := fun c hc => by
    have := azOk_fin ⟨c.toNat, UInt8.toNat_lt c⟩
    have hk : azOk c = true := by simpa using this
    unfold azOk at hk
    rw [hc] at hk
    simpa using hk
  unfold Lx.az at h
  rw [Bool.and_eq_true, List.all_eq_true] at h
  refine ⟨?_, fun c hc => (key c (h.1 c hc)).2⟩
  cases l with
  | nil => simp at h
  | cons c l => exact (key c (h.1 c (by simp))).1
/-- One of the three texts, whatever is told ahead. -/
theorem sdText_any (kd : Int) : ∃ k : Nat, k < 3 ∧ ∀ (f : FuncId) (cap : Array Value) (g3 g2 : Nat) (nm : ByteArray) (b : Nat → Bool) (w : World), (∀ (v : Value) w, Sem.run Tryz.prog (callFunc f (#[v] ++ cap)) w = .ok (.enter f (#[v] ++ cap)) w) →
    w.cell? ⟨g3, 0, none⟩ = some (.int .i64 kd) → w.cell? ⟨g2, 0, none⟩ = some (.string nm) → nm.size ≤ 50 →
    (∀ i : Nat, i < 5 → ∀ x : Later w, Calls Tryz.prog f (#[.int .i64 (i : Int)] ++ cap) x.1 fun e w' => e = .returned (.string (toldS i (b i))) ∧ w' = x.1) →
    Calls Tryz.prog 16 #[.func (.func f) #[] cap, .pointer (some ⟨g3, 0, none⟩), .pointer (some ⟨g2, 0, none⟩)] w fun e w' => e = .returned (.string ⟨(Sd.sText k nm.data.toList b).toArray⟩) ∧ ∃ x : Later w, w' = x.1 := by
  cases q0 : (wrap64 ((IntKind.u64.wrap kd).tmod 3) == 0) with
  | true =>
    refine ⟨0, by decide, fun f cap g3 g2 nm b w hk c1 c2 hn hh => ?_⟩
    have := text0_any f cap hk g3 g2 kd nm _ _ _ _ _ w c1 c2 hn (toldS_le _ _) (toldS_le _ _) (toldS_le _ _) (toldS_le _ _) (toldS_le _ _) (hh 0 (by decide)) (hh 1 (by decide)) (hh 2 (by decide)) (hh 3 (by decide)) (hh 4 (by decide)) q0
    rw [tx0_eq] at this
    exact this
  | false =>
    cases q1 : (wrap64 ((IntKind.u64.wrap kd).tmod 3) == 1) with
    | true =>
      refine ⟨1, by decide, fun f cap g3 g2 nm b w hk c1 c2 hn hh => ?_⟩
      have := text1_any f cap hk g3 g2 kd nm _ _ _ w c1 c2 hn (toldS_le _ _) (toldS_le _ _) (toldS_le _ _) (hh 0 (by decide)) (hh 1 (by decide)) (hh 2 (by decide)) q0 q1
      rw [tx1_eq] at this
      exact this
    | false =>
      refine ⟨2, by decide, fun f cap g3 g2 nm b w hk c1 c2 hn hh => ?_⟩
      have := text2_any f cap hk g3 g2 kd nm _ _ _ w c1 c2 hn (toldS_le _ _) (toldS_le _ _) (toldS_le _ _) (hh 0 (by decide)) (hh 1 (by decide)) (hh 2 (by decide)) q0 q1
      rw [tx2_eq] at this
      exact this
theorem told_any5 (g : Nat) (wh : UInt8) (w : World) (hc : w.cell? ⟨g, 0, none⟩ = some (.int .u8 wh.toNat)) : ∀ i : Nat, i < 5 → ∀ x : Later w, Calls Tryz.prog 15 (#[.int .i64 (i : Int)] ++ #[.pointer (some ⟨g, 0, none⟩)]) x.1 fun e w' => e = .returned (.string (toldS i (bitOf wh i))) ∧ w' = x.1 := by
  intro i hi x
  have hc' := Later.cell hc x
  have : i = 0 ∨ i = 1 ∨ i = 2 ∨ i = 3 ∨ i = 4 := by omega
  rcases this with rfl | rfl | rfl | rfl | rfl
  · exact told0_any g wh x.1 hc'
  · exact told1_any g wh x.1 hc'
  · exact told2_any g wh x.1 hc'
  · exact told3_any g wh x.1 hc'
  · exact told4_any g wh x.1 hc'
theorem told_none (w : World) : ∀ i : Nat, i < 5 → ∀ x : Later w, Calls Tryz.prog 17 (#[.int .i64 (i : Int)] ++ #[]) x.1 fun e w' => e = .returned (.string (toldS i false)) ∧ w' = x.1 := by
  intro i hi x
  exact noTold_any i x.1
end Go.Proofs.YtabcaljnpahgpaaGreatDoor
