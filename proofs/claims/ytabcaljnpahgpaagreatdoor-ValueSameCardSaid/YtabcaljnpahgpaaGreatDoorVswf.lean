/-
  'Show', walked.
-/
import Derived.Test.YtabcaljnpahgpaaGreatDoorVswe
namespace Go.Proofs.YtabcaljnpahgpaaGreatDoor
set_option linter.unusedSimpArgs false
set_option linter.unusedVariables false
open Go Go.RowKit

theorem inn_all : ∀ N : Nat, InnC N
  | 0 => fun z hN => by have := Vl.Z.n_pos z; omega
  | N + 1 => fun z hN hk deep hdp w0 b s a1 a2 n1 n2 w hE h3 hS hlen hR => by
    have V := value_step N (inn_all N)
    rcases hk with hk | hk
    · exact inner8 N V z hN hk deep hdp w0 b s a1 a2 n1 n2 w hE h3 hS hlen hR
    · exact inner9 N V z hN hk deep hdp w0 b s a1 a2 n1 n2 w hE h3 hS hlen hR
theorem val_all (N : Nat) : ValC N := value_step N (inn_all N)
namespace Vl
theorem put_ne {t : List UInt8} {s : Sh} (h : t ≠ []) : (put t s).out ≠ [] := by
  rw [put_out]
  intro e
  exact h (List.append_eq_nil_iff.1 e).2
theorem one_nil (k : Nat) : one [] k = false := by
  have : Lx.lex [] = .ok [⟨0, [], 0⟩] := by kernel_rfl
  unfold one
  rw [this]
theorem leaf_ne {k : Int} {t : List UInt8} (hk : 1 ≤ k ∧ k ≤ 7) (h : (leaf k t).1 = true) : (leaf k t).2 ≠ [] := by
  unfold leaf at h ⊢
  have hn : Lx.isName t = true → t ≠ [] := fun h e => by subst e; exact absurd h (by decide)
  split
  · simp
  rename_i h1
  rw [if_neg h1] at h
  split
  · rename_i h2
    rw [if_pos h2] at h
    intro e
    simp only at e h
    rw [e, one_nil] at h
    cases h
  rename_i h2
  rw [if_neg h2] at h
  split
  · rename_i h3
    rw [if_pos h3] at h
    intro e
    simp only at e h
    rw [e, one_nil] at h
    cases h
  rename_i h3
  rw [if_neg h3] at h
  split
  · rename_i h4
    rw [if_pos h4] at h
    simp only at h ⊢
    unfold quoteOf Lx.quote
    rw [if_pos h]
    simp
  rename_i h4
  rw [if_neg h4] at h
  split
  · rename_i h5
    rw [if_pos h5] at h
    intro e
    simp only at e h
    rw [e] at h
    exact absurd h (by decide)
  rename_i h5
  rw [if_neg h5] at h
  split
  · unfold Rd.sNull; simp
  rename_i h6
  rw [if_neg h6] at h
  simp only [Bool.and_eq_true] at h
  exact hn h.1
theorem need_bad {ok : Bool} {s : Sh} (h : (need ok s).bad = false) : ok = true ∧ s.bad = false := by
  unfold need at h
  simpa [and_comm] using h
theorem show_ne {deep : Nat} {z : Z} {s : Sh} (h : (z.show deep s).bad = false) : (z.show deep s).out ≠ [] := by
  by_cases h1 : 1 ≤ z.kind ∧ z.kind ≤ 7
  · rw [Z.show_leaf h1] at h ⊢
    exact put_ne (leaf_ne h1 (need_bad (show (need _ _).bad = false from h)).1)
  by_cases h2 : z.kind = 8 ∨ z.kind = 9
  · rw [Z.show_many h2] at h ⊢
    split
    · rename_i hb
      rw [if_pos hb] at h
      rw [hb] at h
      cases h
    · unfold Z.inner
      exact put_ne (by unfold shut; split <;> simp)
  · rw [Z.show_else h1 h2] at h
    have := (need_bad h).1
    cases this
/-- What 'Show' answers. -/
def shown (z : Z) : Sh := z.show 0 ⟨[], false⟩
end Vl
set_option maxHeartbeats 2000000 in
set_option maxRecDepth 100000 in
theorem vshow_any (z : Vl.Z) (a1 a2 : Option Addr) (n1 n2 : Nat) (w : World) (hE : Env w) (h3 : 3 ≤ w.heap.size) (hc : z.cost ≤ 1000000000) (hR : Reads w (fun _ => True) z.d (zcells z a1 a2 n1 n2).toList) :
    Calls Tryz.prog 26 #[.agg (zcells z a1 a2 n1 n2)] w fun e w' => Below w.heap.size w w' ∧ (((Vl.shown z).bad = false ∧ e = .returned (.tuple #[.string ⟨(Vl.shown z).out.toArray⟩, .int .i64 0])) ∨ ((Vl.shown z).bad = true ∧ e = .returned (.tuple #[.string ⟨#[]⟩, .int .i64 2]))) := by
  have HR := Lib.hid hR
  have HE := Lib.hid hE
  obtain ⟨w2, hw2⟩ : ∃ q, q = (w.alloc (.cells (zcells z a1 a2 n1 n2) 55)).alloc (.cells #[.pointer none, .slice none 0 0, .bool false] 111) := ⟨_, rfl⟩
  have hb2 : Below w.heap.size w w2 := by rw [hw2]; exact ((Below.refl _ _).alloc (Nat.le_refl _) _).alloc (by simp) _
  have hS : SW w (w.heap.size + 1) ⟨[], false⟩ w2 := by
    refine ⟨⟨by omega, .pointer none, .slice none 0 0, .inl rfl, ?_, World.ownsRowF_nil _ _ _ _, by simp [Value.ownBlock]⟩, hb2⟩
    rw [hw2]
    have := heap_at_new (w.alloc (.cells (zcells z a1 a2 n1 n2) 55)) (.cells #[.pointer none, .slice none 0 0, .bool false] 111)
    rw [show (w.alloc (.cells (zcells z a1 a2 n1 n2) 55)).heap.size = w.heap.size + 1 by simp] at this
    exact this
  have HV := Lib.hid (val_all z.n z (Nat.le_refl _) 0 (by omega) w (w.heap.size + 1) ⟨[], false⟩ a1 a2 n1 n2 w2 HE.out h3 hS (by show 0 + z.cost ≤ _; omega) HR.out)
  have HB2 := Lib.hid hb2
  rw [hw2] at HV
  unfold zcells at HV ⊢
  clear hR hE hb2 hS hw2
  go_enter Tryz.func26, Tryz.ntmps26
  go_wp2_with fail
  refine HV.out.mono ?_
  rintro r w3 ⟨rfl, hs3, -⟩
  have HS3 := Lib.hid hs3
  have y2 : w3.cell? ⟨w.heap.size + 1, 2, none⟩ = _ := hs3.badCell
  obtain ⟨bd, hbd⟩ : ∃ q, q = (Vl.shown z).bad := ⟨_, rfl⟩
  have hbd2 : (Vl.Z.show 0 z ⟨[], false⟩).bad = bd := hbd.symm
  rw [hbd2] at y2
  have HBD := Lib.hid hbd
  clear hs3 hbd hbd2 HV
  cases bd
  · go_wp2_with fail
    refine (shString w.heap.size (w.heap.size + 1) _ _ w3 HS3.out.sh (Vl.show_ne (by have := HBD.out; exact this.symm))).mono ?_
    rintro r w4 ⟨rfl, hb4⟩
    have HB4 := Lib.hid (HS3.out.bel.trans hb4)
    clear hb4
    go_wp2_with fail
    go_ret2
    exact ⟨HB4.out, .inl ⟨HBD.out.symm, rfl⟩⟩
  · go_wp2_with fail
    go_ret2
    exact ⟨HS3.out.bel, .inr ⟨HBD.out.symm, rfl⟩⟩
end Go.Proofs.YtabcaljnpahgpaaGreatDoor
