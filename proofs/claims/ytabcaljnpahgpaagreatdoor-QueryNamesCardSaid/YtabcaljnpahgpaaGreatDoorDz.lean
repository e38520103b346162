/-
  A value that came in.
-/
import Derived.Test.YtabcaljnpahgpaaGreatDoorDv
import Derived.Test.YtabcaljnpahgpaaGreatDoorVo
namespace Go.Proofs.YtabcaljnpahgpaaGreatDoor
set_option linter.unusedSimpArgs false
set_option linter.unusedVariables false
open Go Go.RowKit

def valTypes : List TypeId := [55, 52, 53, 116, 3, 9]
theorem valNice : niceB Tryz.prog valTypes = true := by kernel_rfl
theorem valFields : ∃ fs : Array Field, Tryz.prog.underlying 55 = some (.struct fs) ∧ fs.toList.map (·.type) = [3, 9, 52, 53, 3] := ⟨_, Tryz.underlying55, by kernel_rfl⟩
theorem argFields : ∃ fs : Array Field, Tryz.prog.underlying 116 = some (.struct fs) ∧ fs.toList.map (·.type) = [9, 55, 3] := ⟨_, Tryz.underlying116, by kernel_rfl⟩
theorem cellsV : Tryz.prog.cellsOf 55 = 5 := by kernel_rfl
theorem cellsA : Tryz.prog.cellsOf 116 = 7 := by kernel_rfl
namespace Vl
-- Sizes that memory allows.
mutual
def Z.fits : Z → Prop
  | .mk k t i f a => (-9223372036854775808 ≤ k ∧ k ≤ 9223372036854775807) ∧ t.length ≤ maxLen ∧ i.length ≤ maxLen ∧ f.length ≤ maxLen ∧ Z.fitss i ∧ ZA.fitss f
def Z.fitss : List Z → Prop
  | [] => True
  | x :: r => Z.fits x ∧ Z.fitss r
def ZA.fits : ZA → Prop
  | .mk n v _ => n.length ≤ maxLen ∧ Z.fits v
def ZA.fitss : List ZA → Prop
  | [] => True
  | x :: r => ZA.fits x ∧ ZA.fitss r
end
theorem Z.fits_eq (z : Z) : z.fits = ((-9223372036854775808 ≤ z.kind ∧ z.kind ≤ 9223372036854775807) ∧ z.text.length ≤ maxLen ∧ z.items.length ≤ maxLen ∧ z.fields.length ≤ maxLen ∧ Z.fitss z.items ∧ ZA.fitss z.fields) := by cases z; rw [Z.fits]; rfl
theorem ZA.fits_eq (z : ZA) : z.fits = (z.name.length ≤ maxLen ∧ z.v.fits) := by cases z; rw [ZA.fits]; rfl
theorem Z.fitss_mem : ∀ {l : List Z}, Z.fitss l → ∀ x ∈ l, x.fits
  | y :: r, h, x, hx => by
    rw [Z.fitss] at h
    rcases List.mem_cons.1 hx with rfl | hx
    · exact h.1
    · exact Z.fitss_mem h.2 x hx
theorem ZA.fitss_mem : ∀ {l : List ZA}, ZA.fitss l → ∀ x ∈ l, x.fits
  | y :: r, h, x, hx => by
    rw [ZA.fitss] at h
    rcases List.mem_cons.1 hx with rfl | hx
    · exact h.1
    · exact ZA.fitss_mem h.2 x hx
end Vl
theorem wf_i64 {n : Int} (h : (Lit.int .i64 n).wf = true) : -9223372036854775808 ≤ n ∧ n ≤ 9223372036854775807 := by
  have hmin : IntKind.i64.min = -9223372036854775808 := by decide
  simpa [Lit.wf, hmin] using h
theorem vals_of {ds : List D} (h : ∀ d ∈ ds, ∃ z : Vl.Z, d = z.d ∧ z.fits) : ∃ zs : List Vl.Z, ds = zs.map Vl.Z.d ∧ Vl.Z.fitss zs := by
  induction ds with
  | nil => exact ⟨[], rfl, by rw [Vl.Z.fitss]; trivial⟩
  | cons d r ih =>
    obtain ⟨z, rfl, hz⟩ := h d (by simp)
    obtain ⟨zs, rfl, hzs⟩ := ih (fun x hx => h x (by simp [hx]))
    exact ⟨z :: zs, rfl, by rw [Vl.Z.fitss]; exact ⟨hz, hzs⟩⟩
theorem args_of {ds : List D} (h : ∀ d ∈ ds, ∃ z : Vl.ZA, d = z.d ∧ z.fits) : ∃ zs : List Vl.ZA, ds = zs.map Vl.ZA.d ∧ Vl.ZA.fitss zs := by
  induction ds with
  | nil => exact ⟨[], rfl, by rw [Vl.ZA.fitss]; trivial⟩
  | cons d r ih =>
    obtain ⟨z, rfl, hz⟩ := h d (by simp)
    obtain ⟨zs, rfl, hzs⟩ := ih (fun x hx => h x (by simp [hx]))
    exact ⟨z :: zs, rfl, by rw [Vl.ZA.fitss]; exact ⟨hz, hzs⟩⟩
theorem va_of : ∀ (n : Nat) (d : D), SizeOf.sizeOf d ≤ n → (HasT Tryz.prog 55 d → ∃ z : Vl.Z, d = z.d ∧ z.fits) ∧ (HasT Tryz.prog 116 d → ∃ z : Vl.ZA, d = z.d ∧ z.fits)
  | 0, d, hn => by cases d <;> simp at hn
  | n + 1, d, hn => by
    refine ⟨fun h0 => ?_, fun h0 => ?_⟩
    · obtain ⟨fs, hu, hf⟩ := valFields
      obtain ⟨ds, rfl, h⟩ := h0.obj hu
      clear h0
      rw [hf] at h
      obtain ⟨d1, r1, rfl, h1, h⟩ := h.cons
      obtain ⟨d2, r2, rfl, h2, h⟩ := h.cons
      obtain ⟨d3, r3, rfl, h3, h⟩ := h.cons
      obtain ⟨d4, r4, rfl, h4, h⟩ := h.cons
      obtain ⟨d5, r5, rfl, h5, h⟩ := h.cons
      obtain rfl := h.nil
      obtain ⟨k, rfl, hk⟩ := h1.int Tryz.underlying3
      obtain ⟨t, rfl, ht⟩ := h2.str Tryz.underlying9
      obtain ⟨is, rfl, hi1, hi2⟩ := h3.seq Tryz.underlying52
      obtain ⟨fl, rfl, hf1, hf2⟩ := h4.seq Tryz.underlying53
      obtain ⟨a, rfl, -⟩ := h5.int Tryz.underlying3
      simp only [D.obj.sizeOf_spec, D.seq.sizeOf_spec, List.cons.sizeOf_spec, List.nil.sizeOf_spec] at hn
      obtain ⟨zs, rfl, hzs⟩ := vals_of (ds := is) (fun x hx => (va_of n x (by have := List.sizeOf_lt_of_mem hx; omega)).1 (hi2.mem x hx))
      obtain ⟨za, rfl, hza⟩ := args_of (ds := fl) (fun x hx => (va_of n x (by have := List.sizeOf_lt_of_mem hx; omega)).2 (hf2.mem x hx))
      rw [List.length_map] at hi1 hf1
      refine ⟨.mk k t zs za a, ?_, ?_⟩
      · rw [Vl.Z.d, Vl.Z.dl_map, Vl.ZA.dl_map, cellsV, cellsA]
      · rw [Vl.Z.fits]
        exact ⟨wf_i64 hk, ht, hi1, hf1, hzs, hza⟩
    · obtain ⟨fs, hu, hf⟩ := argFields
      obtain ⟨ds, rfl, h⟩ := h0.obj hu
      clear h0
      rw [hf] at h
      obtain ⟨d1, r1, rfl, h1, h⟩ := h.cons
      obtain ⟨d2, r2, rfl, h2, h⟩ := h.cons
      obtain ⟨d3, r3, rfl, h3, h⟩ := h.cons
      obtain rfl := h.nil
      obtain ⟨t, rfl, ht⟩ := h1.str Tryz.underlying9
      obtain ⟨a, rfl, -⟩ := h3.int Tryz.underlying3
      simp only [D.obj.sizeOf_spec, List.cons.sizeOf_spec, List.nil.sizeOf_spec] at hn
      obtain ⟨v, rfl, hv⟩ := (va_of n d2 (by omega)).1 h2
      refine ⟨.mk t v a, ?_, ?_⟩
      · rw [Vl.ZA.d]
      · rw [Vl.ZA.fits]; exact ⟨ht, hv⟩
theorem val_of (d : D) (h : HasT Tryz.prog 55 d) : ∃ z : Vl.Z, d = z.d ∧ z.fits := (va_of _ d (Nat.le_refl _)).1 h
theorem arg_of (d : D) (h : HasT Tryz.prog 116 d) : ∃ z : Vl.ZA, d = z.d ∧ z.fits := (va_of _ d (Nat.le_refl _)).2 h
set_option maxRecDepth 10000 in
/-- A value among the arguments. -/
theorem val_arg {H : Type} {enc : TypeId × Value → H} {W : World} {v : Value} {x : DataW H} {ps : List MemPlace} {sp : Nat → Bool} {r : Reach} {base : Nat} (hv : Value.okWide Tryz.prog W r base 55 v) (h : DataW.Trod enc Tryz.prog W 0 sp true 55 v x ps) :
    ∃ (z : Vl.Z) (a1 a2 : Option Addr) (c1 c2 : Nat), v = .agg (zcells z a1 a2 c1 c2) ∧ z.fits ∧ Reads W (fun _ => True) z.d (zcells z a1 a2 c1 c2).toList := by
  obtain ⟨fs, hu, hf⟩ := valFields
  obtain ⟨cs, rfl, -⟩ := Go.WideShapes.okWide_struct hu hv
  obtain ⟨d, hr, ht⟩ := open_arg valNice (List.Mem.head _) h
  obtain ⟨z, rfl, hz⟩ := val_of d ht
  have hr : Reads W (fun _ => True) z.d cs.toList := hr
  obtain ⟨a1, a2, c1, c2, e, -, -⟩ := Z_open hr
  refine ⟨z, a1, a2, c1, c2, ?_, hz, ?_⟩
  · congr 1
    have := congrArg List.toArray e
    simpa [zcells] using this
  · rw [e] at hr; exact hr
end Go.Proofs.YtabcaljnpahgpaaGreatDoor
