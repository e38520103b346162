/-
  'awake' of the values' law, walked. A value that came in. 'Few' of package rubriclaw08, walked: what it lets by is small. The document's 'Show' of values, walked.
-/
import Derived.Test.YtefjgpkpplkkgaaGreatDoorZa25
import Derived.Test.YtefjgpkpplkkgaaGreatDoorZa19
import Derived.Test.YtefjgpkpplkkgaaGreatDoorZa7
import Derived.Test.YtefjgpkpplkkgaaGreatDoorZa6
import Derived.Test.YtefjgpkpplkkgaaGreatDoorZa18
import Derived.Test.YtefjgpkpplkkgaaGreatDoorZa3
import Derived.Test.YtefjgpkpplkkgaaGreatDoorZa15
import Derived.Test.YtefjgpkpplkkgaaGreatDoorZa5
import Derived.Test.YtefjgpkpplkkgaaGreatDoorZa22
namespace Go.Proofs.YtefjgpkpplkkgaaGreatDoor
set_option linter.unusedSimpArgs false
set_option linter.unusedVariables false
open Go Go.RowKit

set_option maxRecDepth 100000 in
theorem vnullable (w : World) : Calls Tryz.prog 83 #[.string ⟨#[91, 73, 110, 116, 33, 93, 33]⟩] w fun e w' => e = .returned (.string ⟨#[91, 73, 110, 116, 33, 93]⟩) ∧ w' = w := by
  go_enter Tryz.func83, Tryz.ntmps83
  go_wp2_with fail
  refine (Tryz.strings_TrimSuffix _ _ w (by decide)).mono ?_
  rintro e w1 ⟨rfl, rfl⟩
  rw [show (Lib.trimSuffix (ByteArray.data ⟨#[91, 73, 110, 116, 33, 93, 33]⟩).toList (ByteArray.data ⟨#[33]⟩).toList) = [91, 73, 110, 116, 33, 93] by kernel_rfl]
  go_wp2_with fail
  go_ret
  exact ⟨rfl, rfl⟩
set_option maxRecDepth 100000 in
theorem vitem (w : World) : Calls Tryz.prog 29 #[.string ⟨#[91, 73, 110, 116, 33, 93, 33]⟩] w fun e w' => e = .returned (.tuple #[.string ⟨#[73, 110, 116, 33]⟩, .bool true]) ∧ w' = w := by
  go_enter Tryz.func29, Tryz.ntmps29
  go_wp2_with fail
  refine (vnullable w).mono ?_
  rintro e w1 ⟨rfl, rfl⟩
  go_wp2_with fail
  refine (Tryz.strings_CutPrefix _ _ _).mono ?_
  rintro e w2 ⟨rfl, rfl⟩
  rw [show (Lib.trimPrefix (ByteArray.data ⟨#[91, 73, 110, 116, 33, 93]⟩).toList (ByteArray.data ⟨#[91]⟩).toList) = [73, 110, 116, 33, 93] by kernel_rfl, show (Lib.hasPrefix (ByteArray.data ⟨#[91, 73, 110, 116, 33, 93]⟩).toList (ByteArray.data ⟨#[91]⟩).toList) = true by kernel_rfl]
  go_wp2_with fail
  refine (Tryz.strings_TrimSuffix _ _ _ (by decide)).mono ?_
  rintro e w3 ⟨rfl, rfl⟩
  rw [show (Lib.trimSuffix (ByteArray.data ⟨#[73, 110, 116, 33, 93]⟩).toList (ByteArray.data ⟨#[93]⟩).toList) = [73, 110, 116, 33] by kernel_rfl]
  go_wp2_with fail
  go_ret2
  exact ⟨rfl, rfl⟩
set_option maxRecDepth 100000 in
theorem vbase (w : World) : Calls Tryz.prog 30 #[.string ⟨#[91, 73, 110, 116, 33, 93, 33]⟩] w fun e w' => e = .returned (.string ⟨#[73, 110, 116]⟩) ∧ Below w.heap.size w w' := by
  go_enter Tryz.func30, Tryz.ntmps30
  go_wp2_with fail
  refine (Any.strings_Trim_laid Tryz.lays160 asciiInfo ⟨#[91, 73, 110, 116, 33, 93, 33]⟩ ⟨#[91, 93, 33]⟩ w (by decide) (by decide) (ascii_of_all (by decide))).mono ?_
  rintro e w1 ⟨rfl, hb⟩
  rw [show (Lib.trimS (ByteArray.data ⟨#[91, 73, 110, 116, 33, 93, 33]⟩).toList (ByteArray.data ⟨#[91, 93, 33]⟩).toList) = [73, 110, 116] by kernel_rfl]
  go_wp2_with fail
  go_ret
  exact ⟨rfl, hb⟩

set_option maxHeartbeats 1000000 in
set_option maxRecDepth 100000 in
theorem vAwake_any (w : World) (hE : Env w) (h3 : 3 ≤ w.heap.size) :
    Calls Tryz.prog 8 #[] w (fun e w' => e = .returned (.bool true) ∧ Below w.heap.size w w' ∧ Env w') := by
  have HE := Lib.hid hE
  clear hE
  go_enter Tryz.func8, Tryz.ntmps8
  go_wp2_with fail
  refine (vparse_any _ false w (by decide) HE.out h3).mono ?_
  rintro e w1 ⟨hb1, -, hres⟩
  obtain ⟨p1, p2, p3, p4⟩ := Vl.parse_t1
  rcases hres with ⟨z, a1, a2, n1, n2, hz, -, rfl, hrd⟩ | ⟨he, -⟩
  rotate_left
  · exact absurd p1 he
  have hz' : z = Vl.ofV (Vl.parse Vl.t1 false).2 := hz
  rw [← hz'] at p2 p3 p4
  obtain ⟨w2, hw2⟩ : ∃ q, q = w1.alloc (.cells (zcells z a1 a2 n1 n2) 25) := ⟨_, rfl⟩
  have hb2 : Below w1.heap.size w1 w2 := by rw [hw2]; exact (Below.refl _ _).alloc (Nat.le_refl _) _
  have hb12 := hb1.trans (hb2.mono hb1.size)
  have hE2 := HE.out.below hb12
  have h32 : 3 ≤ w2.heap.size := by have := hb12.size; omega
  have HC := Lib.hid (vshow_any z a1 a2 n1 n2 w2 hE2 h32 (by omega) ((hrd.to (Stands.below hb2)).to (Stands.sub _ (fun _ _ _ => trivial))))
  have HB12 := Lib.hid hb12
  rw [hw2] at HC
  unfold zcells at HC hw2
  have HW2 := Lib.hid hw2
  have HP2 := Lib.hid p2
  have HP3 := Lib.hid p3
  have HE2 := Lib.hid hE2
  clear p1 p2 p3 p4 hz hz' hrd hb1 hb2 hb12 hE2 hw2
  go_wp2_with fail
  refine HC.out.mono ?_
  rw [← HW2.out]
  rintro e w3 ⟨hb3, hres⟩
  have hr2 : e = .returned (.tuple #[.string ⟨#[91, 49, 44, 32, 123, 97, 58, 32, 36, 98, 125, 93]⟩, .int .i64 0]) := by
    rcases hres with ⟨-, h⟩ | ⟨h, -⟩
    · rw [h, HP2.out]
    · rw [HP3.out] at h; cases h
  subst hr2
  have HB3 := Lib.hid (HB12.out.trans (hb3.mono HB12.out.size))
  have HE3 := Lib.hid (HE2.out.below hb3)
  have h33 : 3 ≤ w3.heap.size := by have := hb3.size; omega
  clear hb3 hres HC
  go_wp2_with fail
  refine (vitem w3).mono ?_
  rintro e w4 ⟨rfl, hw4⟩
  obtain rfl := hw4.symm
  clear hw4
  go_wp2_with fail
  refine (vparse_any _ false w3 (by decide) HE3.out h33).mono ?_
  rintro e w5 ⟨hb5, -, hres⟩
  obtain ⟨p1, p2⟩ := Vl.parse_t2
  have hr5 : e = .returned (.tuple #[.agg #[.int .i64 0, .string ⟨#[]⟩, .slice none 0 0, .slice none 0 0, .int .i64 0], .int .i64 3, .int .i64 41]) := by
    have q1 : (Vl.parse (ByteArray.data ⟨#[123, 97, 32, 49, 125]⟩).toList false).1.err = 41 := p1
    have q2 : (Vl.parse (ByteArray.data ⟨#[123, 97, 32, 49, 125]⟩).toList false).1.at_ = 3 := p2
    rcases hres with ⟨z, a1, a2, n1, n2, hz, h, -⟩ | ⟨-, h⟩
    · rw [q1] at h; cases h
    · rw [h, q1, q2]; rfl
  subst hr5
  have HB5 := Lib.hid ((HB3.out.trans (hb5.mono HB3.out.size)).alloc (by have := HB3.out.size; have := hb5.size; omega) (.cells #[.int .i64 0, .string ⟨#[]⟩, .slice none 0 0, .slice none 0 0, .int .i64 0] 25))
  clear hb5 hres p1 p2
  go_wp2_with fail
  refine (vbase _).mono ?_
  rintro e w6 ⟨rfl, hb6⟩
  have HB6 := Lib.hid (HB5.out.trans (hb6.mono HB5.out.size))
  clear hb6
  go_wp2_with fail
  go_ret
  exact ⟨rfl, HB6.out, HE.out.below HB6.out⟩
end Go.Proofs.YtefjgpkpplkkgaaGreatDoor
namespace Go.Proofs.YtefjgpkpplkkgaaGreatDoor
set_option linter.unusedSimpArgs false
set_option linter.unusedVariables false
open Go Go.RowKit

def valTypes : List TypeId := [25, 22, 23, 72, 3, 9]
theorem valNice : niceB Tryz.prog valTypes = true := by kernel_rfl
theorem valFields : ∃ fs : Array Field, Tryz.prog.underlying 25 = some (.struct fs) ∧ fs.toList.map (·.type) = [3, 9, 22, 23, 3] := ⟨_, Tryz.underlying25, by kernel_rfl⟩
theorem argFields : ∃ fs : Array Field, Tryz.prog.underlying 72 = some (.struct fs) ∧ fs.toList.map (·.type) = [9, 25, 3] := ⟨_, Tryz.underlying72, by kernel_rfl⟩
theorem cellsV : Tryz.prog.cellsOf 25 = 5 := by kernel_rfl
theorem cellsA : Tryz.prog.cellsOf 72 = 7 := by kernel_rfl
namespace Vl
-- Sizes that memory allows.
mutual
def Z.fits : Z → Prop
  | .mk k t i f a => (-9223372036854775808 ≤ k ∧ k ≤ 9223372036854775807) ∧ t.length ≤ maxLen ∧ i.length ≤ maxLen ∧ f.length ≤ maxLen ∧ Z.fitss i ∧ ZA.fitss f
def Z.fitss : List Z → Prop
  | [] => True
  | x :: r => Z.fits x ∧ Z.fitss r
def ZA.fits : ZA → Prop
  | .mk n v _ => n.length ≤ maxLen ∧ Z.fits v
def ZA.fitss : List ZA → Prop
  | [] => True
  | x :: r => ZA.fits x ∧ ZA.fitss r
end
theorem Z.fits_eq (z : Z) : z.fits = ((-9223372036854775808 ≤ z.kind ∧ z.kind ≤ 9223372036854775807) ∧ z.text.length ≤ maxLen ∧ z.items.length ≤ maxLen ∧ z.fields.length ≤ maxLen ∧ Z.fitss z.items ∧ ZA.fitss z.fields) := by cases z; rw [Z.fits]; rfl
theorem ZA.fits_eq (z : ZA) : z.fits = (z.name.length ≤ maxLen ∧ z.v.fits) := by cases z; rw [ZA.fits]; rfl
theorem Z.fitss_mem : ∀ {l : List Z}, Z.fitss l → ∀ x ∈ l, x.fits
  | y :: r, h, x, hx => by
    rw [Z.fitss] at h
    rcases List.mem_cons.1 hx with rfl | hx
    · exact h.1
    · exact Z.fitss_mem h.2 x hx
theorem ZA.fitss_mem : ∀ {l : List ZA}, ZA.fitss l → ∀ x ∈ l, x.fits
  | y :: r, h, x, hx => by
    rw [ZA.fitss] at h
    rcases List.mem_cons.1 hx with rfl | hx
    · exact h.1
    · exact ZA.fitss_mem h.2 x hx
end Vl
theorem wf_i64 {n : Int} (h : (Lit.int .i64 n).wf = true) : -9223372036854775808 ≤ n ∧ n ≤ 9223372036854775807 := by
  have hmin : IntKind.i64.min = -9223372036854775808 := by decide
  simpa [Lit.wf, hmin] using h
theorem vals_of {ds : List D} (h : ∀ d ∈ ds, ∃ z : Vl.Z, d = z.d ∧ z.fits) : ∃ zs : List Vl.Z, ds = zs.map Vl.Z.d ∧ Vl.Z.fitss zs := by
  induction ds with
  | nil => exact ⟨[], rfl, by rw [Vl.Z.fitss]; trivial⟩
  | cons d r ih =>
    obtain ⟨z, rfl, hz⟩ := h d (by simp)
    obtain ⟨zs, rfl, hzs⟩ := ih (fun x hx => h x (by simp [hx]))
    exact ⟨z :: zs, rfl, by rw [Vl.Z.fitss]; exact ⟨hz, hzs⟩⟩
theorem args_of {ds : List D} (h : ∀ d ∈ ds, ∃ z : Vl.ZA, d = z.d ∧ z.fits) : ∃ zs : List Vl.ZA, ds = zs.map Vl.ZA.d ∧ Vl.ZA.fitss zs := by
  induction ds with
  | nil => exact ⟨[], rfl, by rw [Vl.ZA.fitss]; trivial⟩
  | cons d r ih =>
    obtain ⟨z, rfl, hz⟩ := h d (by simp)
    obtain ⟨zs, rfl, hzs⟩ := ih (fun x hx => h x (by simp [hx]))
    exact ⟨z :: zs, rfl, by rw [Vl.ZA.fitss]; exact ⟨hz, hzs⟩⟩
theorem va_of : ∀ (n : Nat) (d : D), SizeOf.sizeOf d ≤ n → (HasT Tryz.prog 25 d → ∃ z : Vl.Z, d = z.d ∧ z.fits) ∧ (HasT Tryz.prog 72 d → ∃ z : Vl.ZA, d = z.d ∧ z.fits)
  | 0, d, hn => by cases d <;> simp at hn
  | n + 1, d, hn => by
    refine ⟨fun h0 => ?_, fun h0 => ?_⟩
    · obtain ⟨fs, hu, hf⟩ := valFields
      obtain ⟨ds, rfl, h⟩ := h0.obj hu
      clear h0
      rw [hf] at h
      obtain ⟨d1, r1, rfl, h1, h⟩ := h.cons
      obtain ⟨d2, r2, rfl, h2, h⟩ := h.cons
      obtain ⟨d3, r3, rfl, h3, h⟩ := h.cons
      obtain ⟨d4, r4, rfl, h4, h⟩ := h.cons
      obtain ⟨d5, r5, rfl, h5, h⟩ := h.cons
      obtain rfl := h.nil
      obtain ⟨k, rfl, hk⟩ := h1.int Tryz.underlying3
      obtain ⟨t, rfl, ht⟩ := h2.str Tryz.underlying9
      obtain ⟨is, rfl, hi1, hi2⟩ := h3.seq Tryz.underlying22
      obtain ⟨fl, rfl, hf1, hf2⟩ := h4.seq Tryz.underlying23
      obtain ⟨a, rfl, -⟩ := h5.int Tryz.underlying3
      simp only [D.obj.sizeOf_spec, D.seq.sizeOf_spec, List.cons.sizeOf_spec, List.nil.sizeOf_spec] at hn
      obtain ⟨zs, rfl, hzs⟩ := vals_of (ds := is) (fun x hx => (va_of n x (by have := List.sizeOf_lt_of_mem hx; omega)).1 (hi2.mem x hx))
      obtain ⟨za, rfl, hza⟩ := args_of (ds := fl) (fun x hx => (va_of n x (by have := List.sizeOf_lt_of_mem hx; omega)).2 (hf2.mem x hx))
      rw [List.length_map] at hi1 hf1
      refine ⟨.mk k t zs za a, ?_, ?_⟩
      · rw [Vl.Z.d, Vl.Z.dl_map, Vl.ZA.dl_map, cellsV, cellsA]
      · rw [Vl.Z.fits]
        exact ⟨wf_i64 hk, ht, hi1, hf1, hzs, hza⟩
    · obtain ⟨fs, hu, hf⟩ := argFields
      obtain ⟨ds, rfl, h⟩ := h0.obj hu
      clear h0
      rw [hf] at h
      obtain ⟨d1, r1, rfl, h1, h⟩ := h.cons
      obtain ⟨d2, r2, rfl, h2, h⟩ := h.cons
      obtain ⟨d3, r3, rfl, h3, h⟩ := h.cons
      obtain rfl := h.nil
      obtain ⟨t, rfl, ht⟩ := h1.str Tryz.underlying9
      obtain ⟨a, rfl, -⟩ := h3.int Tryz.underlying3
      simp only [D.obj.sizeOf_spec, List.cons.sizeOf_spec, List.nil.sizeOf_spec] at hn
      obtain ⟨v, rfl, hv⟩ := (va_of n d2 (by omega)).1 h2
      refine ⟨.mk t v a, ?_, ?_⟩
      · rw [Vl.ZA.d]
      · rw [Vl.ZA.fits]; exact ⟨ht, hv⟩
theorem val_of (d : D) (h : HasT Tryz.prog 25 d) : ∃ z : Vl.Z, d = z.d ∧ z.fits := (va_of _ d (Nat.le_refl _)).1 h
set_option maxRecDepth 10000 in
/-- A value among the arguments. -/
theorem val_arg {H : Type} {enc : TypeId × Value → H} {W : World} {v : Value} {x : DataW H} {ps : List MemPlace} {sp : Nat → Bool} {r : Reach} {base : Nat} (hv : Value.okWide Tryz.prog W r base 25 v) (h : DataW.Trod enc Tryz.prog W 0 sp true 25 v x ps) :
    ∃ (z : Vl.Z) (a1 a2 : Option Addr) (c1 c2 : Nat), v = .agg (zcells z a1 a2 c1 c2) ∧ z.fits ∧ Reads W (fun _ => True) z.d (zcells z a1 a2 c1 c2).toList := by
  obtain ⟨fs, hu, hf⟩ := valFields
  obtain ⟨cs, rfl, -⟩ := Go.WideShapes.okWide_struct hu hv
  obtain ⟨d, hr, ht⟩ := open_arg valNice (List.Mem.head _) h
  obtain ⟨z, rfl, hz⟩ := val_of d ht
  have hr : Reads W (fun _ => True) z.d cs.toList := hr
  obtain ⟨a1, a2, c1, c2, e, -, -⟩ := Z_open hr
  refine ⟨z, a1, a2, c1, c2, ?_, hz, ?_⟩
  · congr 1
    have := congrArg List.toArray e
    simpa [zcells] using this
  · rw [e] at hr; exact hr
end Go.Proofs.YtefjgpkpplkkgaaGreatDoor
namespace Go.Proofs.YtefjgpkpplkkgaaGreatDoor
set_option linter.unusedSimpArgs false
set_option linter.unusedVariables false
open Go Go.RowKit

namespace Vl
-- How many values there are in one.
mutual
def Z.vals : Z → Nat
  | .mk _ _ i f _ => 1 + (Z.valss i + ZA.valss f)
def Z.valss : List Z → Nat
  | [] => 0
  | x :: r => Z.vals x + Z.valss r
def ZA.valss : List ZA → Nat
  | [] => 0
  | .mk _ v _ :: r => Z.vals v + ZA.valss r
end
theorem Z.vals_eq (z : Z) : z.vals = 1 + (Z.valss z.items + ZA.valss z.fields) := by cases z; rw [Z.vals]; rfl
theorem ZA.valss_cons (x : ZA) (r : List ZA) : ZA.valss (x :: r) = x.v.vals + ZA.valss r := by cases x; rw [ZA.valss]; rfl
theorem valss_drop : ∀ (l : List Z) (j : Nat), Z.valss (l.drop j) ≤ Z.valss l
  | [], j => by rw [List.drop_nil]; exact Nat.le_refl _
  | x :: r, 0 => Nat.le_refl _
  | x :: r, j + 1 => by
    have := valss_drop r j
    rw [List.drop_succ_cons, Z.valss]; omega
theorem valssA_drop : ∀ (l : List ZA) (j : Nat), ZA.valss (l.drop j) ≤ ZA.valss l
  | [], j => by rw [List.drop_nil]; exact Nat.le_refl _
  | x :: r, 0 => Nat.le_refl _
  | x :: r, j + 1 => by
    have := valssA_drop r j
    rw [List.drop_succ_cons, ZA.valss_cons]; omega
end Vl
/-- One block holds a number, the others stand. -/
structure OneI (g : Nat) (L : Int) (w0 w : World) : Prop where
  but : But (fun x => x = g) w0 w
  lt : g < w0.heap.size
  cell : w.heap[g]? = some (.cells #[.int .i64 L] 3 (0, 0))
theorem OneI.trans {g : Nat} {L L' : Int} {a b c : World} (h : OneI g L a b) (k : OneI g L' b c) : OneI g L' a c := ⟨h.but.trans k.but, h.lt, k.cell⟩
theorem OneI.stands {g : Nat} {L : Int} {w0 w : World} (h : OneI g L w0 w) : Stands w0 (fun x => x ≠ g) w (fun x => x ≠ g) := Stands.but h.but (fun _ h => h)
def FewPost (n c g : Nat) (L : Int) (w : World) (r : Ending) (w' : World) : Prop := ∃ (b : Bool) (L' : Int), r = .returned (.bool b) ∧ OneI g L' w w' ∧ L' ≤ 400 ∧ (b = true → L' = L - n ∧ 0 ≤ L' ∧ c + 200 ≤ 3300 * n)
/-- 'few', of values no greater than N. -/
def FewC (N : Nat) : Prop := ∀ (x : Vl.Z), x.n ≤ N → x.fits → ∀ (a1 a2 : Option Addr) (c1 c2 : Nat) (w : World) (g : Nat) (L deep : Int), 0 ≤ L → L ≤ 400 → w.heap[g]? = some (.cells #[.int .i64 L] 3 (0, 0)) →
  Reads w (fun k => k ≠ g) x.d (zcells x a1 a2 c1 c2).toList →
  Calls Tryz.prog 31 #[.agg (zcells x a1 a2 c1 c2), .pointer (some ⟨g, 0, none⟩), .int .i64 deep] w
    (FewPost x.vals x.cost g L w)
theorem fz_of {w : World} {b : Nat} {cs : Array Value} {T : TypeId} (h : w.heap[b]? = some (.cells cs T (0, 0))) (k : Nat) : w.frozen? ⟨b, k, none⟩ = false := by
  simp [World.frozen?, h]
set_option maxHeartbeats 2000000 in
set_option maxRecDepth 100000 in
theorem few_step (N : Nat) (IH : FewC N) : FewC (N + 1) := by
  intro x hN hfit a1 a2 c1 c2 w g L deep hL0 hL4 hg hR
  obtain ⟨x1, x2, x3, x4, ex, hxi, hxf⟩ := Z_open hR
  have ex' : zcells x a1 a2 c1 c2 = zcells x x1 x2 x3 x4 := by simpa [zcells] using congrArg List.toArray ex
  obtain ⟨rfl, rfl, rfl, rfl⟩ : a1 = x1 ∧ c1 = x3 ∧ a2 = x2 ∧ c2 = x4 := by simpa [zcells, and_assoc] using ex'
  clear ex ex' hR
  unfold zcells
  have hn := Vl.Z.n_eq x
  rw [Vl.Z.fits_eq] at hfit
  obtain ⟨-, hft, hfi, hff, hfis, hffs⟩ := hfit
  unfold maxLen at hft hfi hff
  have hgl : g < w.heap.size := block_lt hg
  obtain ⟨wb, hwb⟩ : ∃ q, q = w.alloc (.cells #[.int .i64 x.kind, .string ⟨x.text.toArray⟩, .slice a1 x.items.length c1, .slice a2 x.fields.length c2, .int .i64 x.at_] 25) := ⟨_, rfl⟩
  have hgb : wb.heap[g]? = some (.cells #[.int .i64 L] 3 (0, 0)) := by rw [hwb, Lib.alloc_old _ _ _ hgl]; exact hg
  obtain ⟨ws, hws⟩ : ∃ q, q = w.setCell ⟨g, 0, none⟩ (.int .i64 (L - 1)) := ⟨_, rfl⟩
  have hss : ws.heap.size = w.heap.size := by rw [hws, size_set]
  have hgs : ws.heap[g]? = some (.cells #[.int .i64 (L - 1)] 3 (0, 0)) := by rw [hws]; exact heap_set1 hg
  obtain ⟨w1, hw1⟩ : ∃ q, q = ws.alloc (.cells #[.int .i64 x.kind, .string ⟨x.text.toArray⟩, .slice a1 x.items.length c1, .slice a2 x.fields.length c2, .int .i64 x.at_] 25) := ⟨_, rfl⟩
  have hg1 : w1.heap[g]? = some (.cells #[.int .i64 (L - 1)] 3 (0, 0)) := by rw [hw1, Lib.alloc_old _ _ _ (by omega)]; exact hgs
  have hX1 : w1.heap[w.heap.size]? = some (.cells #[.int .i64 x.kind, .string ⟨x.text.toArray⟩, .slice a1 x.items.length c1, .slice a2 x.fields.length c2, .int .i64 x.at_] 25 (0, 0)) := by rw [hw1, ← hss]; exact heap_at_new _ _
  have hO1 : OneI g (L - 1) w w1 := by
    refine ⟨?_, hgl, hg1⟩
    rw [hw1, hws]
    exact But.alloc (But.setCell (X := fun x => x = g) (But.refl _ _) (p := ⟨g, 0, none⟩) (.inl rfl) _) _
  have f0 := blk_cell hgb 0 (.int .i64 L) rfl
  have f1 := fz_of hgb 0
  have f2 := blk_cell hg1 0 (.int .i64 (L - 1)) rfl
  have f3 := blk_cell hX1 1 (.string ⟨x.text.toArray⟩) rfl
  have f4 := blk_cell hX1 2 (.slice a1 x.items.length c1) rfl
  have f5 := blk_cell hX1 3 (.slice a2 x.fields.length c2) rfl
  have hs1 : w1.heap.size = w.heap.size + 1 := by rw [hw1, ← hss]; simp
  have hst : Stands w (fun k => k ≠ g) w1 (fun k => k ≠ g) := hO1.stands
  have HXI := Lib.hid (hxi.to hst)
  have HXF := Lib.hid (hxf.to hst)
  have HO1 := Lib.hid hO1
  have HX1 := Lib.hid hX1
  have HNF : Hid (∀ z ∈ x.fields, z.v.n ≤ N ∧ z.fits) := Lib.hid (fun z hz => ⟨by have := Vl.ZA.ns_mem hz; have := Vl.ZA.n_eq z; omega, Vl.ZA.fitss_mem hffs z hz⟩)
  have HNI : Hid (∀ z ∈ x.items, z.n ≤ N ∧ z.fits) := Lib.hid (fun z hz => ⟨by have := Vl.Z.ns_mem hz; omega, Vl.Z.fitss_mem hfis z hz⟩)
  have HIH := Lib.hid IH
  have HVS := Lib.hid (Vl.Z.vals_eq x)
  have HCE := Lib.hid (Vl.Z.cost_eq x)
  have HW1 := Lib.hid hw1
  rw [hw1] at f2 f3 f4 f5 HO1
  rw [hws] at f2 f3 f4 f5 HO1 HW1
  rw [hwb] at f0 f1
  have hgne : g ≠ w.heap.size := by omega
  clear hxi hxf IH hn hg hgb hgs hss hg1 hX1 hO1 hst hwb hws hw1 hfis hffs
  have hL1 : -1 ≤ L - 1 := by omega
  go_enter Tryz.func31, Tryz.ntmps31
  by_cases h1 : L - 1 < 0
  · have e1 : decide ((L - 1 : Int) < 0) = true := decide_eq_true (by omega)
    clear h1
    go_wp2_with fail
    go_ret
    exact ⟨false, L - 1, rfl, HO1.out, by omega, fun h => by cases h⟩
  have e1 : decide ((L - 1 : Int) < 0) = false := decide_eq_false (by omega)
  by_cases h2 : 20 < deep
  · have e2 : decide ((20 : Int) < deep) = true := decide_eq_true (by omega)
    clear h2
    go_wp2_with fail
    go_ret
    exact ⟨false, L - 1, rfl, HO1.out, by omega, fun h => by cases h⟩
  have e2 : decide ((20 : Int) < deep) = false := decide_eq_false (by omega)
  by_cases h3 : 500 < x.text.length
  · have e3 : decide ((500 : Int) < (x.text.length : Int)) = true := decide_eq_true (by omega)
    clear h3
    go_wp2_with fail
    go_ret
    exact ⟨false, L - 1, rfl, HO1.out, by omega, fun h => by cases h⟩
  have e3 : decide ((500 : Int) < (x.text.length : Int)) = false := decide_eq_false (by omega)
  by_cases h4 : 300 < x.items.length
  · have e4 : decide ((300 : Int) < (x.items.length : Int)) = true := decide_eq_true (by omega)
    clear h4
    go_wp2_with fail
    go_ret
    exact ⟨false, L - 1, rfl, HO1.out, by omega, fun h => by cases h⟩
  have e4 : decide ((300 : Int) < (x.items.length : Int)) = false := decide_eq_false (by omega)
  by_cases h5 : 300 < x.fields.length
  · have e5 : decide ((300 : Int) < (x.fields.length : Int)) = true := decide_eq_true (by omega)
    clear h5
    go_wp2_with fail
    go_ret
    exact ⟨false, L - 1, rfl, HO1.out, by omega, fun h => by cases h⟩
  have e5 : decide ((300 : Int) < (x.fields.length : Int)) = false := decide_eq_false (by omega)
  go_wp2_with fail
  rw [← HW1.out]
  rw [← HW1.out] at HO1
  clear f0 f1 f2 f3 f4 f5
  go_loopg [43] (x.items.length + 1) (fun k i wr => ∃ (j : Nat) (Lr : Int), k = x.items.length + 1 - j ∧ j ≤ x.items.length ∧ i = .int .i64 j ∧ (Lr = L - 1 - Vl.Z.valss x.items + Vl.Z.valss (x.items.drop j) ∧ Vl.Z.costs x.items + 3300 * Vl.Z.valss (x.items.drop j) ≤ 3300 * Vl.Z.valss x.items + Vl.Z.costs (x.items.drop j)) ∧ 0 ≤ Lr ∧ OneI g Lr w1 wr)
  case atStart => exact ⟨0, L - 1, rfl, Nat.zero_le _, rfl, by rw [List.drop_zero]; omega, by omega, But.refl _ _, by omega, HO1.out.cell⟩
  case round =>
    obtain ⟨j, Lr, hk, hj, rfl, hLr, hLr0, ho⟩ := hrel
    have HK := Lib.hid hk
    have HLR := Lib.hid hLr
    have HO := Lib.hid ho
    have HX2 : Hid (wr.heap[w.heap.size]? = _) := Lib.hid ((ho.but.block w.heap.size (by omega) (fun e => hgne e.symm)).trans HX1.out)
    have HOW := Lib.hid (HO1.out.trans ho)
    clear hk hLr ho
    by_cases hjl : j < x.items.length
    · have e6 : decide (j < x.items.length) = true := decide_eq_true hjl
      obtain ⟨p, hp⟩ : ∃ z, x.items[j]? = some z := ⟨x.items[j], List.getElem?_eq_getElem hjl⟩
      have hdx : x.items.drop j = p :: x.items.drop (j + 1) := by rw [List.drop_eq_getElem_cons hjl]; rw [List.getElem?_eq_getElem hjl] at hp; rw [Option.some.inj hp]
      have HL2 : Hid (Lr = L - 1 - Vl.Z.valss x.items + (p.vals + Vl.Z.valss (x.items.drop (j + 1)) : Nat) ∧ Vl.Z.costs x.items + 3300 * (p.vals + Vl.Z.valss (x.items.drop (j + 1))) ≤ 3300 * Vl.Z.valss x.items + (2 + p.cost + Vl.Z.costs (x.items.drop (j + 1)))) := by have := HLR.out; rw [hdx, Vl.Z.valss, Vl.Z.costs] at this; exact Lib.hid this
      obtain ⟨hpn, hpf⟩ := HNI.out p (List.mem_of_getElem? hp)
      obtain ⟨gi, o, cs, ha, hgx, hgl, hlen, hcell, hd⟩ := HXI.out.el j p.d (by rw [List.getElem?_map, hp]; rfl)
      obtain ⟨p1, p2, u1, u2, rfl, -, -⟩ := Z_open hd
      have k0 : wr.cell? ⟨gi, o + j * 5, none⟩ = _ := (HO.out.but.cell (p := ⟨gi, o + j * 5, none⟩) hgl hgx).trans (hcell 0 _ rfl)
      have k1 : wr.cell? ⟨gi, o + j * 5 + 1, none⟩ = _ := (HO.out.but.cell (p := ⟨gi, o + j * 5 + 1, none⟩) hgl hgx).trans (hcell 1 _ rfl)
      have k2 : wr.cell? ⟨gi, o + j * 5 + 2, none⟩ = _ := (HO.out.but.cell (p := ⟨gi, o + j * 5 + 2, none⟩) hgl hgx).trans (hcell 2 _ rfl)
      have k3 : wr.cell? ⟨gi, o + j * 5 + 3, none⟩ = _ := (HO.out.but.cell (p := ⟨gi, o + j * 5 + 3, none⟩) hgl hgx).trans (hcell 3 _ rfl)
      have k4 : wr.cell? ⟨gi, o + j * 5 + 4, none⟩ = _ := (HO.out.but.cell (p := ⟨gi, o + j * 5 + 4, none⟩) hgl hgx).trans (hcell 4 _ rfl)
      have z1 := blk_cell HX2.out 2 (.slice a1 x.items.length c1) rfl
      subst ha
      have hLr4 : Lr ≤ 400 := by have := HL2.out.1; have h2 := congrArg Vl.Z.valss hdx; rw [Vl.Z.valss] at h2; have h3 : Vl.Z.valss (x.items.drop j) ≤ Vl.Z.valss x.items := Vl.valss_drop _ _; omega
      have HCALL := Lib.hid (fun d => HIH.out p hpn hpf p1 p2 u1 u2 wr g Lr d hLr0 hLr4 HO.out.cell (hd.to HO.out.stands))
      unfold zcells at HCALL
      clear hp hdx hlen hcell hd hpn hpf HLR
      go_wp2_with fail
      refine (HCALL.out _).mono ?_
      rintro r w2 ⟨b, L', rfl, ho2, hL'4, hb⟩
      have HB := Lib.hid hb
      have HO2 := Lib.hid (HO.out.trans ho2)
      have HOW2 := Lib.hid (HOW.out.trans ho2)
      clear hb ho2 k0 k1 k2 k3 k4 z1 HCALL
      cases b
      · go_wp2_with fail
        go_ret
        exact ⟨false, L', rfl, HOW2.out, hL'4, fun h => by cases h⟩
      · go_wp2_with fail
        go_roundg (x.items.length + 1 - (j + 1))
        case measure => rw [HK.out]; omega
        case rel => exact ⟨j + 1, L', rfl, hjl, by go_num, by have := HL2.out; have := HB.out (by trivial); omega, (HB.out (by trivial)).2.1, HO2.out⟩
    · have e6 : decide (j < x.items.length) = false := decide_eq_false hjl
      have HL2 : Hid (Lr = L - 1 - Vl.Z.valss x.items ∧ Vl.Z.costs x.items ≤ 3300 * Vl.Z.valss x.items) := by
        have := HLR.out
        rw [List.drop_eq_nil_of_le (by omega), Vl.Z.valss, Vl.Z.costs] at this
        exact Lib.hid (by omega)
      have z2 := blk_cell HX2.out 3 (.slice a2 x.fields.length c2) rfl
      have HXF2 := Lib.hid (HXF.out.to HO.out.stands)
      have hszr := HO.out.but.size
      clear HLR
      go_wp2_with fail
      clear z2
      obtain ⟨wq, hwq⟩ : ∃ q, q = wr := ⟨_, rfl⟩
      rw [← hwq]
      rw [← hwq] at HX2 HOW HXF2 hszr HO
      clear hwq
      go_loopg [60] (x.fields.length + 1) (fun k i wr => ∃ (j : Nat) (Lf : Int), k = x.fields.length + 1 - j ∧ j ≤ x.fields.length ∧ i = .int .i64 j ∧ (Lf = Lr - Vl.ZA.valss x.fields + Vl.ZA.valss (x.fields.drop j) ∧ Vl.ZA.costs x.fields + 3300 * Vl.ZA.valss (x.fields.drop j) ≤ 3300 * Vl.ZA.valss x.fields + Vl.ZA.costs (x.fields.drop j)) ∧ 0 ≤ Lf ∧ OneI g Lf wq wr)
      case atStart => exact ⟨0, Lr, rfl, Nat.zero_le _, rfl, by rw [List.drop_zero]; omega, hLr0, But.refl _ _, by omega, HOW.out.cell⟩
      case round =>
        obtain ⟨j, Lf, hk, hj, rfl, hLf, hLf0, ho⟩ := hrel
        have HK2 := Lib.hid hk
        have HLF := Lib.hid hLf
        have HP := Lib.hid ho
        have HX3 : Hid (wr.heap[w.heap.size]? = _) := Lib.hid ((ho.but.block w.heap.size (by omega) (fun e => hgne e.symm)).trans HX2.out)
        have HPW := Lib.hid (HOW.out.trans ho)
        clear hk hLf ho
        by_cases hjl : j < x.fields.length
        · have e7 : decide (j < x.fields.length) = true := decide_eq_true hjl
          obtain ⟨p, hp⟩ : ∃ z, x.fields[j]? = some z := ⟨x.fields[j], List.getElem?_eq_getElem hjl⟩
          have hdx : x.fields.drop j = p :: x.fields.drop (j + 1) := by rw [List.drop_eq_getElem_cons hjl]; rw [List.getElem?_eq_getElem hjl] at hp; rw [Option.some.inj hp]
          have HL3 : Hid (Lf = Lr - Vl.ZA.valss x.fields + (p.v.vals + Vl.ZA.valss (x.fields.drop (j + 1)) : Nat) ∧ Vl.ZA.costs x.fields + 3300 * (p.v.vals + Vl.ZA.valss (x.fields.drop (j + 1))) ≤ 3300 * Vl.ZA.valss x.fields + (2 + (2 + p.name.length + p.v.cost) + Vl.ZA.costs (x.fields.drop (j + 1)))) := by have := HLF.out; rw [hdx, Vl.ZA.valss_cons, Vl.ZA.costs, Vl.ZA.cost_eq] at this; exact Lib.hid this
          obtain ⟨hpn, hpf⟩ := HNF.out p (List.mem_of_getElem? hp)
          rw [Vl.ZA.fits_eq] at hpf
          obtain ⟨gi, o, cs, ha, hgx, hgl, hlen, hcell, hd⟩ := HXF2.out.el j p.d (by rw [List.getElem?_map, hp]; rfl)
          obtain ⟨p1, p2, u1, u2, rfl, hdv⟩ := ZA_open hd
          have k0 : wr.cell? ⟨gi, o + j * 7, none⟩ = _ := (HP.out.but.cell (p := ⟨gi, o + j * 7, none⟩) hgl hgx).trans (hcell 0 _ rfl)
          have k1 : wr.cell? ⟨gi, o + j * 7 + 1, none⟩ = _ := (HP.out.but.cell (p := ⟨gi, o + j * 7 + 1, none⟩) hgl hgx).trans (hcell 1 _ rfl)
          have k2 : wr.cell? ⟨gi, o + j * 7 + 2, none⟩ = _ := (HP.out.but.cell (p := ⟨gi, o + j * 7 + 2, none⟩) hgl hgx).trans (hcell 2 _ rfl)
          have k3 : wr.cell? ⟨gi, o + j * 7 + 3, none⟩ = _ := (HP.out.but.cell (p := ⟨gi, o + j * 7 + 3, none⟩) hgl hgx).trans (hcell 3 _ rfl)
          have k4 : wr.cell? ⟨gi, o + j * 7 + 4, none⟩ = _ := (HP.out.but.cell (p := ⟨gi, o + j * 7 + 4, none⟩) hgl hgx).trans (hcell 4 _ rfl)
          have k5 : wr.cell? ⟨gi, o + j * 7 + 5, none⟩ = _ := (HP.out.but.cell (p := ⟨gi, o + j * 7 + 5, none⟩) hgl hgx).trans (hcell 5 _ rfl)
          have k6 : wr.cell? ⟨gi, o + j * 7 + 6, none⟩ = _ := (HP.out.but.cell (p := ⟨gi, o + j * 7 + 6, none⟩) hgl hgx).trans (hcell 6 _ rfl)
          have z1 := blk_cell HX3.out 3 (.slice a2 x.fields.length c2) rfl
          subst ha
          have hLf4 : Lf ≤ 400 := by have := HL3.out.1; have := HL2.out.1; have h2 := congrArg Vl.ZA.valss hdx; rw [Vl.ZA.valss_cons] at h2; have h3 : Vl.ZA.valss (x.fields.drop j) ≤ Vl.ZA.valss x.fields := Vl.valssA_drop _ _; omega
          have HCALL := Lib.hid (fun d => HIH.out p.v hpn hpf.2 p1 p2 u1 u2 wr g Lf d hLf0 hLf4 HP.out.cell (hdv.to HP.out.stands))
          have hpl := hpf.1
          unfold maxLen at hpl
          unfold zcells at HCALL
          clear hp hdx hlen hcell hd hdv hpn hpf HLF
          by_cases hnm : 100 < p.name.length
          · have e8 : decide ((100 : Int) < (p.name.length : Int)) = true := decide_eq_true (by omega)
            go_wp2_with fail
            go_ret
            exact ⟨false, Lf, rfl, HPW.out, hLf4, fun h => by cases h⟩
          have e8 : decide ((100 : Int) < (p.name.length : Int)) = false := decide_eq_false (by omega)
          go_wp2_with fail
          refine (HCALL.out _).mono ?_
          rintro r w2 ⟨b, L', rfl, ho2, hL'4, hb⟩
          have HB := Lib.hid hb
          have HP2 := Lib.hid (HP.out.trans ho2)
          have HPW2 := Lib.hid (HPW.out.trans ho2)
          clear hb ho2 k0 k1 k2 k3 k4 k5 k6 z1 HCALL
          cases b
          · go_wp2_with fail
            go_ret
            exact ⟨false, L', rfl, HPW2.out, hL'4, fun h => by cases h⟩
          · go_wp2_with fail
            go_roundg (x.fields.length + 1 - (j + 1))
            case measure => rw [HK2.out]; omega
            case rel => exact ⟨j + 1, L', rfl, hjl, by go_num, by have := HL3.out; have := HB.out (by trivial); omega, (HB.out (by trivial)).2.1, HP2.out⟩
        · have e7 : decide (j < x.fields.length) = false := decide_eq_false hjl
          have hLf4 : Lf = L - x.vals ∧ x.cost + 200 ≤ 3300 * x.vals := by
            have := HLF.out
            rw [List.drop_eq_nil_of_le (by omega), Vl.ZA.valss, Vl.ZA.costs] at this
            have h1 := HL2.out
            have h2 := HVS.out
            have h3 := HCE.out
            omega
          go_wp2_with fail
          go_ret
          exact ⟨true, Lf, rfl, HPW.out, by omega, fun _ => ⟨hLf4.1, hLf0, hLf4.2⟩⟩
theorem below_one {w w1 w2 : World} {g : Nat} {L : Int} (hb : Below w.heap.size w w1) (ho : OneI g L w1 w2) (hg : w.heap.size ≤ g) : Below w.heap.size w w2 :=
  ⟨ho.but.os.trans hb.os, ho.but.tape.trans hb.tape, ho.but.output.trans hb.output, Nat.le_trans hb.size ho.but.size, fun k hk => (ho.but.block k (by have := hb.size; omega) (fun e => by have e : k = g := e; omega)).trans (hb.block k hk)⟩
theorem few_all : ∀ N : Nat, FewC N
  | 0 => fun x hN => by have := Vl.Z.n_pos x; omega
  | N + 1 => few_step N (few_all N)
set_option maxRecDepth 100000 in
/-- 'Few' lets by what has at most 400 values. -/
theorem few_any (x : Vl.Z) (hfit : x.fits) (a1 a2 : Option Addr) (c1 c2 : Nat) (w : World) (hR : Reads w (fun _ => True) x.d (zcells x a1 a2 c1 c2).toList) :
    Calls Tryz.prog 9 #[.agg (zcells x a1 a2 c1 c2)] w (fun r w' => ∃ b : Bool, r = .returned (.bool b) ∧ Below w.heap.size w w' ∧ (b = true → x.vals ≤ 400 ∧ x.cost ≤ 3300 * 400)) := by
  obtain ⟨wb, hwb⟩ : ∃ q, q = w.alloc (.cells (zcells x a1 a2 c1 c2) 25) := ⟨_, rfl⟩
  have hbb : Below w.heap.size w wb := by rw [hwb]; exact (Below.refl _ _).alloc (Nat.le_refl _) _
  obtain ⟨w1, hw1⟩ : ∃ q, q = wb.alloc (.cells #[.int .i64 400] 3) := ⟨_, rfl⟩
  have hb1 : Below w.heap.size w w1 := by rw [hw1]; exact hbb.alloc hbb.size _
  have hs : wb.heap.size = w.heap.size + 1 := by rw [hwb]; simp
  have hg : w1.heap[w.heap.size + 1]? = some (.cells #[.int .i64 400] 3 (0, 0)) := by rw [hw1, ← hs]; exact heap_at_new _ _
  have hR1 : Reads w1 (fun k => k ≠ w.heap.size + 1) x.d (zcells x a1 a2 c1 c2).toList := (hR.to (Stands.sub _ (Q := fun k => k < w.heap.size) (fun g hg _ => hg))).to ⟨hb1.size, fun g hg hp => ⟨by show g ≠ _; omega, hb1.block g hg⟩⟩
  have HC := Lib.hid (few_all x.n x (Nat.le_refl _) hfit a1 a2 c1 c2 w1 (w.heap.size + 1) 400 0 (by omega) (by omega) hg hR1)
  have HB1 := Lib.hid hb1
  have HW1 := Lib.hid (hw1.trans (by rw [hwb]))
  rw [HW1.out] at HC
  unfold zcells at HC HW1 ⊢
  clear hw1 hwb hbb hb1 hs hg hR1 hR
  go_enter Tryz.func9, Tryz.ntmps9
  go_wp2_with fail
  refine HC.out.mono ?_
  rintro r w2 ⟨b, L', rfl, ho, -, hb⟩
  have hle : b = true → x.vals ≤ 400 ∧ x.cost ≤ 3300 * 400 := fun h => by have := hb h; omega
  rw [← HW1.out] at ho
  have HB2 := Lib.hid (below_one HB1.out ho (by omega))
  clear ho hb
  go_wp2_with fail
  go_ret
  exact ⟨b, rfl, HB2.out, hle⟩
end Go.Proofs.YtefjgpkpplkkgaaGreatDoor
namespace Go.Proofs.YtefjgpkpplkkgaaGreatDoor
set_option linter.unusedSimpArgs false
set_option linter.unusedVariables false
open Go Go.RowKit

/-- 'Show', of good values no greater than N. -/
def ShowC (N : Nat) : Prop := ∀ (z : Vl.Z), z.n ≤ N → z.cost ≤ 1500000 → ∀ (deep : Nat), z.good deep = true → ∀ (a1 a2 : Option Addr) (c1 c2 : Nat) (w : World) (P : Nat → Prop),
  Reads w P z.d [.int .i64 z.kind, .string ⟨z.text.toArray⟩, .slice a1 z.items.length c1, .slice a2 z.fields.length c2, .int .i64 z.at_] →
  Calls Tryz.prog 12 #[.agg #[.int .i64 z.kind, .string ⟨z.text.toArray⟩, .slice a1 z.items.length c1, .slice a2 z.fields.length c2, .int .i64 z.at_]] w (fun r w' => r = .returned (.string ⟨z.str.toArray⟩) ∧ Below w.heap.size w w')
theorem below_box2 (w : World) (cs : Array Value) (T : TypeId) : Below w.heap.size w (w.alloc (.cells cs T)) := (Below.refl _ _).alloc (Nat.le_refl _) _
theorem bytes_of {a : ByteArray} {l : List UInt8} (h : a.data.toList = l) : a = ⟨l.toArray⟩ := by subst h; cases a; simp
set_option maxHeartbeats 2000000 in
set_option maxRecDepth 100000 in
theorem rsLeaf1 (z : Vl.Z) (hc : z.cost ≤ 1500000) (deep : Nat) (hg : z.good deep = true) (a1 a2 : Option Addr) (c1 c2 : Nat) (w : World) (hk : z.kind = 1) :
    Calls Tryz.prog 12 #[.agg #[.int .i64 z.kind, .string ⟨z.text.toArray⟩, .slice a1 z.items.length c1, .slice a2 z.fields.length c2, .int .i64 z.at_]] w (fun r w' => r = .returned (.string ⟨z.str.toArray⟩) ∧ Below w.heap.size w w') := by
  have hcost := Vl.Z.cost_eq z
  have hz : z.text.length ≤ 250000 := by omega
  have HB := Lib.hid (below_box2 w #[.int .i64 z.kind, .string ⟨z.text.toArray⟩, .slice a1 z.items.length c1, .slice a2 z.fields.length c2, .int .i64 z.at_] 25)
  have q1 : (z.kind == 1) = true := by rw [beq_iff_eq]; exact hk
  have q2 : (z.kind == 2) = false := by rw [beq_eq_false_iff_ne]; omega
  have q3 : (z.kind == 3) = false := by rw [beq_eq_false_iff_ne]; omega
  have q4 : (z.kind == 4) = false := by rw [beq_eq_false_iff_ne]; omega
  have q5 : (z.kind == 5) = false := by rw [beq_eq_false_iff_ne]; omega
  have q6 : (z.kind == 6) = false := by rw [beq_eq_false_iff_ne]; omega
  have q7 : (z.kind == 7) = false := by rw [beq_eq_false_iff_ne]; omega
  have q8 : (z.kind == 8) = false := by rw [beq_eq_false_iff_ne]; omega
  have q9 : (z.kind == 9) = false := by rw [beq_eq_false_iff_ne]; omega
  have HS : Hid (z.str = 36 :: z.text) := Lib.hid (by
    rw [Vl.Z.str_eq, if_neg (by unfold Vl.many; omega)]
    unfold Vl.leaf
    rw [hk]; rfl)
  clear hk hg
  go_enter Tryz.func12, Tryz.ntmps12
  go_wp2_with fail
  go_ret
  refine ⟨?_, HB.out⟩
  rw [HS.out]
  exact congrArg (fun q => Ending.returned (.string q)) (vdollar z.text)
set_option maxHeartbeats 2000000 in
set_option maxRecDepth 100000 in
theorem rsLeaf4 (z : Vl.Z) (hc : z.cost ≤ 1500000) (deep : Nat) (hg : z.good deep = true) (a1 a2 : Option Addr) (c1 c2 : Nat) (w : World) (hk : z.kind = 4) :
    Calls Tryz.prog 12 #[.agg #[.int .i64 z.kind, .string ⟨z.text.toArray⟩, .slice a1 z.items.length c1, .slice a2 z.fields.length c2, .int .i64 z.at_]] w (fun r w' => r = .returned (.string ⟨z.str.toArray⟩) ∧ Below w.heap.size w w') := by
  have hcost := Vl.Z.cost_eq z
  have hz : z.text.length ≤ 250000 := by omega
  have HB := Lib.hid (below_box2 w #[.int .i64 z.kind, .string ⟨z.text.toArray⟩, .slice a1 z.items.length c1, .slice a2 z.fields.length c2, .int .i64 z.at_] 25)
  have q1 : (z.kind == 1) = false := by rw [beq_eq_false_iff_ne]; omega
  have q2 : (z.kind == 2) = false := by rw [beq_eq_false_iff_ne]; omega
  have q3 : (z.kind == 3) = false := by rw [beq_eq_false_iff_ne]; omega
  have q4 : (z.kind == 4) = true := by rw [beq_iff_eq]; exact hk
  have q5 : (z.kind == 5) = false := by rw [beq_eq_false_iff_ne]; omega
  have q6 : (z.kind == 6) = false := by rw [beq_eq_false_iff_ne]; omega
  have q7 : (z.kind == 7) = false := by rw [beq_eq_false_iff_ne]; omega
  have q8 : (z.kind == 8) = false := by rw [beq_eq_false_iff_ne]; omega
  have q9 : (z.kind == 9) = false := by rw [beq_eq_false_iff_ne]; omega
  have HS : Hid (z.str = Vl.quoteOf z.text) := Lib.hid (by
    rw [Vl.Z.str_eq, if_neg (by unfold Vl.many; omega)]
    unfold Vl.leaf
    rw [hk]; rfl)
  have hv : Lx.valid z.text = true := by
    rw [Vl.Z.good_eq, Bool.and_eq_true, if_pos (by omega), hk] at hg
    exact hg.2
  have HQ : Hid (Vl.quoteOf z.text = Lx.quote z.text) := Lib.hid (by unfold Vl.quoteOf; rw [if_pos hv])
  have HV := Lib.hid hv
  clear hk hg hv
  go_enter Tryz.func12, Tryz.ntmps12
  go_wp2_with fail
  refine (refQuote_any ⟨z.text.toArray⟩ _ (by show z.text.length ≤ _; omega)).mono ?_
  rintro e w1 ⟨⟨n, hw⟩, hres⟩
  have hv2 : Lx.valid (⟨z.text.toArray⟩ : ByteArray).data.toList = true := HV.out
  rw [hv2] at hres
  rcases hres with ⟨-, rfl⟩ | ⟨h, -⟩
  rotate_left
  · cases h
  have HB1 : Hid (Below w.heap.size w w1) := by rw [hw]; exact Lib.hid (Below.drewN HB.out n)
  clear hw hv2
  go_wp2_with fail
  go_ret
  exact ⟨by rw [HS.out, HQ.out]; rfl, HB1.out⟩
set_option maxHeartbeats 2000000 in
set_option maxRecDepth 100000 in
theorem rsLeaf6 (z : Vl.Z) (hc : z.cost ≤ 1500000) (deep : Nat) (hg : z.good deep = true) (a1 a2 : Option Addr) (c1 c2 : Nat) (w : World) (hk : z.kind = 6) :
    Calls Tryz.prog 12 #[.agg #[.int .i64 z.kind, .string ⟨z.text.toArray⟩, .slice a1 z.items.length c1, .slice a2 z.fields.length c2, .int .i64 z.at_]] w (fun r w' => r = .returned (.string ⟨z.str.toArray⟩) ∧ Below w.heap.size w w') := by
  have hcost := Vl.Z.cost_eq z
  have hz : z.text.length ≤ 250000 := by omega
  have HB := Lib.hid (below_box2 w #[.int .i64 z.kind, .string ⟨z.text.toArray⟩, .slice a1 z.items.length c1, .slice a2 z.fields.length c2, .int .i64 z.at_] 25)
  have q1 : (z.kind == 1) = false := by rw [beq_eq_false_iff_ne]; omega
  have q2 : (z.kind == 2) = false := by rw [beq_eq_false_iff_ne]; omega
  have q3 : (z.kind == 3) = false := by rw [beq_eq_false_iff_ne]; omega
  have q4 : (z.kind == 4) = false := by rw [beq_eq_false_iff_ne]; omega
  have q5 : (z.kind == 5) = false := by rw [beq_eq_false_iff_ne]; omega
  have q6 : (z.kind == 6) = true := by rw [beq_iff_eq]; exact hk
  have q7 : (z.kind == 7) = false := by rw [beq_eq_false_iff_ne]; omega
  have q8 : (z.kind == 8) = false := by rw [beq_eq_false_iff_ne]; omega
  have q9 : (z.kind == 9) = false := by rw [beq_eq_false_iff_ne]; omega
  have HS : Hid (z.str = Rd.sNull) := Lib.hid (by
    rw [Vl.Z.str_eq, if_neg (by unfold Vl.many; omega)]
    unfold Vl.leaf
    rw [hk]; rfl)
  clear hk hg
  go_enter Tryz.func12, Tryz.ntmps12
  go_wp2_with fail
  go_ret
  exact ⟨by rw [HS.out]; rfl, HB.out⟩
set_option maxHeartbeats 2000000 in
set_option maxRecDepth 100000 in
theorem rsLeaf0 (z : Vl.Z) (hc : z.cost ≤ 1500000) (deep : Nat) (hg : z.good deep = true) (a1 a2 : Option Addr) (c1 c2 : Nat) (w : World) (hk : z.kind = 2 ∨ z.kind = 3 ∨ z.kind = 5 ∨ z.kind = 7) :
    Calls Tryz.prog 12 #[.agg #[.int .i64 z.kind, .string ⟨z.text.toArray⟩, .slice a1 z.items.length c1, .slice a2 z.fields.length c2, .int .i64 z.at_]] w (fun r w' => r = .returned (.string ⟨z.str.toArray⟩) ∧ Below w.heap.size w w') := by
  have hcost := Vl.Z.cost_eq z
  have hz : z.text.length ≤ 250000 := by omega
  have HB := Lib.hid (below_box2 w #[.int .i64 z.kind, .string ⟨z.text.toArray⟩, .slice a1 z.items.length c1, .slice a2 z.fields.length c2, .int .i64 z.at_] 25)
  have q1 : (z.kind == 1) = false := by rw [beq_eq_false_iff_ne]; omega
  have q4 : (z.kind == 4) = false := by rw [beq_eq_false_iff_ne]; omega
  have q6 : (z.kind == 6) = false := by rw [beq_eq_false_iff_ne]; omega
  have q8 : (z.kind == 8) = false := by rw [beq_eq_false_iff_ne]; omega
  have q9 : (z.kind == 9) = false := by rw [beq_eq_false_iff_ne]; omega
  have HS : Hid (z.str = z.text) := Lib.hid (by
    rw [Vl.Z.str_eq, if_neg (by unfold Vl.many; omega)]
    unfold Vl.leaf
    rcases hk with hk | hk | hk | hk <;> rw [hk] <;> rfl)
  clear hk hg
  go_enter Tryz.func12, Tryz.ntmps12
  go_wp2_with fail
  go_ret
  exact ⟨by rw [HS.out]; rfl, HB.out⟩
set_option maxHeartbeats 2000000 in
set_option maxRecDepth 100000 in
theorem rsMany8 (N : Nat) (IH : ShowC N) (z : Vl.Z) (hc : z.cost ≤ 1500000) (deep : Nat) (hg : z.good deep = true) (a1 a2 : Option Addr) (c1 c2 : Nat) (w : World) (hN : z.n ≤ N + 1) (P : Nat → Prop) (hR : Reads w P z.d [.int .i64 z.kind, .string ⟨z.text.toArray⟩, .slice a1 z.items.length c1, .slice a2 z.fields.length c2, .int .i64 z.at_]) (hk : z.kind = 8) :
    Calls Tryz.prog 12 #[.agg #[.int .i64 z.kind, .string ⟨z.text.toArray⟩, .slice a1 z.items.length c1, .slice a2 z.fields.length c2, .int .i64 z.at_]] w (fun r w' => r = .returned (.string ⟨z.str.toArray⟩) ∧ Below w.heap.size w w') := by
  have hcost := Vl.Z.cost_eq z
  have hnn := Vl.Z.n_eq z
  have hnc := Vl.Z.n_cost z
  have hl1 := Vl.Z.ns_len z.items
  have hl2 := Vl.ZA.ns_len z.fields
  obtain ⟨x1, x2, x3, x4, ex, hxi, hxf⟩ := Z_open hR
  obtain ⟨rfl, rfl, rfl, rfl⟩ : a1 = x1 ∧ c1 = x3 ∧ a2 = x2 ∧ c2 = x4 := by simpa [and_assoc] using ex
  rw [Vl.Z.good_eq, if_neg (by omega), if_pos (by unfold Vl.many; omega)] at hg
  simp only [Bool.and_eq_true] at hg
  obtain ⟨hp, -, hgi, hgf⟩ := hg
  have hE : z.fields.length = 0 := by
    unfold Vl.parts at hp
    rw [decide_eq_true (show z.kind = 8 by omega), decide_eq_false (show ¬ z.kind = 9 by omega)] at hp
    simpa using hp
  have hEn : z.fields = [] := List.length_eq_zero_iff.1 hE
  have hz : z.items.length ≤ 1500000 := by omega
  have q1 : (z.kind == 1) = false := by rw [beq_eq_false_iff_ne]; omega
  have q2 : (z.kind == 2) = false := by rw [beq_eq_false_iff_ne]; omega
  have q3 : (z.kind == 3) = false := by rw [beq_eq_false_iff_ne]; omega
  have q4 : (z.kind == 4) = false := by rw [beq_eq_false_iff_ne]; omega
  have q5 : (z.kind == 5) = false := by rw [beq_eq_false_iff_ne]; omega
  have q6 : (z.kind == 6) = false := by rw [beq_eq_false_iff_ne]; omega
  have q7 : (z.kind == 7) = false := by rw [beq_eq_false_iff_ne]; omega
  have q8 : (z.kind == 8) = true := by rw [beq_iff_eq]; exact hk
  have q9 : (z.kind == 9) = false := by rw [beq_eq_false_iff_ne]; omega
  have HS : Hid (z.str = 91 :: (Vl.Z.strs true z.items ++ [93])) := Lib.hid (by
    rw [Vl.Z.str_eq, if_pos (by unfold Vl.many; omega), hEn, hk]
    unfold Vl.opn Vl.shut
    rw [Vl.ZA.strs]; rfl)
  have HNI : Hid (∀ x ∈ z.items, x.n ≤ N ∧ x.cost ≤ 1500000 ∧ x.good (deep + 1) = true) := Lib.hid (fun x hx => by
    have h1 := Vl.Z.ns_mem hx
    have h2 := Vl.costs_in hx
    have h5 := Vl.goods_mem hgi hx
    exact ⟨by omega, by omega, h5⟩)
  have HLE : Hid (∀ j, (Vl.Z.strs true (z.items.take j)).length ≤ 1500000) := Lib.hid (fun j => by
    have h1 := Vl.strs_le true (z.items.take j)
    have h2 := Vl.costs_take z.items j
    omega)
  obtain ⟨wc, hwc⟩ : ∃ q, q = w.alloc (.cells #[.int .i64 z.kind, .string ⟨z.text.toArray⟩, .slice a1 z.items.length c1, .slice a2 z.fields.length c2, .int .i64 z.at_] 25) := ⟨_, rfl⟩
  have hbc : Below w.heap.size w wc := by rw [hwc]; exact below_box2 _ _ _
  have hx0 : wc.heap[w.heap.size]? = some (.cells #[.int .i64 z.kind, .string ⟨z.text.toArray⟩, .slice a1 z.items.length c1, .slice a2 z.fields.length c2, .int .i64 z.at_] 25 (0, 0)) := by rw [hwc]; exact heap_at_new _ _
  have HWC := Lib.hid hwc
  have HBC := Lib.hid hbc
  have HX0 := Lib.hid hx0
  have HXI := Lib.hid (hxi.to (Stands.below hbc))
  have HIH := Lib.hid IH
  clear hR ex hxi hxf hbc hwc IH hx0 hnn hnc hl1 hl2 hp hk hcost hEn hE hgi hgf
  go_enter Tryz.func12, Tryz.ntmps12
  go_wp2_with fail
  rw [← HWC.out]
  go_loopg [3, 29] (z.items.length + 1) (fun k s i wr => ∃ (j : Nat) (b : ByteArray), k = z.items.length + 1 - j ∧ j ≤ z.items.length ∧ i = .int .i64 j ∧ s = .string b ∧ b.data.toList = Vl.Z.strs true (z.items.take j) ∧ Below wc.heap.size wc wr)
  case atStart => exact ⟨0, ⟨#[]⟩, rfl, Nat.zero_le _, rfl, rfl, by rw [List.take_zero, Vl.Z.strs], Below.refl _ _⟩
  case round =>
    obtain ⟨j, b, hk, hj, rfl, rfl, hb, hbe⟩ := hrel
    have HK := Lib.hid hk
    have HB := Lib.hid hb
    have HBE := Lib.hid hbe
    have hbs : b.size ≤ 1500000 := by have := HLE.out j; rw [← hb] at this; rwa [size_list]
    have HX2 : Hid (wr.heap[w.heap.size]? = some (.cells #[.int .i64 z.kind, .string ⟨z.text.toArray⟩, .slice a1 z.items.length c1, .slice a2 z.fields.length c2, .int .i64 z.at_] 25 (0, 0))) := Lib.hid ((hbe.block _ (block_lt HX0.out)).trans HX0.out)
    clear hk hb hbe
    by_cases hjl : j < z.items.length
    rotate_left
    · have e5 : decide (j < z.items.length) = false := decide_eq_false hjl
      have HE : Hid (b.data.toList = Vl.Z.strs true z.items) := by have := HB.out; rw [List.take_of_length_le (by omega)] at this; exact Lib.hid this
      have HB7 := Lib.hid (HBC.out.trans (HBE.out.mono HBC.out.size))
      go_wp2_with fail
      go_ret
      refine ⟨?_, HB7.out⟩
      refine congrArg (fun q => Ending.returned (.string q)) (bytes_of ?_)
      rw [HS.out, ← HE.out]
      simp
    have e5 : decide (j < z.items.length) = true := decide_eq_true hjl
    obtain ⟨p, hp⟩ : ∃ x, z.items[j]? = some x := ⟨z.items[j], List.getElem?_eq_getElem hjl⟩
    have hnp := HNI.out p (List.mem_of_getElem? hp)
    have HMO := Lib.hid (Vl.strs_more hp)
    obtain ⟨g, o, cs, ha, -, hgl, hlen, hcell, hd⟩ := HXI.out.el j p.d (by rw [List.getElem?_map, hp]; rfl)
    obtain ⟨p1, p2, u1, u2, rfl, -, -⟩ := Z_open hd
    have k0 : wr.cell? ⟨g, o + j * 5, none⟩ = _ := (HBE.out.cell (p := ⟨g, o + j * 5, none⟩) hgl).trans (hcell 0 _ rfl)
    have k1 : wr.cell? ⟨g, o + j * 5 + 1, none⟩ = _ := (HBE.out.cell (p := ⟨g, o + j * 5 + 1, none⟩) hgl).trans (hcell 1 _ rfl)
    have k2 : wr.cell? ⟨g, o + j * 5 + 2, none⟩ = _ := (HBE.out.cell (p := ⟨g, o + j * 5 + 2, none⟩) hgl).trans (hcell 2 _ rfl)
    have k3 : wr.cell? ⟨g, o + j * 5 + 3, none⟩ = _ := (HBE.out.cell (p := ⟨g, o + j * 5 + 3, none⟩) hgl).trans (hcell 3 _ rfl)
    have k4 : wr.cell? ⟨g, o + j * 5 + 4, none⟩ = _ := (HBE.out.cell (p := ⟨g, o + j * 5 + 4, none⟩) hgl).trans (hcell 4 _ rfl)
    have z1 : wr.cell? ⟨w.heap.size, 2, none⟩ = some (.slice a1 z.items.length c1) := blk_cell HX2.out 2 _ rfl
    subst ha
    have HCALL := Lib.hid (HIH.out p hnp.1 hnp.2.1 (deep + 1) hnp.2.2 p1 p2 u1 u2 wr P (hd.to (Stands.below HBE.out)))
    have hps : p.str.length ≤ 1500000 := by have := Vl.str_le p; have := hnp.2.1; omega
    obtain ⟨q, hq⟩ : ∃ q : ByteArray, q = ⟨p.str.toArray⟩ := ⟨_, rfl⟩
    have hqs : q.size ≤ 1500000 := by rw [hq]; exact hps
    have HQ : Hid (q.data.toList = p.str) := Lib.hid (by rw [hq])
    rw [← hq] at HCALL
    have HNX : Hid (∀ x : ByteArray, x.data.toList = b.data.toList ++ (Vl.gp (decide (j = 0)) ++ q.data.toList) → x.data.toList = Vl.Z.strs true (z.items.take (j + 1))) := Lib.hid (fun x h => by rw [h, HB.out, HQ.out, HMO.out])
    clear hp hlen hcell hd hnp hq hps
    by_cases h0 : j = 0
    · have e6 : decide ((0 : Int) < (j : Int)) = false := decide_eq_false (by omega)
      have e7 : decide (0 < j) = false := decide_eq_false (by omega)
      have HJ0 := Lib.hid h0
      clear h0
      go_wp2_with fail
      refine HCALL.out.mono ?_
      rintro e w6 ⟨rfl, hb6⟩
      have HB6 := Lib.hid (HBE.out.trans (hb6.mono HBE.out.size))
      clear hb6 k0 k1 k2 k3 k4 z1 HCALL
      go_wp2_with fail
      go_roundg (z.items.length + 1 - (j + 1))
      case measure => rw [HK.out]; omega
      case rel => exact ⟨j + 1, _, rfl, hjl, by go_num, rfl, HNX.out _ (by simp [Vl.gp, HJ0.out]), HB6.out⟩
    · have e6 : decide ((0 : Int) < (j : Int)) = true := decide_eq_true (by omega)
      have e7 : decide (0 < j) = true := decide_eq_true (by omega)
      go_wp2_with fail
      refine HCALL.out.mono ?_
      rintro e w6 ⟨rfl, hb6⟩
      have HB6 := Lib.hid (HBE.out.trans (hb6.mono HBE.out.size))
      clear hb6 k0 k1 k2 k3 k4 z1 HCALL
      go_wp2_with fail
      go_roundg (z.items.length + 1 - (j + 1))
      case measure => rw [HK.out]; omega
      case rel => exact ⟨j + 1, _, rfl, hjl, by go_num, rfl, HNX.out _ (by simp [Vl.gp, h0]), HB6.out⟩
set_option maxHeartbeats 2000000 in
set_option maxRecDepth 100000 in
theorem rsMany9 (N : Nat) (IH : ShowC N) (z : Vl.Z) (hc : z.cost ≤ 1500000) (deep : Nat) (hg : z.good deep = true) (a1 a2 : Option Addr) (c1 c2 : Nat) (w : World) (hN : z.n ≤ N + 1) (P : Nat → Prop) (hR : Reads w P z.d [.int .i64 z.kind, .string ⟨z.text.toArray⟩, .slice a1 z.items.length c1, .slice a2 z.fields.length c2, .int .i64 z.at_]) (hk : z.kind = 9) :
    Calls Tryz.prog 12 #[.agg #[.int .i64 z.kind, .string ⟨z.text.toArray⟩, .slice a1 z.items.length c1, .slice a2 z.fields.length c2, .int .i64 z.at_]] w (fun r w' => r = .returned (.string ⟨z.str.toArray⟩) ∧ Below w.heap.size w w') := by
  have hcost := Vl.Z.cost_eq z
  have hnn := Vl.Z.n_eq z
  have hnc := Vl.Z.n_cost z
  have hl1 := Vl.Z.ns_len z.items
  have hl2 := Vl.ZA.ns_len z.fields
  obtain ⟨x1, x2, x3, x4, ex, hxi, hxf⟩ := Z_open hR
  obtain ⟨rfl, rfl, rfl, rfl⟩ : a1 = x1 ∧ c1 = x3 ∧ a2 = x2 ∧ c2 = x4 := by simpa [and_assoc] using ex
  rw [Vl.Z.good_eq, if_neg (by omega), if_pos (by unfold Vl.many; omega)] at hg
  simp only [Bool.and_eq_true] at hg
  obtain ⟨hp, -, hgi, hgf⟩ := hg
  have hE : z.items.length = 0 := by
    unfold Vl.parts at hp
    rw [decide_eq_false (show ¬ z.kind = 8 by omega), decide_eq_true (show z.kind = 9 by omega)] at hp
    simpa using hp
  have hEn : z.items = [] := List.length_eq_zero_iff.1 hE
  have hz : z.fields.length ≤ 1500000 := by omega
  have q1 : (z.kind == 1) = false := by rw [beq_eq_false_iff_ne]; omega
  have q2 : (z.kind == 2) = false := by rw [beq_eq_false_iff_ne]; omega
  have q3 : (z.kind == 3) = false := by rw [beq_eq_false_iff_ne]; omega
  have q4 : (z.kind == 4) = false := by rw [beq_eq_false_iff_ne]; omega
  have q5 : (z.kind == 5) = false := by rw [beq_eq_false_iff_ne]; omega
  have q6 : (z.kind == 6) = false := by rw [beq_eq_false_iff_ne]; omega
  have q7 : (z.kind == 7) = false := by rw [beq_eq_false_iff_ne]; omega
  have q8 : (z.kind == 8) = false := by rw [beq_eq_false_iff_ne]; omega
  have q9 : (z.kind == 9) = true := by rw [beq_iff_eq]; exact hk
  have HS : Hid (z.str = 123 :: (Vl.ZA.strs true z.fields ++ [125])) := Lib.hid (by
    rw [Vl.Z.str_eq, if_pos (by unfold Vl.many; omega), hEn, hk]
    unfold Vl.opn Vl.shut
    rw [Vl.Z.strs]; rfl)
  have HNI : Hid (∀ x ∈ z.fields, x.v.n ≤ N ∧ x.v.cost ≤ 1500000 ∧ x.v.good (deep + 1) = true ∧ x.name.length ≤ 1500000) := Lib.hid (fun x hx => by
    have h1 := Vl.ZA.ns_mem hx
    have h2 := Vl.costsA_in hx
    have h5 := Vl.goodsA_mem hgf hx
    have h3 := Vl.ZA.n_eq x; have h4 := Vl.ZA.cost_eq x; cases x; rw [Vl.ZA.good, Bool.and_eq_true] at h5; exact ⟨by omega, by omega, h5.2, by omega⟩)
  have HLE : Hid (∀ j, (Vl.ZA.strs true (z.fields.take j)).length ≤ 1500000) := Lib.hid (fun j => by
    have h1 := Vl.strsA_le true (z.fields.take j)
    have h2 := Vl.costsA_take z.fields j
    omega)
  obtain ⟨wc, hwc⟩ : ∃ q, q = w.alloc (.cells #[.int .i64 z.kind, .string ⟨z.text.toArray⟩, .slice a1 z.items.length c1, .slice a2 z.fields.length c2, .int .i64 z.at_] 25) := ⟨_, rfl⟩
  have hbc : Below w.heap.size w wc := by rw [hwc]; exact below_box2 _ _ _
  have hx0 : wc.heap[w.heap.size]? = some (.cells #[.int .i64 z.kind, .string ⟨z.text.toArray⟩, .slice a1 z.items.length c1, .slice a2 z.fields.length c2, .int .i64 z.at_] 25 (0, 0)) := by rw [hwc]; exact heap_at_new _ _
  have HWC := Lib.hid hwc
  have HBC := Lib.hid hbc
  have HX0 := Lib.hid hx0
  have HXI := Lib.hid (hxf.to (Stands.below hbc))
  have HIH := Lib.hid IH
  clear hR ex hxi hxf hbc hwc IH hx0 hnn hnc hl1 hl2 hp hk hcost hEn hE hgi hgf
  go_enter Tryz.func12, Tryz.ntmps12
  go_wp2_with fail
  rw [← HWC.out]
  go_loopg [3, 53] (z.fields.length + 1) (fun k s i wr => ∃ (j : Nat) (b : ByteArray), k = z.fields.length + 1 - j ∧ j ≤ z.fields.length ∧ i = .int .i64 j ∧ s = .string b ∧ b.data.toList = Vl.ZA.strs true (z.fields.take j) ∧ Below wc.heap.size wc wr)
  case atStart => exact ⟨0, ⟨#[]⟩, rfl, Nat.zero_le _, rfl, rfl, by rw [List.take_zero, Vl.ZA.strs], Below.refl _ _⟩
  case round =>
    obtain ⟨j, b, hk, hj, rfl, rfl, hb, hbe⟩ := hrel
    have HK := Lib.hid hk
    have HB := Lib.hid hb
    have HBE := Lib.hid hbe
    have hbs : b.size ≤ 1500000 := by have := HLE.out j; rw [← hb] at this; rwa [size_list]
    have HX2 : Hid (wr.heap[w.heap.size]? = some (.cells #[.int .i64 z.kind, .string ⟨z.text.toArray⟩, .slice a1 z.items.length c1, .slice a2 z.fields.length c2, .int .i64 z.at_] 25 (0, 0))) := Lib.hid ((hbe.block _ (block_lt HX0.out)).trans HX0.out)
    clear hk hb hbe
    by_cases hjl : j < z.fields.length
    rotate_left
    · have e5 : decide (j < z.fields.length) = false := decide_eq_false hjl
      have HE : Hid (b.data.toList = Vl.ZA.strs true z.fields) := by have := HB.out; rw [List.take_of_length_le (by omega)] at this; exact Lib.hid this
      have HB7 := Lib.hid (HBC.out.trans (HBE.out.mono HBC.out.size))
      go_wp2_with fail
      go_ret
      refine ⟨?_, HB7.out⟩
      refine congrArg (fun q => Ending.returned (.string q)) (bytes_of ?_)
      rw [HS.out, ← HE.out]
      simp
    have e5 : decide (j < z.fields.length) = true := decide_eq_true hjl
    obtain ⟨p, hp⟩ : ∃ x, z.fields[j]? = some x := ⟨z.fields[j], List.getElem?_eq_getElem hjl⟩
    have hnp := HNI.out p (List.mem_of_getElem? hp)
    have HMO := Lib.hid (Vl.strsA_more hp)
    obtain ⟨g, o, cs, ha, -, hgl, hlen, hcell, hd⟩ := HXI.out.el j p.d (by rw [List.getElem?_map, hp]; rfl)
    obtain ⟨p1, p2, u1, u2, rfl, hdv⟩ := ZA_open hd
    have k0 : ∀ q : Later wr, q.1.cell? ⟨g, o + j * 7, none⟩ = _ := Later.cell ((HBE.out.cell (p := ⟨g, o + j * 7, none⟩) hgl).trans (hcell 0 _ rfl))
    have k1 : ∀ q : Later wr, q.1.cell? ⟨g, o + j * 7 + 1, none⟩ = _ := Later.cell ((HBE.out.cell (p := ⟨g, o + j * 7 + 1, none⟩) hgl).trans (hcell 1 _ rfl))
    have k2 : ∀ q : Later wr, q.1.cell? ⟨g, o + j * 7 + 2, none⟩ = _ := Later.cell ((HBE.out.cell (p := ⟨g, o + j * 7 + 2, none⟩) hgl).trans (hcell 2 _ rfl))
    have k3 : ∀ q : Later wr, q.1.cell? ⟨g, o + j * 7 + 3, none⟩ = _ := Later.cell ((HBE.out.cell (p := ⟨g, o + j * 7 + 3, none⟩) hgl).trans (hcell 3 _ rfl))
    have k4 : ∀ q : Later wr, q.1.cell? ⟨g, o + j * 7 + 4, none⟩ = _ := Later.cell ((HBE.out.cell (p := ⟨g, o + j * 7 + 4, none⟩) hgl).trans (hcell 4 _ rfl))
    have k5 : ∀ q : Later wr, q.1.cell? ⟨g, o + j * 7 + 5, none⟩ = _ := Later.cell ((HBE.out.cell (p := ⟨g, o + j * 7 + 5, none⟩) hgl).trans (hcell 5 _ rfl))
    have k6 : ∀ q : Later wr, q.1.cell? ⟨g, o + j * 7 + 6, none⟩ = _ := Later.cell ((HBE.out.cell (p := ⟨g, o + j * 7 + 6, none⟩) hgl).trans (hcell 6 _ rfl))
    have z1 : ∀ q : Later wr, q.1.cell? ⟨w.heap.size, 3, none⟩ = some (.slice a2 z.fields.length c2) := Later.cell (blk_cell HX2.out 3 _ rfl)
    subst ha
    have HCALL : ∀ q : Later wr, _ := fun q => HIH.out p.v hnp.1 hnp.2.1 (deep + 1) hnp.2.2.1 p1 p2 u1 u2 q.1 P (hdv.to (Stands.below (HBE.out.trans (q.2.mono HBE.out.size))))
    have hps : p.v.str.length ≤ 1500000 := by have := Vl.str_le p.v; have := hnp.2.1; omega
    have hpn : p.name.length ≤ 1500000 := hnp.2.2.2
    obtain ⟨q, hq⟩ : ∃ q : ByteArray, q = ⟨p.v.str.toArray⟩ := ⟨_, rfl⟩
    have hqs : q.size ≤ 1500000 := by rw [hq]; exact hps
    have HQ : Hid (q.data.toList = p.v.str) := Lib.hid (by rw [hq])
    rw [← hq] at HCALL
    have HCL := Lib.hid HCALL
    have HNX : Hid (∀ x : ByteArray, x.data.toList = b.data.toList ++ (Vl.gp (decide (j = 0)) ++ (p.name ++ ([58, 32] ++ q.data.toList))) → x.data.toList = Vl.ZA.strs true (z.fields.take (j + 1))) := Lib.hid (fun x h => by rw [h, HB.out, HQ.out, HMO.out]; cases p; rw [Vl.ZA.str]; rfl)
    clear hp hlen hcell hd hdv hnp hq hps HCALL
    by_cases h0 : j = 0
    · have e6 : decide ((0 : Int) < (j : Int)) = false := decide_eq_false (by omega)
      have e7 : decide (0 < j) = false := decide_eq_false (by omega)
      have HJ0 := Lib.hid h0
      clear h0
      go_wp2_with fail
      refine wp_region_later (by kernel_rfl) (by kernel_rfl) ?_
      repeat (go_big_quiet_step (with_reducible exact Later.call (HCL.out _)))
      refine wpQuiet_nil ?_
      rintro w6 ⟨q6, rfl⟩
      have HB6 := Lib.hid (HBE.out.trans (q6.2.mono HBE.out.size))
      clear k0 k1 k2 k3 k4 k5 k6 z1
      go_wp2_with fail
      go_roundg (z.fields.length + 1 - (j + 1))
      case measure => rw [HK.out]; omega
      case rel => exact ⟨j + 1, _, rfl, hjl, by go_num, rfl, HNX.out _ (by simp [Vl.gp, HJ0.out]), HB6.out⟩
    · have e6 : decide ((0 : Int) < (j : Int)) = true := decide_eq_true (by omega)
      have e7 : decide (0 < j) = true := decide_eq_true (by omega)
      go_wp2_with fail
      refine wp_region_later (by kernel_rfl) (by kernel_rfl) ?_
      repeat (go_big_quiet_step (with_reducible exact Later.call (HCL.out _)))
      refine wpQuiet_nil ?_
      rintro w6 ⟨q6, rfl⟩
      have HB6 := Lib.hid (HBE.out.trans (q6.2.mono HBE.out.size))
      clear k0 k1 k2 k3 k4 k5 k6 z1
      go_wp2_with fail
      go_roundg (z.fields.length + 1 - (j + 1))
      case measure => rw [HK.out]; omega
      case rel => exact ⟨j + 1, _, rfl, hjl, by go_num, rfl, HNX.out _ (by simp [Vl.gp, h0]), HB6.out⟩
theorem rs_step (N : Nat) (IH : ShowC N) : ShowC (N + 1) := by
  intro z hN hc deep hg a1 a2 c1 c2 w P hR
  have h0 : 1 ≤ z.kind ∧ z.kind ≤ 9 := by
    rw [Vl.Z.good_eq, Bool.and_eq_true] at hg
    by_cases h : 1 ≤ z.kind ∧ z.kind ≤ 7
    · omega
    · rw [if_neg h] at hg
      by_cases h2 : Vl.many z.kind
      · unfold Vl.many at h2; omega
      · rw [if_neg h2] at hg; cases hg.2
  rcases (show z.kind = 1 ∨ (z.kind = 2 ∨ z.kind = 3 ∨ z.kind = 5 ∨ z.kind = 7) ∨ z.kind = 4 ∨ z.kind = 6 ∨ z.kind = 8 ∨ z.kind = 9 by omega) with hk | hk | hk | hk | hk | hk
  · exact rsLeaf1 z hc deep hg a1 a2 c1 c2 w hk
  · exact rsLeaf0 z hc deep hg a1 a2 c1 c2 w hk
  · exact rsLeaf4 z hc deep hg a1 a2 c1 c2 w hk
  · exact rsLeaf6 z hc deep hg a1 a2 c1 c2 w hk
  · exact rsMany8 N IH z hc deep hg a1 a2 c1 c2 w hN P hR hk
  · exact rsMany9 N IH z hc deep hg a1 a2 c1 c2 w hN P hR hk
theorem rshow_all : ∀ N : Nat, ShowC N
  | 0 => fun z hN => by have := Vl.Z.n_pos z; omega
  | N + 1 => rs_step N (rshow_all N)
end Go.Proofs.YtefjgpkpplkkgaaGreatDoor
