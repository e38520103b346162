/-
  A document that came in.
-/
import Derived.Test.YtabcaljnpahgpaaGreatDoorDz
namespace Go.Proofs.YtabcaljnpahgpaaGreatDoor
set_option linter.unusedSimpArgs false
set_option linter.unusedVariables false
open Go Go.RowKit

namespace Dq
structure Dir where
  name : List UInt8
  args : List Vl.ZA
  at_ : Int
inductive Sel where
  | mk (kind : Int) (nick name : List UInt8) (args : List Vl.ZA) (dirs : List Dir) (sels : List Sel) (at_ : Int)
structure Var where
  name : List UInt8
  type : List UInt8
  has : Bool
  dflt : Vl.Z
  at_ : Int
structure Op where
  kind : Int
  name : List UInt8
  vars : List Var
  dirs : List Dir
  sels : List Sel
  at_ : Int
structure Fr where
  name : List UInt8
  on : List UInt8
  dirs : List Dir
  sels : List Sel
  at_ : Int
structure Doc where
  ops : List Op
  frags : List Fr
namespace Sel
def kind : Sel → Int | .mk k _ _ _ _ _ _ => k
def nick : Sel → List UInt8 | .mk _ a _ _ _ _ _ => a
def name : Sel → List UInt8 | .mk _ _ n _ _ _ _ => n
def args : Sel → List Vl.ZA | .mk _ _ _ a _ _ _ => a
def dirs : Sel → List Dir | .mk _ _ _ _ d _ _ => d
def sels : Sel → List Sel | .mk _ _ _ _ _ s _ => s
def at_ : Sel → Int | .mk _ _ _ _ _ _ a => a
end Sel
def Dir.d (x : Dir) : D := .obj [.str x.name, .seq 7 (x.args.map Vl.ZA.d), .int x.at_]
mutual
def Sel.d : Sel → D
  | .mk k al n a d s p => .obj [.int k, .str al, .str n, .seq 7 (a.map Vl.ZA.d), .seq 3 (d.map Dir.d), .seq 7 (Sel.dl s), .int p]
def Sel.dl : List Sel → List D
  | [] => []
  | x :: r => Sel.d x :: Sel.dl r
end
theorem Sel.dl_map : ∀ l : List Sel, Sel.dl l = l.map Sel.d
  | [] => by rw [Sel.dl]; rfl
  | x :: r => by rw [Sel.dl, Sel.dl_map r]; rfl
theorem Sel.d_eq (x : Sel) : x.d = .obj [.int x.kind, .str x.nick, .str x.name, .seq 7 (x.args.map Vl.ZA.d), .seq 3 (x.dirs.map Dir.d), .seq 7 (x.sels.map Sel.d), .int x.at_] := by
  cases x; rw [Sel.d, Sel.dl_map]; rfl
def Var.d (x : Var) : D := .obj [.str x.name, .str x.type, .bool x.has, x.dflt.d, .int x.at_]
def Op.d (x : Op) : D := .obj [.int x.kind, .str x.name, .seq 9 (x.vars.map Var.d), .seq 3 (x.dirs.map Dir.d), .seq 7 (x.sels.map Sel.d), .int x.at_]
def Fr.d (x : Fr) : D := .obj [.str x.name, .str x.on, .seq 3 (x.dirs.map Dir.d), .seq 7 (x.sels.map Sel.d), .int x.at_]
def Doc.d (x : Doc) : D := .obj [.seq 6 (x.ops.map Op.d), .seq 5 (x.frags.map Fr.d)]
-- Sizes that memory allows.
def Dir.fits (x : Dir) : Prop := x.name.length ≤ maxLen ∧ x.args.length ≤ maxLen ∧ ∀ a ∈ x.args, a.fits
mutual
def Sel.fits : Sel → Prop
  | .mk k al n a d s p => (-9223372036854775808 ≤ k ∧ k ≤ 9223372036854775807) ∧ al.length ≤ maxLen ∧ n.length ≤ maxLen ∧ (a.length ≤ maxLen ∧ ∀ x ∈ a, x.fits) ∧ (d.length ≤ maxLen ∧ ∀ x ∈ d, x.fits) ∧ s.length ≤ maxLen ∧ Sel.fitsl s
def Sel.fitsl : List Sel → Prop
  | [] => True
  | x :: r => Sel.fits x ∧ Sel.fitsl r
end
theorem Sel.fitsl_iff : ∀ {l : List Sel}, Sel.fitsl l ↔ ∀ x ∈ l, x.fits
  | [] => by rw [Sel.fitsl]; simp
  | x :: r => by rw [Sel.fitsl, Sel.fitsl_iff (l := r)]; simp
theorem Sel.fits_eq (x : Sel) : x.fits ↔ ((-9223372036854775808 ≤ x.kind ∧ x.kind ≤ 9223372036854775807) ∧ x.nick.length ≤ maxLen ∧ x.name.length ≤ maxLen ∧ (x.args.length ≤ maxLen ∧ ∀ y ∈ x.args, y.fits) ∧ (x.dirs.length ≤ maxLen ∧ ∀ y ∈ x.dirs, y.fits) ∧ x.sels.length ≤ maxLen ∧ ∀ y ∈ x.sels, y.fits) := by
  cases x; rw [Sel.fits, Sel.fitsl_iff]; rfl
def Var.fits (x : Var) : Prop := x.name.length ≤ maxLen ∧ x.type.length ≤ maxLen ∧ x.dflt.fits
def Op.fits (x : Op) : Prop := (-9223372036854775808 ≤ x.kind ∧ x.kind ≤ 9223372036854775807) ∧ x.name.length ≤ maxLen ∧ (x.vars.length ≤ maxLen ∧ ∀ y ∈ x.vars, y.fits) ∧ (x.dirs.length ≤ maxLen ∧ ∀ y ∈ x.dirs, y.fits) ∧ (x.sels.length ≤ maxLen ∧ ∀ y ∈ x.sels, y.fits)
def Fr.fits (x : Fr) : Prop := x.name.length ≤ maxLen ∧ x.on.length ≤ maxLen ∧ (x.dirs.length ≤ maxLen ∧ ∀ y ∈ x.dirs, y.fits) ∧ (x.sels.length ≤ maxLen ∧ ∀ y ∈ x.sels, y.fits)
def Doc.fits (x : Doc) : Prop := (x.ops.length ≤ maxLen ∧ ∀ y ∈ x.ops, y.fits) ∧ (x.frags.length ≤ maxLen ∧ ∀ y ∈ x.frags, y.fits)
end Dq
def docTypes : List TypeId := [43, 40, 41, 49, 99, 45, 97, 46, 146, 47, 92, 4, 55, 52, 53, 116, 3, 9]
theorem docNice : niceB Tryz.prog docTypes = true := by kernel_rfl
theorem dirFields : ∃ fs : Array Field, Tryz.prog.underlying 146 = some (.struct fs) ∧ fs.toList.map (·.type) = [9, 53, 3] := ⟨_, Tryz.underlying146, by kernel_rfl⟩
theorem selFields : ∃ fs : Array Field, Tryz.prog.underlying 92 = some (.struct fs) ∧ fs.toList.map (·.type) = [3, 9, 9, 53, 46, 47, 3] := ⟨_, Tryz.underlying92, by kernel_rfl⟩
theorem varFields : ∃ fs : Array Field, Tryz.prog.underlying 97 = some (.struct fs) ∧ fs.toList.map (·.type) = [9, 9, 4, 55, 3] := ⟨_, Tryz.underlying97, by kernel_rfl⟩
theorem opFields : ∃ fs : Array Field, Tryz.prog.underlying 49 = some (.struct fs) ∧ fs.toList.map (·.type) = [3, 9, 45, 46, 47, 3] := ⟨_, Tryz.underlying49, by kernel_rfl⟩
theorem frFields : ∃ fs : Array Field, Tryz.prog.underlying 99 = some (.struct fs) ∧ fs.toList.map (·.type) = [9, 9, 46, 47, 3] := ⟨_, Tryz.underlying99, by kernel_rfl⟩
theorem docFields : ∃ fs : Array Field, Tryz.prog.underlying 43 = some (.struct fs) ∧ fs.toList.map (·.type) = [40, 41] := ⟨_, Tryz.underlying43, by kernel_rfl⟩
theorem cellsDir : Tryz.prog.cellsOf 146 = 3 := by kernel_rfl
theorem cellsSel : Tryz.prog.cellsOf 92 = 7 := by kernel_rfl
theorem cellsVar : Tryz.prog.cellsOf 97 = 9 := by kernel_rfl
theorem cellsOp : Tryz.prog.cellsOf 49 = 6 := by kernel_rfl
theorem cellsFr : Tryz.prog.cellsOf 99 = 5 := by kernel_rfl
theorem all_of {α : Type} {f : α → D} {q : α → Prop} : ∀ {ds : List D}, (∀ d ∈ ds, ∃ z, d = f z ∧ q z) → ∃ zs : List α, ds = zs.map f ∧ ∀ z ∈ zs, q z
  | [], _ => ⟨[], rfl, by simp⟩
  | d :: r, h => by
    obtain ⟨z, rfl, hz⟩ := h d (by simp)
    obtain ⟨zs, rfl, hzs⟩ := all_of (ds := r) (fun x hx => h x (by simp [hx]))
    exact ⟨z :: zs, rfl, by simpa using ⟨hz, hzs⟩⟩
theorem argl_of {d : D} (h : HasT Tryz.prog 53 d) : ∃ zs : List Vl.ZA, d = .seq 7 (zs.map Vl.ZA.d) ∧ zs.length ≤ maxLen ∧ ∀ z ∈ zs, z.fits := by
  obtain ⟨is, rfl, h1, h2⟩ := h.seq Tryz.underlying53
  obtain ⟨zs, rfl, hz⟩ := all_of (fun x hx => arg_of x (h2.mem x hx))
  rw [List.length_map] at h1
  exact ⟨zs, by rw [cellsA], h1, hz⟩
theorem dir_of (d : D) (h0 : HasT Tryz.prog 146 d) : ∃ z : Dq.Dir, d = z.d ∧ z.fits := by
  obtain ⟨fs, hu, hf⟩ := dirFields
  obtain ⟨ds, rfl, h⟩ := h0.obj hu
  clear h0
  rw [hf] at h
  obtain ⟨d1, r1, rfl, h1, h⟩ := h.cons
  obtain ⟨d2, r2, rfl, h2, h⟩ := h.cons
  obtain ⟨d3, r3, rfl, h3, h⟩ := h.cons
  obtain rfl := h.nil
  obtain ⟨t, rfl, ht⟩ := h1.str Tryz.underlying9
  obtain ⟨al0, rfl, ha1, ha2⟩ := argl_of h2
  obtain ⟨a, rfl, -⟩ := h3.int Tryz.underlying3
  exact ⟨⟨t, al0, a⟩, rfl, ht, ha1, ha2⟩
theorem dirl_of {d : D} (h : HasT Tryz.prog 46 d) : ∃ zs : List Dq.Dir, d = .seq 3 (zs.map Dq.Dir.d) ∧ zs.length ≤ maxLen ∧ ∀ z ∈ zs, z.fits := by
  obtain ⟨is, rfl, h1, h2⟩ := h.seq Tryz.underlying46
  obtain ⟨zs, rfl, hz⟩ := all_of (fun x hx => dir_of x (h2.mem x hx))
  rw [List.length_map] at h1
  exact ⟨zs, by rw [cellsDir], h1, hz⟩
theorem sel_all : ∀ (n : Nat) (d : D), SizeOf.sizeOf d ≤ n → HasT Tryz.prog 92 d → ∃ z : Dq.Sel, d = z.d ∧ z.fits
  | 0, d, hn, _ => by cases d <;> simp at hn
  | n + 1, d, hn, h0 => by
    obtain ⟨fs, hu, hf⟩ := selFields
    obtain ⟨ds, rfl, h⟩ := h0.obj hu
    clear h0
    rw [hf] at h
    obtain ⟨d1, r1, rfl, h1, h⟩ := h.cons
    obtain ⟨d2, r2, rfl, h2, h⟩ := h.cons
    obtain ⟨d3, r3, rfl, h3, h⟩ := h.cons
    obtain ⟨d4, r4, rfl, h4, h⟩ := h.cons
    obtain ⟨d5, r5, rfl, h5, h⟩ := h.cons
    obtain ⟨d6, r6, rfl, h6, h⟩ := h.cons
    obtain ⟨d7, r7, rfl, h7, h⟩ := h.cons
    obtain rfl := h.nil
    obtain ⟨k, rfl, hk⟩ := h1.int Tryz.underlying3
    obtain ⟨al, rfl, hal⟩ := h2.str Tryz.underlying9
    obtain ⟨nm, rfl, hnm⟩ := h3.str Tryz.underlying9
    obtain ⟨al0, rfl, ha1, ha2⟩ := argl_of h4
    obtain ⟨dl, rfl, hd1, hd2⟩ := dirl_of h5
    obtain ⟨is, rfl, hi1, hi2⟩ := h6.seq Tryz.underlying47
    obtain ⟨a, rfl, -⟩ := h7.int Tryz.underlying3
    simp only [D.obj.sizeOf_spec, D.seq.sizeOf_spec, List.cons.sizeOf_spec, List.nil.sizeOf_spec] at hn
    obtain ⟨zs, rfl, hzs⟩ := all_of (ds := is) (fun x hx => sel_all n x (by have := List.sizeOf_lt_of_mem hx; omega) (hi2.mem x hx))
    rw [List.length_map] at hi1
    refine ⟨.mk k al nm al0 dl zs a, ?_, ?_⟩
    · rw [Dq.Sel.d, Dq.Sel.dl_map, cellsSel]
    · rw [Dq.Sel.fits, Dq.Sel.fitsl_iff]
      exact ⟨wf_i64 hk, hal, hnm, ⟨ha1, ha2⟩, ⟨hd1, hd2⟩, hi1, hzs⟩
theorem sell_of {d : D} (h : HasT Tryz.prog 47 d) : ∃ zs : List Dq.Sel, d = .seq 7 (zs.map Dq.Sel.d) ∧ zs.length ≤ maxLen ∧ ∀ z ∈ zs, z.fits := by
  obtain ⟨is, rfl, h1, h2⟩ := h.seq Tryz.underlying47
  obtain ⟨zs, rfl, hz⟩ := all_of (fun x hx => sel_all _ x (Nat.le_refl _) (h2.mem x hx))
  rw [List.length_map] at h1
  exact ⟨zs, by rw [cellsSel], h1, hz⟩
theorem var_of (d : D) (h0 : HasT Tryz.prog 97 d) : ∃ z : Dq.Var, d = z.d ∧ z.fits := by
  obtain ⟨fs, hu, hf⟩ := varFields
  obtain ⟨ds, rfl, h⟩ := h0.obj hu
  clear h0
  rw [hf] at h
  obtain ⟨d1, r1, rfl, h1, h⟩ := h.cons
  obtain ⟨d2, r2, rfl, h2, h⟩ := h.cons
  obtain ⟨d3, r3, rfl, h3, h⟩ := h.cons
  obtain ⟨d4, r4, rfl, h4, h⟩ := h.cons
  obtain ⟨d5, r5, rfl, h5, h⟩ := h.cons
  obtain rfl := h.nil
  obtain ⟨t, rfl, ht⟩ := h1.str Tryz.underlying9
  obtain ⟨ty, rfl, hty⟩ := h2.str Tryz.underlying9
  obtain ⟨b, rfl⟩ := h3.bool Tryz.underlying4
  obtain ⟨v, rfl, hv⟩ := val_of d4 h4
  obtain ⟨a, rfl, -⟩ := h5.int Tryz.underlying3
  exact ⟨⟨t, ty, b, v, a⟩, rfl, ht, hty, hv⟩
theorem op_of (d : D) (h0 : HasT Tryz.prog 49 d) : ∃ z : Dq.Op, d = z.d ∧ z.fits := by
  obtain ⟨fs, hu, hf⟩ := opFields
  obtain ⟨ds, rfl, h⟩ := h0.obj hu
  clear h0
  rw [hf] at h
  obtain ⟨d1, r1, rfl, h1, h⟩ := h.cons
  obtain ⟨d2, r2, rfl, h2, h⟩ := h.cons
  obtain ⟨d3, r3, rfl, h3, h⟩ := h.cons
  obtain ⟨d4, r4, rfl, h4, h⟩ := h.cons
  obtain ⟨d5, r5, rfl, h5, h⟩ := h.cons
  obtain ⟨d6, r6, rfl, h6, h⟩ := h.cons
  obtain rfl := h.nil
  obtain ⟨k, rfl, hk⟩ := h1.int Tryz.underlying3
  obtain ⟨t, rfl, ht⟩ := h2.str Tryz.underlying9
  obtain ⟨is, rfl, hv1, hv2⟩ := h3.seq Tryz.underlying45
  obtain ⟨vs, rfl, hvs⟩ := all_of (fun x hx => var_of x (hv2.mem x hx))
  rw [List.length_map] at hv1
  obtain ⟨dl, rfl, hd1, hd2⟩ := dirl_of h4
  obtain ⟨sl, rfl, hs1, hs2⟩ := sell_of h5
  obtain ⟨a, rfl, -⟩ := h6.int Tryz.underlying3
  refine ⟨⟨k, t, vs, dl, sl, a⟩, ?_, wf_i64 hk, ht, ⟨hv1, hvs⟩, ⟨hd1, hd2⟩, ⟨hs1, hs2⟩⟩
  show D.obj _ = D.obj _
  rw [cellsVar]
theorem fr_of (d : D) (h0 : HasT Tryz.prog 99 d) : ∃ z : Dq.Fr, d = z.d ∧ z.fits := by
  obtain ⟨fs, hu, hf⟩ := frFields
  obtain ⟨ds, rfl, h⟩ := h0.obj hu
  clear h0
  rw [hf] at h
  obtain ⟨d1, r1, rfl, h1, h⟩ := h.cons
  obtain ⟨d2, r2, rfl, h2, h⟩ := h.cons
  obtain ⟨d3, r3, rfl, h3, h⟩ := h.cons
  obtain ⟨d4, r4, rfl, h4, h⟩ := h.cons
  obtain ⟨d5, r5, rfl, h5, h⟩ := h.cons
  obtain rfl := h.nil
  obtain ⟨t, rfl, ht⟩ := h1.str Tryz.underlying9
  obtain ⟨on, rfl, hon⟩ := h2.str Tryz.underlying9
  obtain ⟨dl, rfl, hd1, hd2⟩ := dirl_of h3
  obtain ⟨sl, rfl, hs1, hs2⟩ := sell_of h4
  obtain ⟨a, rfl, -⟩ := h5.int Tryz.underlying3
  exact ⟨⟨t, on, dl, sl, a⟩, rfl, ht, hon, ⟨hd1, hd2⟩, ⟨hs1, hs2⟩⟩
theorem doc_of (d : D) (h0 : HasT Tryz.prog 43 d) : ∃ z : Dq.Doc, d = z.d ∧ z.fits := by
  obtain ⟨fs, hu, hf⟩ := docFields
  obtain ⟨ds, rfl, h⟩ := h0.obj hu
  clear h0
  rw [hf] at h
  obtain ⟨d1, r1, rfl, h1, h⟩ := h.cons
  obtain ⟨d2, r2, rfl, h2, h⟩ := h.cons
  obtain rfl := h.nil
  obtain ⟨is, rfl, ho1, ho2⟩ := h1.seq Tryz.underlying40
  obtain ⟨os, rfl, hos⟩ := all_of (fun x hx => op_of x (ho2.mem x hx))
  obtain ⟨js, rfl, hf1, hf2⟩ := h2.seq Tryz.underlying41
  obtain ⟨frs, rfl, hfs⟩ := all_of (fun x hx => fr_of x (hf2.mem x hx))
  rw [List.length_map] at ho1 hf1
  refine ⟨⟨os, frs⟩, ?_, ⟨ho1, hos⟩, ⟨hf1, hfs⟩⟩
  show D.obj _ = D.obj _
  rw [cellsOp, cellsFr]
namespace Dq
section
variable {w : World} {P : Nat → Prop} {cs : List Value}
theorem seq_cells {k : Nat} {xs : List D} (h : Reads w P (.seq k xs) cs) : ∃ a c, cs = [.slice a xs.length c] := by
  obtain ⟨a, c, e, -⟩ := h.seq_inv
  exact ⟨a, c, e⟩
theorem Dir.opened {x : Dir} (h : Reads w P x.d cs) : ∃ (a1 : Option Addr) (c1 : Nat), cs = [.string ⟨x.name.toArray⟩, .slice a1 x.args.length c1, .int .i64 x.at_] ∧ Reads w P (.seq 7 (x.args.map Vl.ZA.d)) [.slice a1 x.args.length c1] := by
  unfold Dir.d at h
  obtain ⟨x1, r1, rfl, e1, h1⟩ := h.obj_inv.cons_inv
  obtain ⟨x2, r2, rfl, e2, h2⟩ := h1.cons_inv
  obtain ⟨x3, r3, rfl, e3, h3⟩ := h2.cons_inv
  obtain rfl := e1.str_inv
  obtain ⟨b2, d2, rfl⟩ := seq_cells e2
  obtain rfl := e3.int_inv
  obtain rfl := h3.nil_inv
  simp only [List.length_map] at e2 ⊢
  exact ⟨b2, d2, rfl, e2⟩
theorem Sel.opened {x : Sel} (h : Reads w P x.d cs) : ∃ (a1 a2 a3 : Option Addr) (c1 c2 c3 : Nat), cs = [.int .i64 x.kind, .string ⟨x.nick.toArray⟩, .string ⟨x.name.toArray⟩, .slice a1 x.args.length c1, .slice a2 x.dirs.length c2, .slice a3 x.sels.length c3, .int .i64 x.at_] ∧
    Reads w P (.seq 7 (x.args.map Vl.ZA.d)) [.slice a1 x.args.length c1] ∧ Reads w P (.seq 3 (x.dirs.map Dir.d)) [.slice a2 x.dirs.length c2] ∧ Reads w P (.seq 7 (x.sels.map Sel.d)) [.slice a3 x.sels.length c3] := by
  rw [Sel.d_eq] at h
  obtain ⟨x1, r1, rfl, e1, h1⟩ := h.obj_inv.cons_inv
  obtain ⟨x2, r2, rfl, e2, h2⟩ := h1.cons_inv
  obtain ⟨x3, r3, rfl, e3, h3⟩ := h2.cons_inv
  obtain ⟨x4, r4, rfl, e4, h4⟩ := h3.cons_inv
  obtain ⟨x5, r5, rfl, e5, h5⟩ := h4.cons_inv
  obtain ⟨x6, r6, rfl, e6, h6⟩ := h5.cons_inv
  obtain ⟨x7, r7, rfl, e7, h7⟩ := h6.cons_inv
  obtain rfl := e1.int_inv
  obtain rfl := e2.str_inv
  obtain rfl := e3.str_inv
  obtain ⟨b4, d4, rfl⟩ := seq_cells e4
  obtain ⟨b5, d5, rfl⟩ := seq_cells e5
  obtain ⟨b6, d6, rfl⟩ := seq_cells e6
  obtain rfl := e7.int_inv
  obtain rfl := h7.nil_inv
  simp only [List.length_map] at e4 e5 e6 ⊢
  exact ⟨b4, b5, b6, d4, d5, d6, rfl, e4, e5, e6⟩
theorem Var.opened {x : Var} (h : Reads w P x.d cs) : ∃ (a1 a2 : Option Addr) (c1 c2 : Nat), cs = [.string ⟨x.name.toArray⟩, .string ⟨x.type.toArray⟩, .bool x.has, .int .i64 x.dflt.kind, .string ⟨x.dflt.text.toArray⟩, .slice a1 x.dflt.items.length c1, .slice a2 x.dflt.fields.length c2, .int .i64 x.dflt.at_, .int .i64 x.at_] ∧
    Reads w P x.dflt.d (zcells x.dflt a1 a2 c1 c2).toList := by
  unfold Var.d at h
  obtain ⟨x1, r1, rfl, e1, h1⟩ := h.obj_inv.cons_inv
  obtain ⟨x2, r2, rfl, e2, h2⟩ := h1.cons_inv
  obtain ⟨x3, r3, rfl, e3, h3⟩ := h2.cons_inv
  obtain ⟨x4, r4, rfl, e4, h4⟩ := h3.cons_inv
  obtain ⟨x5, r5, rfl, e5, h5⟩ := h4.cons_inv
  obtain rfl := e1.str_inv
  obtain rfl := e2.str_inv
  obtain rfl := e3.bool_inv
  obtain ⟨a1, a2, c1, c2, rfl, -, -⟩ := Z_open e4
  obtain rfl := e5.int_inv
  obtain rfl := h5.nil_inv
  exact ⟨a1, a2, c1, c2, rfl, e4⟩
theorem Op.opened {x : Op} (h : Reads w P x.d cs) : ∃ (a1 a2 a3 : Option Addr) (c1 c2 c3 : Nat), cs = [.int .i64 x.kind, .string ⟨x.name.toArray⟩, .slice a1 x.vars.length c1, .slice a2 x.dirs.length c2, .slice a3 x.sels.length c3, .int .i64 x.at_] ∧
    Reads w P (.seq 9 (x.vars.map Var.d)) [.slice a1 x.vars.length c1] ∧ Reads w P (.seq 3 (x.dirs.map Dir.d)) [.slice a2 x.dirs.length c2] ∧ Reads w P (.seq 7 (x.sels.map Sel.d)) [.slice a3 x.sels.length c3] := by
  unfold Op.d at h
  obtain ⟨x1, r1, rfl, e1, h1⟩ := h.obj_inv.cons_inv
  obtain ⟨x2, r2, rfl, e2, h2⟩ := h1.cons_inv
  obtain ⟨x3, r3, rfl, e4, h3⟩ := h2.cons_inv
  obtain ⟨x4, r4, rfl, e5, h4⟩ := h3.cons_inv
  obtain ⟨x5, r5, rfl, e6, h5⟩ := h4.cons_inv
  obtain ⟨x6, r6, rfl, e7, h6⟩ := h5.cons_inv
  obtain rfl := e1.int_inv
  obtain rfl := e2.str_inv
  obtain ⟨b4, d4, rfl⟩ := seq_cells e4
  obtain ⟨b5, d5, rfl⟩ := seq_cells e5
  obtain ⟨b6, d6, rfl⟩ := seq_cells e6
  obtain rfl := e7.int_inv
  obtain rfl := h6.nil_inv
  simp only [List.length_map] at e4 e5 e6 ⊢
  exact ⟨b4, b5, b6, d4, d5, d6, rfl, e4, e5, e6⟩
theorem Fr.opened {x : Fr} (h : Reads w P x.d cs) : ∃ (a2 a3 : Option Addr) (c2 c3 : Nat), cs = [.string ⟨x.name.toArray⟩, .string ⟨x.on.toArray⟩, .slice a2 x.dirs.length c2, .slice a3 x.sels.length c3, .int .i64 x.at_] ∧
    Reads w P (.seq 3 (x.dirs.map Dir.d)) [.slice a2 x.dirs.length c2] ∧ Reads w P (.seq 7 (x.sels.map Sel.d)) [.slice a3 x.sels.length c3] := by
  unfold Fr.d at h
  obtain ⟨x1, r1, rfl, e1, h1⟩ := h.obj_inv.cons_inv
  obtain ⟨x2, r2, rfl, e2, h2⟩ := h1.cons_inv
  obtain ⟨x4, r4, rfl, e5, h4⟩ := h2.cons_inv
  obtain ⟨x5, r5, rfl, e6, h5⟩ := h4.cons_inv
  obtain ⟨x6, r6, rfl, e7, h6⟩ := h5.cons_inv
  obtain rfl := e1.str_inv
  obtain rfl := e2.str_inv
  obtain ⟨b5, d5, rfl⟩ := seq_cells e5
  obtain ⟨b6, d6, rfl⟩ := seq_cells e6
  obtain rfl := e7.int_inv
  obtain rfl := h6.nil_inv
  simp only [List.length_map] at e5 e6 ⊢
  exact ⟨b5, b6, d5, d6, rfl, e5, e6⟩
theorem Doc.opened {x : Doc} (h : Reads w P x.d cs) : ∃ (a1 a2 : Option Addr) (c1 c2 : Nat), cs = [.slice a1 x.ops.length c1, .slice a2 x.frags.length c2] ∧
    Reads w P (.seq 6 (x.ops.map Op.d)) [.slice a1 x.ops.length c1] ∧ Reads w P (.seq 5 (x.frags.map Fr.d)) [.slice a2 x.frags.length c2] := by
  unfold Doc.d at h
  obtain ⟨x5, r5, rfl, e5, h5⟩ := h.obj_inv.cons_inv
  obtain ⟨x6, r6, rfl, e6, h6⟩ := h5.cons_inv
  obtain ⟨b5, d5, rfl⟩ := seq_cells e5
  obtain ⟨b6, d6, rfl⟩ := seq_cells e6
  obtain rfl := h6.nil_inv
  simp only [List.length_map] at e5 e6 ⊢
  exact ⟨b5, b6, d5, d6, rfl, e5, e6⟩
end
end Dq
set_option maxRecDepth 10000 in
/-- A document among the arguments. -/
theorem doc_arg {H : Type} {enc : TypeId × Value → H} {W : World} {v : Value} {x : DataW H} {ps : List MemPlace} {sp : Nat → Bool} {r : Reach} {base : Nat} (hv : Value.okWide Tryz.prog W r base 43 v) (h : DataW.Trod enc Tryz.prog W 0 sp true 43 v x ps) :
    ∃ (z : Dq.Doc) (a1 a2 : Option Addr) (c1 c2 : Nat), v = .agg #[.slice a1 z.ops.length c1, .slice a2 z.frags.length c2] ∧ z.fits ∧ Reads W (fun _ => True) z.d [.slice a1 z.ops.length c1, .slice a2 z.frags.length c2] := by
  obtain ⟨fs, hu, hf⟩ := docFields
  obtain ⟨cs, rfl, -⟩ := Go.WideShapes.okWide_struct hu hv
  obtain ⟨d, hr, ht⟩ := open_arg docNice (List.Mem.head _) h
  obtain ⟨z, rfl, hz⟩ := doc_of d ht
  have hr : Reads W (fun _ => True) z.d cs.toList := hr
  obtain ⟨a1, a2, c1, c2, e, -, -⟩ := Dq.Doc.opened hr
  refine ⟨z, a1, a2, c1, c2, ?_, hz, ?_⟩
  · congr 1
    have := congrArg List.toArray e
    simpa using this
  · rw [e] at hr; exact hr
end Go.Proofs.YtabcaljnpahgpaaGreatDoor
