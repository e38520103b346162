/-
  Values in memory. The reader: Value, Arg at any depth; Args, walked. A row in a variable of a call's own, beside the reader. The reader of a text: New, walked. 'Parse' of a value, of a type, walked. Values at types, walked: a name's kind; what a scalar takes; a type's text taken apart; a problem told. What a scalar takes, and what is told of a number or of none at a type, walked. What is told of a value at a type: numbers, nulls and lists of them, walked.
-/
import Derived.Test.YtmgoebfcfgilfaaGreatDoorZi16
import Derived.Test.YtmgoebfcfgilfaaGreatDoorZi4
import Derived.Test.YtmgoebfcfgilfaaGreatDoorZi6
import Derived.Test.YtmgoebfcfgilfaaGreatDoorZi7
import Derived.Test.YtmgoebfcfgilfaaGreatDoorZi9
namespace Go.Proofs.YtmgoebfcfgilfaaGreatDoor
set_option linter.unusedSimpArgs false
set_option linter.unusedVariables false
open Go Go.RowKit
namespace Vl
mutual
def Z.d : Z → D
  | .mk k t items fields a => .obj [.int k, .str t, .seq 5 (Z.dl items), .seq 7 (ZA.dl fields), .int a]
def Z.dl : List Z → List D
  | [] => []
  | x :: r => Z.d x :: Z.dl r
def ZA.d : ZA → D
  | .mk n v a => .obj [.str n, Z.d v, .int a]
def ZA.dl : List ZA → List D
  | [] => []
  | x :: r => ZA.d x :: ZA.dl r
end
theorem Z.dl_map : ∀ l : List Z, Z.dl l = l.map Z.d
  | [] => by rw [Z.dl]; rfl
  | x :: r => by rw [Z.dl, Z.dl_map r]; rfl
theorem ZA.dl_map : ∀ l : List ZA, ZA.dl l = l.map ZA.d
  | [] => by rw [ZA.dl]; rfl
  | x :: r => by rw [ZA.dl, ZA.dl_map r]; rfl
mutual
theorem ofV_d : ∀ v : Rd.V, (ofV v).d = v.d
  | .mk k t i f a => by unfold ofV Z.d Rd.V.d; rw [ofVs_d i, ofAs_d f]
theorem ofVs_d : ∀ l : List Rd.V, Z.dl (ofVs l) = Rd.V.dl l
  | [] => by rw [ofVs, Z.dl, Rd.V.dl]
  | x :: r => by rw [ofVs, Z.dl, Rd.V.dl, ofV_d x, ofVs_d r]
theorem ofA_d : ∀ v : Rd.A, (ofA v).d = v.d
  | .mk n v a => by unfold ofA ZA.d Rd.A.d; rw [ofV_d v]
theorem ofAs_d : ∀ l : List Rd.A, ZA.dl (ofAs l) = Rd.A.dl l
  | [] => by rw [ofAs, ZA.dl, Rd.A.dl]
  | x :: r => by rw [ofAs, ZA.dl, Rd.A.dl, ofA_d x, ofAs_d r]
end
end Vl
section
variable {w : World} {P : Nat → Prop}
theorem Reads.el {k : Nat} {xs : List D} {a : Option Addr} {n c : Nat} (h : Reads w P (.seq k xs) [.slice a n c]) : ∀ (j : Nat) d, xs[j]? = some d → ∃ g o cs, a = some ⟨g, o, none⟩ ∧ P g ∧ g < w.heap.size ∧ cs.length = k ∧
    (∀ (q : Nat) v, cs[q]? = some v → w.cell? ⟨g, o + j * k + q, none⟩ = some v) ∧ Reads w P d cs := by
  obtain ⟨a', c', e, hr⟩ := h.seq_inv
  obtain ⟨rfl, rfl, rfl⟩ : a = a' ∧ n = xs.length ∧ c = c' := by simpa using e
  intro j d hj
  have := hr.at j d hj
  rw [Nat.zero_add] at this
  exact this
theorem Z_open {v : Vl.Z} {cs : List Value} (h : Reads w P v.d cs) : ∃ (a1 a2 : Option Addr) (c1 c2 : Nat), cs = [.int .i64 v.kind, .string ⟨v.text.toArray⟩, .slice a1 v.items.length c1, .slice a2 v.fields.length c2, .int .i64 v.at_] ∧
    Reads w P (.seq 5 (v.items.map Vl.Z.d)) [.slice a1 v.items.length c1] ∧ Reads w P (.seq 7 (v.fields.map Vl.ZA.d)) [.slice a2 v.fields.length c2] := by
  cases v with
  | mk k t is fs a =>
    unfold Vl.Z.d at h
    rw [Vl.Z.dl_map, Vl.ZA.dl_map] at h
    obtain ⟨x1, r1, rfl, e1, h1⟩ := h.obj_inv.cons_inv
    obtain ⟨x2, r2, rfl, e2, h2⟩ := h1.cons_inv
    obtain ⟨x3, r3, rfl, e3, h3⟩ := h2.cons_inv
    obtain ⟨x4, r4, rfl, e4, h4⟩ := h3.cons_inv
    obtain ⟨x5, r5, rfl, e5, h5⟩ := h4.cons_inv
    obtain rfl := e1.int_inv
    obtain rfl := e2.str_inv
    obtain ⟨b3, d3, rfl, _⟩ := e3.seq_inv
    obtain ⟨b4, d4, rfl, _⟩ := e4.seq_inv
    obtain rfl := e5.int_inv
    obtain rfl := h5.nil_inv
    simp only [List.length_map] at e3 e4 ⊢
    exact ⟨b3, b4, d3, d4, rfl, e3, e4⟩
end
end Go.Proofs.YtmgoebfcfgilfaaGreatDoor
namespace Go.Proofs.YtmgoebfcfgilfaaGreatDoor
set_option linter.unusedSimpArgs false
set_option linter.unusedVariables false
open Go Go.RowKit

theorem rvalue_any (b g : Nat) (fixed : Bool) : ∀ (n : Nat), n ≤ 1600 → ∀ (s : Rd.St) (w : World), RdAt w b g s → s.rest.length ≤ n → 0 ≤ s.deep ∧ s.deep + n ≤ 900000 →
    Calls Tryz.prog 107 #[.pointer (some ⟨b, 0, none⟩), .bool fixed] w (Got b g w (Rd.value fixed (n + 1) s).2.d (Rd.value fixed (n + 1) s).1)
  | 0, hnb, s, w, h, hn, hd => rvalue_step b g fixed 0 s w h hn hnb hd (fun m hm => absurd hm (by omega))
  | n + 1, hnb, s, w, h, hn, hd => rvalue_step b g fixed (n + 1) s w h hn hnb hd (fun m hm s' w' h' hn' hd' => by
    obtain rfl : n = m := by omega
    exact rvalue_any b g fixed n (by omega) s' w' h' hn' hd')
end Go.Proofs.YtmgoebfcfgilfaaGreatDoor
namespace Go.Proofs.YtmgoebfcfgilfaaGreatDoor
set_option linter.unusedSimpArgs false
set_option linter.unusedVariables false
open Go Go.RowKit

/-- A row of data of the call's own, beside the reader. -/
structure GI (w0 : World) (b g : Nat) (E : TypeId) (k : Nat) (s : Rd.St) (v : Value) (ds : List D) (w : World) : Prop where
  rd : RdAt w b g s
  row : Grows w (fun x => w0.heap.size ≤ x ∧ v.ownBlock ≠ some x) w0.heap.size E k v ds
  fr : Fr b w0 w
  lb : b < w0.heap.size
  lg : g < w0.heap.size
section
variable {w0 w w' w8 : World} {b g k : Nat} {E : TypeId} {s s' : Rd.St} {v v' : Value} {ds : List D} {d : D} {cs xs : List Value}
theorem GI.nil (h : RdAt w b g s) (E : TypeId) (k : Nat) : GI w b g E k s (.slice none 0 0) [] w :=
  ⟨h, Grows.nil _ _ _ _ _, But.refl _ _, h.lt.1, h.lt.2⟩
theorem GI.step (h : GI w0 b g E k s v ds w) (hr : RdAt w' b g s') (hf : Fr b w w') : GI w0 b g E k s' v ds w' := by
  have lb := h.lb
  have hs := h.fr.size
  exact ⟨hr, h.row.to ⟨hf.size, fun x hx hp => ⟨hp, hf.block x hx (by omega)⟩⟩ (fun x hx => ⟨fun hp => hp.2 hx, hf.block x (h.row.lt x hx).2 (by have := (h.row.lt x hx).1; omega)⟩), h.fr.trans hf, h.lb, h.lg⟩
theorem GI.below (h : GI w0 b g E k s v ds w) (hb : Below w.heap.size w w') : GI w0 b g E k s v ds w' := h.step (h.rd.below hb) (But.of_below hb)
/-- One more. -/
theorem GI.more (h : GI w0 b g E k s v ds w) (hx : w.ownsRow w0.heap.size E k v ds.length xs) (hR : RowsD w (fun x => w0.heap.size ≤ x ∧ v.ownBlock ≠ some x) k ds xs) (hd : Reads w (fun x => w0.heap.size ≤ x ∧ v.ownBlock ≠ some x) d cs)
    (hlen : cs.length = k) (hg : w.grownBy w8 v.ownBlock) (hloc : v'.ownBlock = v.ownBlock ∨ v'.ownBlock = some w.heap.size) (hrow : w8.ownsRow w0.heap.size E k v' (ds.length + 1) (xs ++ cs)) : GI w0 b g E k s v' (ds ++ [d]) w8 := by
  have lb := h.lb
  have lg := h.lg
  have hlt := hx.lt
  have e8 : ∀ x, x < w.heap.size → v.ownBlock ≠ some x → w8.heap[x]? = w.heap[x]? := fun x hx3 hn => hg.block x hx3 (fun e => hn e.symm)
  have low : ∀ x, x < w0.heap.size → v.ownBlock ≠ some x := fun x hx2 e => by have := hlt x e; omega
  have hst : Stands w (fun x => w0.heap.size ≤ x ∧ v.ownBlock ≠ some x) w8 (fun x => w0.heap.size ≤ x ∧ v'.ownBlock ≠ some x) := ⟨hg.size, fun x hx2 hp => ⟨⟨hp.1, fun e => by
    rcases hloc with e2 | e2
    · exact hp.2 (by rw [← e2]; exact e)
    · rw [e2] at e
      simp only [Option.some.injEq] at e
      omega⟩, e8 x hx2 hp.2⟩⟩
  refine ⟨h.rd.to hg.size (e8 b h.rd.lt.1 (low b lb)) (e8 g h.rd.lt.2 (low g lg)), ⟨⟨xs ++ cs, ?_, (hR.to hst).snoc (hd.to hst) hlen⟩, fun x e hp => hp.2 e⟩, ⟨hg.os.trans h.fr.os, hg.tape.trans h.fr.tape, hg.output.trans h.fr.output, Nat.le_trans h.fr.size hg.size, fun x hx3 hxb => by rw [e8 x (Nat.lt_of_lt_of_le hx3 h.fr.size) (low x hx3)]; exact h.fr.block x hx3 hxb⟩, lb, lg⟩
  rw [List.length_append]
  exact hrow
/-- The row, told as data. -/
theorem GI.reads (h : GI w0 b g E k s v ds w) : Reads w (fun x => w0.heap.size ≤ x) (.seq k ds) [v] :=
  h.row.reads.to (Stands.sub w (fun x _ hp => by
    rcases hp with hp | hp
    · exact hp.1
    · exact (h.row.lt x hp).1))
/-- A callee's data, as the row takes them. -/
theorem GI.data (h : GI w0 b g E k s v ds w) (hd : Reads w' (fun x => w.heap.size ≤ x) d cs) : Reads w' (fun x => w0.heap.size ≤ x ∧ v.ownBlock ≠ some x) d cs :=
  hd.to (Stands.sub w' (fun x _ hp => ⟨Nat.le_trans h.fr.size hp, fun e => by have h1 := (h.row.lt x e).2; have h2 : w.heap.size ≤ x := hp; omega⟩))
end
end Go.Proofs.YtmgoebfcfgilfaaGreatDoor
namespace Go.Proofs.YtmgoebfcfgilfaaGreatDoor
set_option linter.unusedSimpArgs false
set_option linter.unusedVariables false
open Go Go.RowKit

theorem chain_toks {s : ByteArray} : ∀ {ts : List Lx.Tok} {p q : Nat}, Chain s p ts q → ∀ t ∈ ts, t.kind ≤ 5 ∧ 1 ≤ t.kind ∧ t.at_ < s.size
  | [], _, _, _, t, ht => by simp at ht
  | x :: ts, p, q, h, t, ht => by
    rcases List.mem_cons.1 ht with rfl | ht
    · exact ⟨h.1.k5, h.1.k1, h.1.hi⟩
    · exact chain_toks h.2 t ht
theorem lex_size {l : List UInt8} {ts : List Lx.Tok} (h : Lx.lex l = .ok ts) : l.length ≤ 4096 := by
  unfold Lx.lex at h
  split at h
  · cases h
  · omega
theorem tsOk_of {s : ByteArray} {ts : List Lx.Tok} (h : Lx.lex s.data.toList = .ok ts) (hs : Std s ts) : TsOk ts ∧ 0 < ts.length := by
  have hl : s.size ≤ 4096 := lex_size h
  obtain ⟨pre, rfl, hch⟩ := hs.chain
  have hg : ∀ t ∈ pre, t.text.length ≤ 1000000000 := by
    have h2 := h
    unfold Lx.lex at h2
    rw [if_neg (by have : s.data.toList.length = s.size := rfl; omega)] at h2
    obtain ⟨pre2, e, hp⟩ := Lx.lexGo_good _ _ _ _ _ (by have : s.data.toList.length = s.size := rfl; omega) h2
    rw [List.nil_append] at e
    have : pre = pre2 := (List.append_inj_left' e rfl)
    subst this
    exact fun t ht => (hp t ht).2
  have hm : ∀ t ∈ pre ++ [(⟨0, [], s.size⟩ : Lx.Tok)], t ∈ pre ∨ t = ⟨0, [], s.size⟩ := fun t ht => by simpa using ht
  refine ⟨⟨hs.len, fun t ht => ?_, fun t ht => ?_, fun t ht => ?_, fun t ht => ?_⟩, by simp⟩
  · rw [List.length_append, List.length_singleton, Nat.add_sub_cancel, List.getElem?_append_right (Nat.le_refl _), Nat.sub_self] at ht
    simp at ht
    rw [← ht]
  · rcases hm t ht with h | rfl
    · exact (chain_toks hch t h).1
    · simp
  · rcases hm t ht with h | rfl
    · exact hg t h
    · simp
  · rcases hm t ht with h | rfl
    · have := (chain_toks hch t h).2.2; omega
    · exact hl

/-- Where the tokens of a text stand, if they are tokens. -/
def StdAll (l : List UInt8) : Prop := ∀ ts, Lx.lex l = .ok ts → Std ⟨l.toArray⟩ ts
/-- What 'New' leaves. -/
def NewPost (l : List UInt8) (w : World) (r : Ending) (w' : World) : Prop :=
  Below w.heap.size w w' ∧ StdAll l ∧ ∃ (g cap : Nat) (ts : List Lx.Tok) (a e : Nat), r = .returned (.agg #[.slice (some ⟨g, 0, none⟩) ts.length cap, .int .i64 0, .int .i64 0, .int .i64 a, .int .i64 e]) ∧ w.heap.size ≤ g ∧ TokRow w' g ts ∧ TsOk ts ∧ 0 < ts.length ∧
    Rd.begin_ l = ⟨ts, 0, a, e⟩
/-- A reader laid in memory. -/
theorem NewPost.rdAt {l : List UInt8} {w : World} {b g cap : Nat} {ts : List Lx.Tok} {a e : Nat} {T : TypeId} (hb : w.heap[b]? = some (.cells #[.slice (some ⟨g, 0, none⟩) ts.length cap, .int .i64 0, .int .i64 0, .int .i64 a, .int .i64 e] T (0, 0)))
    (hr : TokRow w g ts) (hne : g ≠ b) (hok : TsOk ts) (hpos : 0 < ts.length) (hbg : Rd.begin_ l = ⟨ts, 0, a, e⟩) : RdAt w b g (Rd.begin_ l) := by
  rw [hbg]
  exact ⟨⟨T, cap, ts, 0, hb, hr, rfl, hpos, hok⟩, hne⟩

theorem new_below {w w1 : World} (hb : Below w.heap.size w w1) (cs : List Value) : Below w.heap.size w (putCells w1 w.heap.size 0 cs) := by
  have ho := putCells_os w.heap.size cs 0 w1
  exact ⟨ho.1.trans hb.os, ho.2.1.trans hb.tape, ho.2.2.trans hb.output, by rw [putCells_size]; exact hb.size, fun k hk => by rw [putCells_ne _ _ (by omega)]; exact hb.block k hk⟩
theorem new_row {w1 : World} {g x : Nat} {ts : List Lx.Tok} (h : TokRow w1 g ts) (hne : g ≠ x) (cs : List Value) : TokRow (putCells w1 x 0 cs) g ts :=
  h.heap (by rw [putCells_size]; exact Nat.le_refl _) (putCells_ne _ _ hne _ _ _)
theorem row_one (w : World) (T : TypeId) : TokRow (w.alloc (.cells #[.int .i64 0, .string ⟨#[]⟩, .int .i64 0] T)) w.heap.size [⟨0, [], 0⟩] := by
  refine ⟨by simp, fun i t ht => ?_, fun i t ht => ?_, fun i t ht => ?_⟩ <;>
  · have hi : i = 0 := by have := (List.getElem?_eq_some_iff.1 ht).1; simp at this; omega
    subst hi
    simp at ht
    subst ht
    exact cell_at_new _ _ _ _ _ _ rfl
theorem tsOk_one : TsOk [(⟨0, [], 0⟩ : Lx.Tok)] := ⟨by simp, fun t ht => by simp at ht; rw [← ht], fun t ht => by simp at ht; subst ht; simp, fun t ht => by simp at ht; subst ht; simp, fun t ht => by simp at ht; subst ht; simp⟩

set_option maxHeartbeats 1000000 in
set_option maxRecDepth 100000 in
theorem rnew_any (s : ByteArray) (w : World) (hs : s.size ≤ 9223372036854775807) (hE : Env w) (h3 : 3 ≤ w.heap.size) :
    Calls Tryz.prog 34 #[.string s] w (NewPost s.data.toList w) := by
  have HE := Lib.hid hE
  have hba : Below w.heap.size w (w.alloc (.cells #[.slice none 0 0, .int .i64 0, .int .i64 0, .int .i64 0, .int .i64 0] 82)) := (Below.refl _ _).alloc (Nat.le_refl _) _
  have HBA := Lib.hid hba
  have hz1 := hba.size
  clear hE
  go_enter Tryz.func34, Tryz.ntmps34
  go_wp2_with fail
  refine (lex_any s _ hs (HE.out.below hba) (by omega)).mono ?_
  rintro r w1 ⟨hb1, hres⟩
  clear hba
  have HB1 := Lib.hid (HBA.out.trans (hb1.mono HBA.out.size))
  have HZ : Hid (w1.heap[w.heap.size]? = some (.cells #[.slice none 0 0, .int .i64 0, .int .i64 0, .int .i64 0, .int .i64 0] 82 (0, 0))) := Lib.hid (by rw [hb1.block w.heap.size (by simp)]; exact heap_at_new _ _)
  have HS1 := Lib.hid hb1.size
  clear hb1
  have z0 := blk_cell HZ.out 0 (.slice none 0 0) rfl
  have z1 := blk_cell HZ.out 1 (.int .i64 0) rfl
  have z2 := blk_cell HZ.out 2 (.int .i64 0) rfl
  have z3 := blk_cell HZ.out 3 (.int .i64 0) rfl
  have z4 := blk_cell HZ.out 4 (.int .i64 0) rfl
  have f0 := blk_free HZ.out 0
  have f1 := blk_free HZ.out 1
  have f2 := blk_free HZ.out 2
  have f3 := blk_free HZ.out 3
  have f4 := blk_free HZ.out 4
  rcases hres with ⟨ts, v, hlx, rfl, ht, hstd⟩ | ⟨a, c, hlx, rfl, hc⟩
  · obtain ⟨hok, hpos⟩ := tsOk_of hlx hstd
    obtain ⟨g, cap, rfl, hg, hrow⟩ := ht.openRow hpos
    have HSTD : Hid (StdAll s.data.toList) := Lib.hid fun ts' h' => by
      rw [hlx] at h'
      obtain rfl := Lx.Res.ok.inj h'
      exact hstd
    have HOK := Lib.hid hok
    have HLX := Lib.hid hlx
    have HROW := Lib.hid hrow
    have HGS := Lib.hid hg
    clear hok hlx hrow ht hstd hg
    have hgx : g ≠ w.heap.size := by have := HGS.out; simp at this; omega
    have HP1 := Lib.hid (new_below HB1.out [.slice (some ⟨g, 0, none⟩) ts.length cap, .int .i64 0, .int .i64 0, .int .i64 0, .int .i64 0])
    have HP2 := Lib.hid (new_row HROW.out hgx [.slice (some ⟨g, 0, none⟩) ts.length cap, .int .i64 0, .int .i64 0, .int .i64 0, .int .i64 0])
    go_wp2_with fail
    have p1 := HP1.out
    have p2 := HP2.out
    simp only [putCells, Nat.reduceAdd, Nat.zero_add] at p1 p2
    refine bodyPost_ret (v := .agg #[.slice (some ⟨g, 0, none⟩) ts.length cap, .int .i64 0, .int .i64 0, .int .i64 0, .int .i64 0]) (by simp [results, Tryz.results34, go_sem, z0, z1, z2, z3, z4]) rfl ?_
    exact ⟨p1, HSTD.out, g, cap, ts, 0, 0, rfl, by have := HGS.out; simp at this; omega, p2, HOK.out, hpos, by unfold Rd.begin_; rw [HLX.out]⟩
  · have hce : ((c : Int) != 0) = true := neT (by omega)
    have hlit : Below w1.heap.size w1 (w1.alloc (.cells #[.int .i64 0, .string ⟨#[]⟩, .int .i64 0] 87)) := (Below.refl _ _).alloc (Nat.le_refl _) _
    have HP1 := Lib.hid (new_below (HB1.out.trans (hlit.mono HB1.out.size)) [.slice (some ⟨w1.heap.size, 0, none⟩) 1 1, .int .i64 0, .int .i64 0, .int .i64 a, .int .i64 c])
    have hgx : w1.heap.size ≠ w.heap.size := by have := HS1.out; simp at this; omega
    have n1 : ¬ w1.heap.size = w.heap.size := hgx
    have n2 : ¬ w.heap.size = w1.heap.size := fun e => hgx e.symm
    have HP2 := Lib.hid (new_row (row_one w1 87) hgx [.slice (some ⟨w1.heap.size, 0, none⟩) 1 1, .int .i64 0, .int .i64 0, .int .i64 a, .int .i64 c])
    have HLX := Lib.hid hlx
    have HSZ := Lib.hid HB1.out.size
    have HZ2 : Hid ((w1.alloc (.cells #[.int .i64 0, .string ⟨#[]⟩, .int .i64 0] 87)).heap[w.heap.size]? = some (.cells #[.slice none 0 0, .int .i64 0, .int .i64 0, .int .i64 0, .int .i64 0] 82 (0, 0))) := Lib.hid (by
      rw [Lib.alloc_old _ _ _ (by have := HS1.out; simp at this; omega)]; exact HZ.out)
    clear hlit hlx z0 z1 z2 z3 z4 f0 f1 f2 f3 f4
    have z0 := blk_cell HZ2.out 0 (.slice none 0 0) rfl
    have z1 := blk_cell HZ2.out 1 (.int .i64 0) rfl
    have z2 := blk_cell HZ2.out 2 (.int .i64 0) rfl
    have z3 := blk_cell HZ2.out 3 (.int .i64 0) rfl
    have z4 := blk_cell HZ2.out 4 (.int .i64 0) rfl
    have f0 := blk_free HZ2.out 0
    have f1 := blk_free HZ2.out 1
    have f2 := blk_free HZ2.out 2
    have f3 := blk_free HZ2.out 3
    have f4 := blk_free HZ2.out 4
    go_wp2_with fail
    have p1 := HP1.out
    have p2 := HP2.out
    simp only [putCells, Nat.reduceAdd, Nat.zero_add] at p1 p2
    refine bodyPost_ret (v := .agg #[.slice (some ⟨w1.heap.size, 0, none⟩) 1 1, .int .i64 0, .int .i64 0, .int .i64 a, .int .i64 c]) (by simp [results, Tryz.results34, go_sem, z0, z1, z2, z3, z4]) rfl ?_
    exact ⟨p1, (fun ts' h' => by rw [HLX.out] at h'; cases h'), w1.heap.size, 1, [⟨0, [], 0⟩], a, c, rfl, HSZ.out, p2, tsOk_one, by simp, by unfold Rd.begin_; rw [HLX.out]⟩
end Go.Proofs.YtmgoebfcfgilfaaGreatDoor
namespace Go.Proofs.YtmgoebfcfgilfaaGreatDoor
set_option linter.unusedSimpArgs false
set_option linter.unusedVariables false
open Go Go.RowKit

theorem below_frv {n b : Nat} {w w2 wr : World} (h : Below n w w2) (hw : n ≤ w.heap.size) (hf : Fr b w2 wr) (hb : n ≤ b) : Below n w wr :=
  ⟨hf.os.trans h.os, hf.tape.trans h.tape, hf.output.trans h.output, Nat.le_trans h.size hf.size, fun k hk => by rw [hf.block k (by have := h.size; omega) (by omega)]; exact h.block k hk⟩
theorem put_cell {w : World} {g x : Nat} (h : x ≠ g) (cs : List Value) (k : Nat) : (putCells w g 0 cs).drew.cell? ⟨x, k, none⟩ = w.cell? ⟨x, k, none⟩ := by
  have e : (putCells w g 0 cs).drew.heap[x]? = w.heap[x]? := putCells_ne g x h cs 0 w
  unfold World.cell?
  dsimp only
  rw [e]
set_option maxRecDepth 100000 in
theorem rend_any (b g : Nat) (s : Rd.St) (w : World) (h : RdAt w b g s) :
    Calls Tryz.prog 108 #[.pointer (some ⟨b, 0, none⟩)] w fun r w' => r = .returned (.tuple #[]) ∧ RdAt w' b g (Rd.fin s) ∧ Fr b w w' := by
  have H := Lib.hid h
  clear h
  go_enter Tryz.func108, Tryz.ntmps108
  go_wp2_with fail
  refine (rpeek_any b g s w H.out).mono ?_
  rintro r w1 ⟨rfl, hb1⟩
  have H1 := Lib.hid (H.out.below hb1)
  have HB1 := Lib.hid hb1
  obtain ⟨tk, htk⟩ : ∃ z, z = Rd.peek s := ⟨_, rfl⟩
  have HTK := Lib.hid htk
  rw [← htk]
  clear hb1 htk
  by_cases hk : tk.kind = 0
  · have e6 := neF (n := tk.kind) (k := 0) (by omega)
    have HF : Hid (Rd.fin s = s) := Lib.hid (by unfold Rd.fin; rw [if_neg (by rw [← HTK.out]; simp [hk])])
    clear hk
    go_wp2_with fail
    go_end0
    exact ⟨rfl, by rw [HF.out]; exact H1.out, But.of_below HB1.out⟩
  · have e6 := neT (n := tk.kind) (k := 0) (by omega)
    have HF : Hid (Rd.fin s = Rd.wrong s) := Lib.hid (by unfold Rd.fin; rw [if_pos (by rw [← HTK.out]; exact hk)])
    clear hk
    go_wp2_with fail
    refine (rwrong_any b g s _ H1.out).mono ?_
    rintro r w2 ⟨rfl, h2, f2⟩
    go_wp2_with fail
    go_end0
    exact ⟨rfl, by rw [HF.out]; exact h2, (But.of_below HB1.out).trans f2⟩

/-- What 'Parse' leaves. -/
def VpPost (l : List UInt8) (fixed : Bool) (w : World) (r : Ending) (w' : World) : Prop :=
  Below w.heap.size w w' ∧ StdAll l ∧
    ((∃ (z : Vl.Z) (a1 a2 : Option Addr) (c1 c2 : Nat), z = Vl.ofV (Vl.parse l fixed).2 ∧ (Vl.parse l fixed).1.err = 0 ∧ r = .returned (.tuple #[.agg #[.int .i64 z.kind, .string ⟨z.text.toArray⟩, .slice a1 z.items.length c1, .slice a2 z.fields.length c2, .int .i64 z.at_], .int .i64 0, .int .i64 0]) ∧
      Reads w' (fun x => w.heap.size ≤ x) z.d [.int .i64 z.kind, .string ⟨z.text.toArray⟩, .slice a1 z.items.length c1, .slice a2 z.fields.length c2, .int .i64 z.at_]) ∨
     ((Vl.parse l fixed).1.err ≠ 0 ∧ r = .returned (.tuple #[.agg #[.int .i64 0, .string ⟨#[]⟩, .slice none 0 0, .slice none 0 0, .int .i64 0], .int .i64 (Vl.parse l fixed).1.at_, .int .i64 (Vl.parse l fixed).1.err])))
set_option maxHeartbeats 2000000 in
set_option maxRecDepth 100000 in
theorem vparse_any (s : ByteArray) (fixed : Bool) (w : World) (hs : s.size ≤ 9223372036854775807) (hE : Env w) (h3 : 3 ≤ w.heap.size) :
    Calls Tryz.prog 47 #[.string s, .bool fixed] w (VpPost s.data.toList fixed w) := by
  have HE := Lib.hid hE
  clear hE
  obtain ⟨w0, hw0⟩ : ∃ z, z = w.alloc (.cells #[.int .i64 0, .string ⟨#[]⟩, .slice none 0 0, .slice none 0 0, .int .i64 0] 49) := ⟨_, rfl⟩
  have hb0 : Below w.heap.size w w0 := by rw [hw0]; exact (Below.refl _ _).alloc (Nat.le_refl _) _
  have hsz0 : w0.heap.size = w.heap.size + 1 := by rw [hw0]; simp
  have hz0 : w0.heap[w.heap.size]? = some (.cells #[.int .i64 0, .string ⟨#[]⟩, .slice none 0 0, .slice none 0 0, .int .i64 0] 49 (0, 0)) := by rw [hw0]; exact heap_at_new _ _
  have HW0 := Lib.hid hw0
  have HB0 := Lib.hid hb0
  have HZ0 := Lib.hid hz0
  have HC := Lib.hid (rnew_any s w0 hs (HE.out.below hb0) (by omega))
  rw [hw0] at HC
  clear hw0 hb0 hz0
  go_enter Tryz.func47, Tryz.ntmps47
  go_wp2_with fail
  refine HC.out.mono ?_
  rw [← HW0.out]
  rintro r w1 ⟨hb1, hstd, g, cap, ts, a, e, rfl, hg, hrow, hok, hpos, hbg⟩
  obtain ⟨w2, hw2⟩ : ∃ z, z = w1.alloc (.cells #[.slice (some ⟨g, 0, none⟩) ts.length cap, .int .i64 0, .int .i64 0, .int .i64 a, .int .i64 e] 82) := ⟨_, rfl⟩
  obtain ⟨s0, hs0⟩ : ∃ z, z = Rd.begin_ s.data.toList := ⟨_, rfl⟩
  have hb2 : Below w1.heap.size w1 w2 := by rw [hw2]; exact (Below.refl _ _).alloc (Nat.le_refl _) _
  have hR : RdAt w2 w1.heap.size g s0 := by
    rw [hs0]
    have hgl := hrow.lt
    exact NewPost.rdAt (T := 82) (by rw [hw2]; exact heap_at_new _ _) (hrow.heap hb2.size (hb2.block g hgl)) (by omega) hok hpos hbg
  have HSTD := Lib.hid hstd
  have HBW := Lib.hid (HB0.out.trans ((hb1.trans (hb2.mono hb1.size)).mono HB0.out.size))
  have hm := hR.rest_len
  obtain ⟨n, hn⟩ : ∃ z, z = s0.rest.length := ⟨_, rfl⟩
  have HPG : Hid ((Vl.parse s.data.toList fixed).1 = Rd.fin (Rd.value fixed (n + 1) s0).1 ∧ Vl.ofV (Vl.parse s.data.toList fixed).2 = Vl.ofV (Rd.value fixed (n + 1) s0).2) := by rw [hn, hs0]; exact Lib.hid ⟨rfl, rfl⟩
  have hd0 : s0.deep = 0 := by rw [hs0, hbg]
  have hnb : n ≤ 1501 := by omega
  have hsz1 := hb1.size
  have HZ2 : Hid (w2.heap[w.heap.size]? = some (.cells #[.int .i64 0, .string ⟨#[]⟩, .slice none 0 0, .slice none 0 0, .int .i64 0] 49 (0, 0))) := Lib.hid (by
    rw [hb2.block w.heap.size (by omega), hb1.block w.heap.size (by omega)]; exact HZ0.out)
  have HCV := Lib.hid (rvalue_any w1.heap.size g fixed n (by omega) s0 w2 hR (by omega) ⟨by omega, by omega⟩)
  have hne : w.heap.size ≠ w1.heap.size := by omega
  have HX := Lib.hid hw2
  rw [hw2] at HCV
  clear hstd hs0 hn hbg hb2 hR hrow hok hb1 hm hg hw2 HC
  go_wp2_with fail
  refine HCV.out.mono ?_
  rw [← HX.out]
  rintro r w3 ⟨cs, rfl, hrd, hr3, hf3⟩
  rw [← Vl.ofV_d] at hrd
  obtain ⟨v, hv⟩ : ∃ z, z = Vl.ofV (Rd.value fixed (n + 1) s0).2 := ⟨_, rfl⟩
  obtain ⟨s3, hs3⟩ : ∃ z, z = (Rd.value fixed (n + 1) s0).1 := ⟨_, rfl⟩
  rw [← hv] at hrd HPG
  rw [← hs3] at hr3 HPG
  obtain ⟨a1, a2, c1, c2, rfl, -, -⟩ := Z_open hrd
  obtain ⟨w4, hw4⟩ : ∃ z, z = w3.alloc (.cells #[.int .i64 v.kind, .string ⟨v.text.toArray⟩, .slice a1 v.items.length c1, .slice a2 v.fields.length c2, .int .i64 v.at_] 49) := ⟨_, rfl⟩
  have hb4 : Below w3.heap.size w3 w4 := by rw [hw4]; exact (Below.refl _ _).alloc (Nat.le_refl _) _
  have hz4 : w4.heap[w3.heap.size]? = some (.cells #[.int .i64 v.kind, .string ⟨v.text.toArray⟩, .slice a1 v.items.length c1, .slice a2 v.fields.length c2, .int .i64 v.at_] 49 (0, 0)) := by rw [hw4]; exact heap_at_new _ _
  have HZ4 := Lib.hid hz4
  have hs2 : w2.heap.size = w1.heap.size + 1 := by rw [HX.out]; simp
  have hs23 := hf3.size
  have HF4 := Lib.hid (hf3.trans (But.of_below hb4))
  have HRD4 := Lib.hid (hrd.to (Stands.below hb4))
  have HCE := Lib.hid (rend_any w1.heap.size g s3 w4 (hr3.below hb4))
  have HW4 := Lib.hid hw4
  rw [hw4] at HCE
  have hs34 := hb4.size
  clear hrd hr3 hf3 hb4 hz4 hw4 hv hs3 HCV
  go_wp2_with fail
  refine HCE.out.mono ?_
  rw [← HW4.out]
  rintro r w5 ⟨rfl, hr5, hf5⟩
  obtain ⟨s5, hs5⟩ : ∃ z, z = Rd.fin s3 := ⟨_, rfl⟩
  rw [← hs5] at hr5 HPG
  have c4' := hr5.c4
  have c3' := hr5.c3
  have HF5 := Lib.hid (HF4.out.trans hf5)
  have HZ5 : Hid (w5.heap[w3.heap.size]? = some (.cells #[.int .i64 v.kind, .string ⟨v.text.toArray⟩, .slice a1 v.items.length c1, .slice a2 v.fields.length c2, .int .i64 v.at_] 49 (0, 0))) := Lib.hid (by
    rw [hf5.block _ (block_lt HZ4.out) (by show ¬ w3.heap.size = w1.heap.size; omega)]; exact HZ4.out)
  have HY5 : Hid (w5.heap[w.heap.size]? = some (.cells #[.int .i64 0, .string ⟨#[]⟩, .slice none 0 0, .slice none 0 0, .int .i64 0] 49 (0, 0))) := Lib.hid (by
    rw [HF5.out.block _ (block_lt HZ2.out) (by show ¬ w.heap.size = w1.heap.size; omega)]; exact HZ2.out)
  have HRD5 : Hid (Reads w5 (fun x => w2.heap.size ≤ x) v.d [.int .i64 v.kind, .string ⟨v.text.toArray⟩, .slice a1 v.items.length c1, .slice a2 v.fields.length c2, .int .i64 v.at_]) :=
    Lib.hid (HRD4.out.to (Stands.but hf5 (fun x hx e => by have e' : x = w1.heap.size := e; omega)))
  have HB5 : Hid (Below w.heap.size w w5) := Lib.hid (below_frv (b := w1.heap.size) HBW.out (Nat.le_refl _) HF5.out (by omega))
  clear hr5 hf5 hs5 HCE
  have q0 := blk_cell HY5.out 0 (.int .i64 0) rfl
  have q1 := blk_cell HY5.out 1 (.string ⟨#[]⟩) rfl
  have q2 := blk_cell HY5.out 2 (.slice none 0 0) rfl
  have q3 := blk_cell HY5.out 3 (.slice none 0 0) rfl
  have q4 := blk_cell HY5.out 4 (.int .i64 0) rfl
  have f0 := blk_free HY5.out 0
  have f1 := blk_free HY5.out 1
  have f2 := blk_free HY5.out 2
  have f3 := blk_free HY5.out 3
  have f4 := blk_free HY5.out 4
  by_cases he : s5.err = 0
  · have e5 := neF (n := s5.err) (k := 0) (by omega)
    have HERR := Lib.hid he
    have z0 := blk_cell HZ5.out 0 (.int .i64 v.kind) rfl
    have z1 := blk_cell HZ5.out 1 (.string ⟨v.text.toArray⟩) rfl
    have z2 := blk_cell HZ5.out 2 (.slice a1 v.items.length c1) rfl
    have z3 := blk_cell HZ5.out 3 (.slice a2 v.fields.length c2) rfl
    have z4 := blk_cell HZ5.out 4 (.int .i64 v.at_) rfl
    clear he
    have n1 : ¬ w3.heap.size = w.heap.size := by omega
    have n2 : ¬ w.heap.size = w3.heap.size := by omega
    go_wp2_with fail
    refine bodyPost_ret (v := .tuple #[.agg #[.int .i64 v.kind, .string ⟨v.text.toArray⟩, .slice a1 v.items.length c1, .slice a2 v.fields.length c2, .int .i64 v.at_], .int .i64 0, .int .i64 0]) (by simp [results, Tryz.results47, go_sem, q0, q1, q2, q3, q4]) rfl ?_
    have hb6 := new_below HB5.out [.int .i64 v.kind, .string ⟨v.text.toArray⟩, .slice a1 v.items.length c1, .slice a2 v.fields.length c2, .int .i64 v.at_]
    have hst : Stands w5 (fun x => w2.heap.size ≤ x) (putCells w5 w.heap.size 0 [.int .i64 v.kind, .string ⟨v.text.toArray⟩, .slice a1 v.items.length c1, .slice a2 v.fields.length c2, .int .i64 v.at_]) (fun x => w.heap.size ≤ x) :=
      ⟨by rw [putCells_size]; exact Nat.le_refl _, fun x _ hx => ⟨by show w.heap.size ≤ x; omega, putCells_ne _ _ (by show ¬ x = w.heap.size; omega) _ _ _⟩⟩
    have hrd := HRD5.out.to hst
    exact ⟨hb6, HSTD.out, .inl ⟨v, a1, a2, c1, c2, HPG.out.2.symm, by rw [HPG.out.1]; exact HERR.out, rfl, hrd⟩⟩
  · have e5 := neT (n := s5.err) (k := 0) (by omega)
    have HERR := Lib.hid he
    clear he
    go_wp2_with fail
    have hS : w5.cell? ⟨w1.heap.size, 3, none⟩ = some (.int .i64 s5.at_) ∧ w5.cell? ⟨w1.heap.size, 4, none⟩ = some (.int .i64 s5.err) := ⟨c3', c4'⟩
    refine wp_region_phase (fun w' => w'.cell? ⟨w1.heap.size, 3, none⟩ = some (.int .i64 s5.at_) ∧ w'.cell? ⟨w1.heap.size, 4, none⟩ = some (.int .i64 s5.err)) 8 (by kernel_rfl) ?_
    refine wpAnyB_take (i := 0) (v := (.agg #[.int .i64 0, .string ⟨#[]⟩, .slice none 0 0, .slice none 0 0, .int .i64 0])) (by kernel_rfl) (by decide) rfl (by kernel_rfl) (by kernel_rfl) (by kernel_rfl) (fun _ _ _ h => h) (Or.inl ⟨by rfl, fun w hSw => by obtain ⟨s3, s4⟩ := hSw; go_simp⟩) hS ?_; simp only [Act.put, Array.getInternal_eq_getElem, List.getElem_toArray, List.getElem_cons_zero, List.getElem_cons_succ, List.setIfInBounds_toArray, List.set_cons_zero, List.set_cons_succ]
    refine wpAnyB_take (i := 1) (v := (.pointer (some ⟨w1.heap.size, 3, none⟩))) (by kernel_rfl) (by decide) rfl (by kernel_rfl) (by kernel_rfl) (by kernel_rfl) (fun _ _ _ h => h) (Or.inl ⟨by rfl, fun w hSw => by obtain ⟨s3, s4⟩ := hSw; go_simp⟩) hS ?_; simp only [Act.put, Array.getInternal_eq_getElem, List.getElem_toArray, List.getElem_cons_zero, List.getElem_cons_succ, List.setIfInBounds_toArray, List.set_cons_zero, List.set_cons_succ]
    refine wpAnyB_take (i := 2) (v := (.int .i64 s5.at_)) (by kernel_rfl) (by decide) rfl (by kernel_rfl) (by kernel_rfl) (by kernel_rfl) (fun _ _ _ h => h) (Or.inl ⟨by rfl, fun w hSw => by obtain ⟨s3, s4⟩ := hSw; go_simp⟩) hS ?_; simp only [Act.put, Array.getInternal_eq_getElem, List.getElem_toArray, List.getElem_cons_zero, List.getElem_cons_succ, List.setIfInBounds_toArray, List.set_cons_zero, List.set_cons_succ]
    refine wpAnyB_take (i := 3) (v := (.pointer (some ⟨w1.heap.size, 4, none⟩))) (by kernel_rfl) (by decide) rfl (by kernel_rfl) (by kernel_rfl) (by kernel_rfl) (fun _ _ _ h => h) (Or.inl ⟨by rfl, fun w hSw => by obtain ⟨s3, s4⟩ := hSw; go_simp⟩) hS ?_; simp only [Act.put, Array.getInternal_eq_getElem, List.getElem_toArray, List.getElem_cons_zero, List.getElem_cons_succ, List.setIfInBounds_toArray, List.set_cons_zero, List.set_cons_succ]
    refine wpAnyB_take (i := 4) (v := (.int .i64 s5.err)) (by kernel_rfl) (by decide) rfl (by kernel_rfl) (by kernel_rfl) (by kernel_rfl) (fun _ _ _ h => h) (Or.inl ⟨by rfl, fun w hSw => by obtain ⟨s3, s4⟩ := hSw; go_simp⟩) hS ?_; simp only [Act.put, Array.getInternal_eq_getElem, List.getElem_toArray, List.getElem_cons_zero, List.getElem_cons_succ, List.setIfInBounds_toArray, List.set_cons_zero, List.set_cons_succ]
    refine wpAnyB_one (i := 5) (by kernel_rfl) ?_
    refine wpOp_intro (by decide) (fun K5 HK5 => ?_); simp only [List.drop_succ_cons, List.drop_zero, List.take_succ_cons, List.take_zero]
    go_wp2_with fail
    have hS2 : (putCells w5 w.heap.size 0 [.int .i64 0, .string ⟨#[]⟩, .slice none 0 0, .slice none 0 0, .int .i64 0]).drew.cell? ⟨w1.heap.size, 3, none⟩ = some (.int .i64 s5.at_) ∧ (putCells w5 w.heap.size 0 [.int .i64 0, .string ⟨#[]⟩, .slice none 0 0, .slice none 0 0, .int .i64 0]).drew.cell? ⟨w1.heap.size, 4, none⟩ = some (.int .i64 s5.err) := by
      have hq := fun k => put_cell (w := w5) (show w1.heap.size ≠ w.heap.size by omega) [.int .i64 0, .string ⟨#[]⟩, .slice none 0 0, .slice none 0 0, .int .i64 0] k
      exact ⟨(hq 3).trans hS.1, (hq 4).trans hS.2⟩
    refine HK5.out _ _ ⟨fun _ => hS2, ?_⟩
    clear HK5
    refine wpAnyB_take (i := 6) (v := (.int .i64 s5.at_)) (by kernel_rfl) (by decide) rfl (by kernel_rfl) (by kernel_rfl) (by kernel_rfl) (fun _ _ _ h => h) (Or.inl ⟨by rfl, fun w hSw => by obtain ⟨s3, s4⟩ := hSw; go_simp⟩) hS2 ?_; simp only [Act.put, Array.getInternal_eq_getElem, List.getElem_toArray, List.getElem_cons_zero, List.getElem_cons_succ, List.setIfInBounds_toArray, List.set_cons_zero, List.set_cons_succ]
    refine wpAnyB_take (i := 7) (v := (.int .i64 s5.err)) (by kernel_rfl) (by decide) rfl (by kernel_rfl) (by kernel_rfl) (by kernel_rfl) (fun _ _ _ h => h) (Or.inl ⟨by rfl, fun w hSw => by obtain ⟨s3, s4⟩ := hSw; go_simp⟩) hS2 ?_; simp only [Act.put, Array.getInternal_eq_getElem, List.getElem_toArray, List.getElem_cons_zero, List.getElem_cons_succ, List.setIfInBounds_toArray, List.set_cons_zero, List.set_cons_succ]
    refine wpAnyB_done (by kernel_rfl) ?_ _
    go_wp2
    refine bodyPost_ret (v := .tuple #[.agg #[.int .i64 0, .string ⟨#[]⟩, .slice none 0 0, .slice none 0 0, .int .i64 0], .int .i64 s5.at_, .int .i64 s5.err]) (by simp [results, Tryz.results47, go_sem, q0, q1, q2, q3, q4]) rfl ?_
    have hb6 := new_below HB5.out [.int .i64 0, .string ⟨#[]⟩, .slice none 0 0, .slice none 0 0, .int .i64 0]
    refine ⟨⟨hb6.os, hb6.tape, hb6.output, hb6.size, hb6.block⟩, HSTD.out, .inr ⟨by rw [HPG.out.1]; exact HERR.out, by rw [HPG.out.1]⟩⟩
end Go.Proofs.YtmgoebfcfgilfaaGreatDoor
namespace Go.Proofs.YtmgoebfcfgilfaaGreatDoor
set_option linter.unusedSimpArgs false
set_option linter.unusedVariables false
open Go Go.RowKit
open Go.Maps Go.WideMaps

theorem field_kind (cs : Array Value) (n : Int) (w : World) (h : cs[0]? = some (.int .i64 n)) : (Instr.field 63 (.agg cs) 0).run Tryz.prog w = .ok (.int .i64 n) w := by
  have u := run_underlying (w := w) Tryz.underlying63
  have a3 := Tryz.isAgg3
  simp [Instr.field, u, asAgg, part, a3, h]
set_option maxRecDepth 100000 in
theorem tkind_any (b : Nat) (s : List UInt8) (w : World) (hT : TypesAt w b) (hs : s ∈ Tp.names) :
    Calls Tryz.prog 165 #[.pointer (some ⟨b, 0, none⟩), .string ⟨s.toArray⟩] w fun e w' => e = .returned (.int .i64 1) ∧ w' = w := by
  obtain ⟨mb, h1, h2⟩ := hT.box
  have hsl : s.length ≤ 100 := by
    have hm := hs
    simp only [Tp.names, List.mem_cons, List.not_mem_nil, or_false] at hm
    rcases hm with rfl | rfl | rfl | rfl | rfl <;> decide
  have hkey := keyOf_string_mk Tryz.underlying9 (s := ⟨s.toArray⟩) (show s.length ≤ maxLen by unfold maxLen; omega)
  obtain ⟨v, ps, hrun, hv⟩ := World.ownsMap.lookup (t := 111) (e := 63) h2 tyKeyed Tryz.underlying111 (Tryz.zeroValue63 w) (zd := .lit (.int .i64 0)) (zp := []) rfl hkey
  rw [show (⟨s.toArray⟩ : ByteArray).data.toList = s from rfl, Tp.data_get s hs] at hv
  obtain ⟨cs, n, rfl, hc, hn⟩ := kindR_inv hv
  simp only [DataW.lit.injEq, Lit.int.injEq, true_and] at hn
  subst hn
  have hf := field_kind cs 1 w hc
  have x0 : w.cell? ⟨b, 0, none⟩ = some (.map (some mb)) := by unfold World.cell?; dsimp only; rw [h1]; rfl
  clear hT h1 h2 hv hc hkey
  go_enter Tryz.func165, Tryz.ntmps165
  go_wp2_with fail
  go_ret
  exact ⟨rfl, rfl⟩
set_option maxRecDepth 100000 in
theorem nonnull_any (s : ByteArray) (b : Bool) (hs : s.size ≤ 1000) (hb : Lib.hasSuffix s.data.toList [33] = b) (w : World) : Calls Tryz.prog 161 #[.string s] w fun e w' => e = .returned (.bool b) ∧ w' = w := by
  have h := Tryz.strings_HasSuffix s ⟨#[33]⟩ w (by omega)
  rw [show Lib.hasSuffix s.data.toList (ByteArray.data ⟨#[33]⟩).toList = b from hb] at h
  clear hb hs
  go_enter Tryz.func161, Tryz.ntmps161
  go_wp2_with fail
  refine h.mono ?_
  rintro e w1 ⟨rfl, rfl⟩
  go_wp2_with fail
  go_ret
  exact ⟨rfl, rfl⟩
set_option maxRecDepth 100000 in
theorem nullable_any (s t : ByteArray) (hs : s.size ≤ 1000) (ht : (⟨(Lib.trimSuffix s.data.toList [33]).toArray⟩ : ByteArray) = t) (w : World) : Calls Tryz.prog 163 #[.string s] w fun e w' => e = .returned (.string t) ∧ w' = w := by
  have h := Tryz.strings_TrimSuffix s ⟨#[33]⟩ w (by omega)
  rw [show (⟨(Lib.trimSuffix s.data.toList (ByteArray.data ⟨#[33]⟩).toList).toArray⟩ : ByteArray) = t from ht] at h
  clear ht hs
  go_enter Tryz.func163, Tryz.ntmps163
  go_wp2_with fail
  refine h.mono ?_
  rintro e w1 ⟨rfl, rfl⟩
  go_wp2_with fail
  go_ret
  exact ⟨rfl, rfl⟩
set_option maxRecDepth 100000 in
theorem item_not (s : ByteArray) (hs : s.size ≤ 1000) (ht : (⟨(Lib.trimSuffix s.data.toList [33]).toArray⟩ : ByteArray) = s) (hp : Lib.hasPrefix s.data.toList [91] = false) (w : World) : Calls Tryz.prog 164 #[.string s] w fun e w' => e = .returned (.tuple #[.string ⟨#[]⟩, .bool false]) ∧ w' = w := by
  have h1 := nullable_any s s hs ht w
  have h2 := Tryz.strings_CutPrefix s ⟨#[91]⟩ w
  rw [show Lib.hasPrefix s.data.toList (ByteArray.data ⟨#[91]⟩).toList = false from hp] at h2
  obtain ⟨u, hu⟩ : ∃ u, u = (⟨(Lib.trimPrefix s.data.toList (ByteArray.data ⟨#[91]⟩).toList).toArray⟩ : ByteArray) := ⟨_, rfl⟩
  rw [← hu] at h2
  clear ht hs hp hu
  go_enter Tryz.func164, Tryz.ntmps164
  go_wp2_with fail
  refine h1.mono ?_
  rintro e w1 ⟨rfl, rfl⟩
  go_wp2_with fail
  refine h2.mono ?_
  rintro e w1 ⟨rfl, rfl⟩
  go_wp2_with fail
  go_ret2
  exact ⟨rfl, rfl⟩
set_option maxRecDepth 100000 in
theorem item_list (s t : ByteArray) (hs : s.size ≤ 1000) (ht : (⟨(Lib.trimSuffix s.data.toList [33]).toArray⟩ : ByteArray) = s) (hp : Lib.hasPrefix s.data.toList [91] = true)
    (hi : (⟨(Lib.trimSuffix (Lib.trimPrefix s.data.toList [91]) [93]).toArray⟩ : ByteArray) = t) (hl : (Lib.trimPrefix s.data.toList [91]).length ≤ 1000) (w : World) : Calls Tryz.prog 164 #[.string s] w fun e w' => e = .returned (.tuple #[.string t, .bool true]) ∧ w' = w := by
  have h1 := nullable_any s s hs ht w
  have h2 := Tryz.strings_CutPrefix s ⟨#[91]⟩ w
  rw [show Lib.hasPrefix s.data.toList (ByteArray.data ⟨#[91]⟩).toList = true from hp, show Lib.trimPrefix s.data.toList (ByteArray.data ⟨#[91]⟩).toList = Lib.trimPrefix s.data.toList [91] from rfl] at h2
  obtain ⟨u, hu⟩ : ∃ u, u = (⟨(Lib.trimPrefix s.data.toList [91]).toArray⟩ : ByteArray) := ⟨_, rfl⟩
  have h3 := Tryz.strings_TrimSuffix u ⟨#[93]⟩ w (by rw [hu]; show (List.toArray _).size ≤ _; simp; omega)
  rw [show (⟨(Lib.trimSuffix u.data.toList (ByteArray.data ⟨#[93]⟩).toList).toArray⟩ : ByteArray) = t by rw [hu]; exact hi] at h3
  rw [← hu] at h2
  clear ht hs hp hu hi hl
  go_enter Tryz.func164, Tryz.ntmps164
  go_wp2_with fail
  refine h1.mono ?_
  rintro e w1 ⟨rfl, rfl⟩
  go_wp2_with fail
  refine h2.mono ?_
  rintro e w1 ⟨rfl, rfl⟩
  go_wp2_with fail
  refine h3.mono ?_
  rintro e w1 ⟨rfl, rfl⟩
  go_wp2_with fail
  go_ret2
  exact ⟨rfl, rfl⟩

/-- What looks at values: its block, what it has found. -/
structure LkAt (w : World) (base xb tb : Nat) (fv : Value) (l : List Cp.Pb) : Prop where
  box : w.heap[xb]? = some (.cells #[.pointer (some ⟨tb, 0, none⟩), fv] 169 (0, 0))
  own : OwnP w base fv l
  ne : ∀ g, fv.ownBlock = some g → g ≠ xb
  hx : base ≤ xb
section
variable {w w' : World} {base xb tb : Nat} {fv : Value} {l : List Cp.Pb}
theorem LkAt.lt (h : LkAt w base xb tb fv l) : xb < w.heap.size := block_lt h.box
theorem LkAt.keep (h : LkAt w base xb tb fv l) (hb : Below w.heap.size w w') : LkAt w' base xb tb fv l :=
  ⟨by rw [hb.block _ h.lt]; exact h.box, h.own.keep hb, h.ne, h.hx⟩
theorem LkAt.c0 (h : LkAt w base xb tb fv l) : w.cell? ⟨xb, 0, none⟩ = some (.pointer (some ⟨tb, 0, none⟩)) := by unfold World.cell?; dsimp only; rw [h.box]; rfl
theorem LkAt.c1 (h : LkAt w base xb tb fv l) : w.cell? ⟨xb, 1, none⟩ = some fv := by unfold World.cell?; dsimp only; rw [h.box]; rfl
theorem LkAt.f1 (h : LkAt w base xb tb fv l) : w.frozen? ⟨xb, 1, none⟩ = false := by unfold World.frozen?; dsimp only; rw [h.box]; rfl
end
/-- What looking at a value turns: the looker's block, and the row of what it has found. -/
structure LkTo (w w' : World) (xb : Nat) (fv fv' : Value) : Prop where
  but : But (fun k => k = xb ∨ fv.ownBlock = some k) w w'
  own : ∀ g, fv'.ownBlock = some g → fv.ownBlock = some g ∨ w.heap.size ≤ g
section
variable {w w1 w' : World} {base xb tb : Nat} {fv fv1 fv' : Value} {l : List Cp.Pb}
theorem LkTo.of_below (h : Below w.heap.size w w') : LkTo w w' xb fv fv :=
  ⟨⟨h.os, h.tape, h.output, h.size, fun k hk _ => h.block k hk⟩, fun g hg => .inl hg⟩
theorem LkTo.trans (h : LkTo w w1 xb fv fv1) (k : LkTo w1 w' xb fv1 fv') : LkTo w w' xb fv fv' := by
  refine ⟨⟨k.but.os.trans h.but.os, k.but.tape.trans h.but.tape, k.but.output.trans h.but.output, Nat.le_trans h.but.size k.but.size, fun j hj hx => ?_⟩, fun g hg => ?_⟩
  · rw [k.but.block j (Nat.lt_of_lt_of_le hj h.but.size) (fun e => ?_)]
    · exact h.but.block j hj hx
    · rcases e with e | e
      · exact hx (.inl e)
      · rcases h.own j e with e2 | e2
        · exact hx (.inr e2)
        · omega
  · rcases k.own g hg with e | e
    · exact h.own g e
    · exact .inr (Nat.le_trans h.but.size e)
theorem LkTo.below (h : LkTo w w' xb fv fv') (ho : LkAt w base xb tb fv l) : Below base w w' :=
  ⟨h.but.os, h.but.tape, h.but.output, h.but.size, fun k hk => h.but.block k (by have := ho.hx; have := ho.lt; omega) (fun e => by
    rcases e with e | e
    · have := ho.hx; omega
    · have := (ho.own.lt k e).1; omega)⟩
theorem LkTo.cell (h : LkTo w w' xb fv fv') {p : Addr} (hp : p.block < w.heap.size) (hx : p.block ≠ xb) (hf : fv.ownBlock ≠ some p.block) : w'.cell? p = w.cell? p := by
  unfold World.cell?
  rw [h.but.block _ hp (fun e => e.elim hx hf)]
end
set_option maxRecDepth 100000 in
theorem tell_any (base xb tb : Nat) (fv : Value) (l : List Cp.Pb) (rule at_ : Int) (w : World) (h : LkAt w base xb tb fv l) (hl : l.length ≤ 1000000) :
    Calls Tryz.prog 162 #[.pointer (some ⟨xb, 0, none⟩), .int .i64 rule, .int .i64 at_] w fun e w' => e = .returned (.tuple #[]) ∧ ∃ fv', LkAt w' base xb tb fv' (l ++ [(rule, at_)]) ∧ LkTo w w' xb fv fv' := by
  obtain ⟨fa, fn, fc, hf, HF⟩ := OwnP.form h.own
  subst hf
  have hb0 : Below w.heap.size w (w.alloc (.cells #[.int .i64 rule, .int .i64 at_] 42)) := (Below.refl _ _).alloc (Nat.le_refl _) _
  have H := Lib.hid (h.keep hb0)
  have HS := Lib.hid h.lt
  have c1 := h.c1
  have E0 := Lib.hid (cell_at_new w #[.int .i64 rule, .int .i64 at_] 42 (0, 0) 0 _ rfl)
  have E1 := Lib.hid (cell_at_new w #[.int .i64 rule, .int .i64 at_] 42 (0, 0) 1 _ rfl)
  have hbase : base ≤ (w.alloc (.cells #[.int .i64 rule, .int .i64 at_] 42)).heap.size := by have := h.hx; have := h.lt; simp; omega
  have HB := Lib.hid hbase
  have HB0 := Lib.hid hb0
  have HL : Hid (l.length ≤ 1000000000) := Lib.hid (by omega)
  clear h hb0 hbase
  go_enter Tryz.func162, Tryz.ntmps162
  go_wp2_with (first | (at_builtin; refine wpList_append_pb rfl _ _ rfl base (.slice fa fn fc) l rfl H.out.own (rule, at_) w.heap.size rfl E0.out E1.out HL.out HB.out ?_; intro v' w5 hown hgrow hloc; obtain ⟨va, vn, vc, hve, HVN⟩ := OwnP.form hown; subst hve; have HO := Lib.hid hown; have HGR := Lib.hid hgrow; have HLOC := Lib.hid hloc; clear hloc; have hx5 : w5.heap[xb]? = some (.cells #[.pointer (some ⟨tb, 0, none⟩), .slice fa fn fc] 169 (0, 0)) := (by rw [hgrow.block xb H.out.lt (fun e => H.out.ne xb e.symm rfl)]; exact H.out.box); have y1 : w5.cell? ⟨xb, 1, none⟩ = some (.slice fa fn fc) := (by unfold World.cell?; dsimp only; rw [hx5]; rfl); have yf : w5.frozen? ⟨xb, 1, none⟩ = false := (by unfold World.frozen?; dsimp only; rw [hx5]; rfl); have HX5 := Lib.hid hx5; clear hown hgrow hx5) | fail)
  go_end0
  refine ⟨rfl, .slice va vn vc, ⟨?_, ?_, ?_, H.out.hx⟩, ?_⟩
  · simp [World.setCell, Array.getElem?_modify, HX5.out]
  · refine HO.out.heap fun g hg => ?_
    rw [Below.heap_setCell _ _ _ _ ?_]
    show g ≠ xb
    rcases HLOC.out with e | e
    · exact H.out.ne g (by rw [← e]; exact hg)
    · rw [e] at hg
      have h1 : g = (w.alloc (.cells #[.int .i64 rule, .int .i64 at_] 42)).heap.size := (Option.some.inj hg).symm
      have h2 := HS.out
      rw [h1]
      simp
      omega
  · intro g hg
    rcases HLOC.out with e | e
    · exact H.out.ne g (by rw [← e]; exact hg)
    · rw [e] at hg
      have h1 : g = (w.alloc (.cells #[.int .i64 rule, .int .i64 at_] 42)).heap.size := (Option.some.inj hg).symm
      have h2 := HS.out
      rw [h1]
      simp
      omega
  · refine ⟨⟨HGR.out.os, HGR.out.tape, HGR.out.output, ?_, fun k hk hx => ?_⟩, fun g hg => ?_⟩
    · have h1 := HGR.out.size
      have h2 := HB0.out.size
      show w.heap.size ≤ (World.setCell _ _ _).heap.size
      simp [World.setCell]
      omega
    · rw [Below.heap_setCell _ _ _ _ (by show k ≠ xb; exact fun e => hx (.inl e)), HGR.out.block k (Nat.lt_of_lt_of_le hk HB0.out.size) (fun e => hx (.inr e.symm)), HB0.out.block k hk]
    · rcases HLOC.out with e | e
      · exact .inl (by rw [← e]; exact hg)
      · rw [e] at hg
        have h1 : g = (w.alloc (.cells #[.int .i64 rule, .int .i64 at_] 42)).heap.size := (Option.some.inj hg).symm
        exact .inr (by rw [h1]; exact HB0.out.size)
end Go.Proofs.YtmgoebfcfgilfaaGreatDoor
namespace Go.Proofs.YtmgoebfcfgilfaaGreatDoor
set_option linter.unusedSimpArgs false
set_option linter.unusedVariables false
open Go Go.RowKit
open Go.Maps Go.WideMaps

/-- The library's variable of a number out of range. -/
def RangeVar (w : World) : Prop := ∃ te pe, w.cell? ⟨4, 0, none⟩ = some (.iface te pe)
theorem RangeVar.below {w w' : World} (h : RangeVar w) (hb : Below w.heap.size w w') : RangeVar w' := by
  obtain ⟨te, pe, h1⟩ := h
  exact ⟨te, pe, by rw [hb.cell (cellLtP h1)]; exact h1⟩
/-- A text is a number of 32 bits, or one that is out of their range. -/
def Num32 (s : ByteArray) (b : Bool) : Prop := (b = true ∧ ∃ v, Lib.parseIntB 32 s.data.toList = .ok v) ∨ (b = false ∧ Lib.parseIntB 32 s.data.toList = .range)
theorem parse32_any (s : ByteArray) (b : Bool) (w : World) (h : Num32 s b) (hs : s.size ≤ 100000) (hR : RangeVar w) :
    Calls Tryz.prog 218 #[.string s, .int .i64 10, .int .i64 32] w fun e w' => ∃ n ev, e = .returned (.tuple #[.int .i64 n, ev]) ∧ ((b = true ∧ ev = .nilIface) ∨ (b = false ∧ ∃ te pe, ev = .iface te pe)) ∧ Below w.heap.size w w' := by
  rcases h with ⟨rfl, v, hv⟩ | ⟨rfl, hv⟩
  · refine (Tryz.strconv_ParseInt_10_at32_ok s (by omega) v hv w).mono ?_
    rintro e w' ⟨rfl, hw⟩
    refine ⟨_, _, rfl, .inl ⟨rfl, rfl⟩, ?_⟩
    rcases hw with rfl | ⟨t, rfl⟩
    · exact Below.refl _ _
    · exact Lib.bytesWorld_below _ _ _
  · obtain ⟨te, pe, h1⟩ := hR
    refine (Tryz.strconv_ParseInt_10_at32_range s (by omega) hv _ w h1 (.inr ⟨te, pe, rfl⟩)).mono ?_
    rintro e w' ⟨N, rfl, _, _, hb⟩
    exact ⟨_, _, rfl, .inr ⟨rfl, _, _, rfl⟩, hb⟩
set_option maxHeartbeats 1000000 in
set_option maxRecDepth 100000 in
theorem scalar_int (s : ByteArray) (b : Bool) (a1 a2 : Option Addr) (l1 c1 l2 c2 : Nat) (at_ : Int) (w : World) (h : Num32 s b) (hs : s.size ≤ 100000) (hR : RangeVar w) :
    Calls Tryz.prog 166 #[.string ⟨#[73, 110, 116]⟩, .agg #[.int .i64 2, .string s, .slice a1 l1 c1, .slice a2 l2 c2, .int .i64 at_]] w fun e w' => e = .returned (.bool b) ∧ Below w.heap.size w w' := by
  obtain ⟨W, hW⟩ : ∃ W, W = w.alloc (.cells #[.int .i64 2, .string s, .slice a1 l1 c1, .slice a2 l2 c2, .int .i64 at_] 49) := ⟨_, rfl⟩
  have hb0 : Below w.heap.size w W := by rw [hW]; exact (Below.refl _ _).alloc (Nat.le_refl _) _
  have hcon := parse32_any s b W h hs (hR.below hb0)
  have x1 : W.cell? ⟨w.heap.size, 1, none⟩ = some (.string s) := by rw [hW]; exact cell_at_new w _ _ (0, 0) 1 _ rfl
  have x0 : W.cell? ⟨w.heap.size, 0, none⟩ = some (.int .i64 2) := by rw [hW]; exact cell_at_new w _ _ (0, 0) 0 _ rfl
  have hsz : w.heap.size < W.heap.size := by rw [hW]; simp
  have HB0 := Lib.hid hb0
  have HC := Lib.hid hcon
  have HX0 := Lib.hid x0
  have hw2 := hW.symm
  clear hb0 hcon x0 hW hR h
  go_enter Tryz.func166, Tryz.ntmps166
  go_wp2_with fail
  clear hw2
  refine HC.out.mono ?_
  rintro e w1 ⟨n, ev, rfl, hev, hb1⟩
  have x0 : w1.cell? ⟨w.heap.size, 0, none⟩ = some (.int .i64 2) := by rw [hb1.cell hsz]; exact HX0.out
  have HB1 := Lib.hid (HB0.out.trans (hb1.mono HB0.out.size))
  clear x1 hb1 HC
  rcases hev with ⟨rfl, rfl⟩ | ⟨rfl, te, pe, rfl⟩
  · go_wp2_with fail
    go_ret
    exact ⟨rfl, HB1.out⟩
  · go_wp2_with fail
    go_ret
    exact ⟨rfl, HB1.out⟩
set_option maxHeartbeats 1000000 in
set_option maxRecDepth 100000 in
theorem scalar_float (s : ByteArray) (a1 a2 : Option Addr) (l1 c1 l2 c2 : Nat) (at_ : Int) (w : World) :
    Calls Tryz.prog 166 #[.string ⟨#[70, 108, 111, 97, 116]⟩, .agg #[.int .i64 2, .string s, .slice a1 l1 c1, .slice a2 l2 c2, .int .i64 at_]] w fun e w' => e = .returned (.bool true) ∧ Below w.heap.size w w' := by
  have hb0 : Below w.heap.size w (w.alloc (.cells #[.int .i64 2, .string s, .slice a1 l1 c1, .slice a2 l2 c2, .int .i64 at_] 49)) := (Below.refl _ _).alloc (Nat.le_refl _) _
  have x0 : (w.alloc (.cells #[.int .i64 2, .string s, .slice a1 l1 c1, .slice a2 l2 c2, .int .i64 at_] 49)).cell? ⟨w.heap.size, 0, none⟩ = some (.int .i64 2) := cell_at_new w _ _ (0, 0) 0 _ rfl
  have HB0 := Lib.hid hb0
  clear hb0
  go_enter Tryz.func166, Tryz.ntmps166
  go_wp2_with fail
  go_ret
  exact ⟨rfl, HB0.out⟩
set_option maxHeartbeats 1000000 in
set_option maxRecDepth 100000 in
theorem scalar_id (s : ByteArray) (a1 a2 : Option Addr) (l1 c1 l2 c2 : Nat) (at_ : Int) (w : World) :
    Calls Tryz.prog 166 #[.string ⟨#[73, 68]⟩, .agg #[.int .i64 2, .string s, .slice a1 l1 c1, .slice a2 l2 c2, .int .i64 at_]] w fun e w' => e = .returned (.bool true) ∧ Below w.heap.size w w' := by
  have hb0 : Below w.heap.size w (w.alloc (.cells #[.int .i64 2, .string s, .slice a1 l1 c1, .slice a2 l2 c2, .int .i64 at_] 49)) := (Below.refl _ _).alloc (Nat.le_refl _) _
  have x0 : (w.alloc (.cells #[.int .i64 2, .string s, .slice a1 l1 c1, .slice a2 l2 c2, .int .i64 at_] 49)).cell? ⟨w.heap.size, 0, none⟩ = some (.int .i64 2) := cell_at_new w _ _ (0, 0) 0 _ rfl
  have HB0 := Lib.hid hb0
  clear hb0
  go_enter Tryz.func166, Tryz.ntmps166
  go_wp2_with fail
  go_ret
  exact ⟨rfl, HB0.out⟩
set_option maxHeartbeats 1000000 in
set_option maxRecDepth 100000 in
theorem scalar_string (s : ByteArray) (a1 a2 : Option Addr) (l1 c1 l2 c2 : Nat) (at_ : Int) (w : World) :
    Calls Tryz.prog 166 #[.string ⟨#[83, 116, 114, 105, 110, 103]⟩, .agg #[.int .i64 2, .string s, .slice a1 l1 c1, .slice a2 l2 c2, .int .i64 at_]] w fun e w' => e = .returned (.bool false) ∧ Below w.heap.size w w' := by
  have hb0 : Below w.heap.size w (w.alloc (.cells #[.int .i64 2, .string s, .slice a1 l1 c1, .slice a2 l2 c2, .int .i64 at_] 49)) := (Below.refl _ _).alloc (Nat.le_refl _) _
  have x0 : (w.alloc (.cells #[.int .i64 2, .string s, .slice a1 l1 c1, .slice a2 l2 c2, .int .i64 at_] 49)).cell? ⟨w.heap.size, 0, none⟩ = some (.int .i64 2) := cell_at_new w _ _ (0, 0) 0 _ rfl
  have HB0 := Lib.hid hb0
  clear hb0
  go_enter Tryz.func166, Tryz.ntmps166
  go_wp2_with fail
  go_ret
  exact ⟨rfl, HB0.out⟩
set_option maxHeartbeats 1000000 in
set_option maxRecDepth 100000 in
theorem scalar_bool (s : ByteArray) (a1 a2 : Option Addr) (l1 c1 l2 c2 : Nat) (at_ : Int) (w : World) :
    Calls Tryz.prog 166 #[.string ⟨#[66, 111, 111, 108, 101, 97, 110]⟩, .agg #[.int .i64 2, .string s, .slice a1 l1 c1, .slice a2 l2 c2, .int .i64 at_]] w fun e w' => e = .returned (.bool false) ∧ Below w.heap.size w w' := by
  have hb0 : Below w.heap.size w (w.alloc (.cells #[.int .i64 2, .string s, .slice a1 l1 c1, .slice a2 l2 c2, .int .i64 at_] 49)) := (Below.refl _ _).alloc (Nat.le_refl _) _
  have x0 : (w.alloc (.cells #[.int .i64 2, .string s, .slice a1 l1 c1, .slice a2 l2 c2, .int .i64 at_] 49)).cell? ⟨w.heap.size, 0, none⟩ = some (.int .i64 2) := cell_at_new w _ _ (0, 0) 0 _ rfl
  have HB0 := Lib.hid hb0
  clear hb0
  go_enter Tryz.func166, Tryz.ntmps166
  go_wp2_with fail
  go_ret
  exact ⟨rfl, HB0.out⟩
end Go.Proofs.YtmgoebfcfgilfaaGreatDoor
namespace Go.Proofs.YtmgoebfcfgilfaaGreatDoor
set_option linter.unusedSimpArgs false
set_option linter.unusedVariables false
open Go Go.RowKit
open Go.Maps Go.WideMaps

set_option maxHeartbeats 1000000 in
set_option maxRecDepth 100000 in
theorem value_null (base xb tb : Nat) (fv : Value) (l : List Cp.Pb) (t s : ByteArray) (nn : Bool) (a1 a2 : Option Addr) (l1 c1 l2 c2 : Nat) (at_ : Int) (w : World) (h : LkAt w base xb tb fv l) (hl : l.length ≤ 1000000)
    (hts : t.size ≤ 1000) (hn : Lib.hasSuffix t.data.toList [33] = nn) :
    Calls Tryz.prog 109 #[.pointer (some ⟨xb, 0, none⟩), .string t, .agg #[.int .i64 6, .string s, .slice a1 l1 c1, .slice a2 l2 c2, .int .i64 at_]] w fun e w' => e = .returned (.tuple #[]) ∧ ∃ fv', LkAt w' base xb tb fv' (if nn then l ++ [(130, at_)] else l) ∧ LkTo w w' xb fv fv' := by
  obtain ⟨W, hW⟩ : ∃ W, W = w.alloc (.cells #[.int .i64 6, .string s, .slice a1 l1 c1, .slice a2 l2 c2, .int .i64 at_] 49) := ⟨_, rfl⟩
  have hb0 : Below w.heap.size w W := by rw [hW]; exact (Below.refl _ _).alloc (Nat.le_refl _) _
  have x0 : W.cell? ⟨w.heap.size, 0, none⟩ = some (.int .i64 6) := by rw [hW]; exact cell_at_new w _ _ (0, 0) 0 _ rfl
  have x1 : W.cell? ⟨w.heap.size, 1, none⟩ = some (.string s) := by rw [hW]; exact cell_at_new w _ _ (0, 0) 1 _ rfl
  have x2 : W.cell? ⟨w.heap.size, 2, none⟩ = some (.slice a1 l1 c1) := by rw [hW]; exact cell_at_new w _ _ (0, 0) 2 _ rfl
  have x3 : W.cell? ⟨w.heap.size, 3, none⟩ = some (.slice a2 l2 c2) := by rw [hW]; exact cell_at_new w _ _ (0, 0) 3 _ rfl
  have x4 : W.cell? ⟨w.heap.size, 4, none⟩ = some (.int .i64 at_) := by rw [hW]; exact cell_at_new w _ _ (0, 0) 4 _ rfl
  have hsz : w.heap.size < W.heap.size := by rw [hW]; simp
  have HB0 := Lib.hid hb0
  have HW := Lib.hid hW
  have hw2 := hW.symm
  clear hW
  have H := Lib.hid (h.keep hb0)
  have HLE : Hid (base ≤ w.heap.size) := Lib.hid (by have := h.hx; have := h.lt; omega)
  have hN := fun w => nonnull_any t nn hts hn w
  clear h hb0 x1 x2 x3 hn hts
  go_enter Tryz.func109, Tryz.ntmps109
  go_wp2_with fail
  clear hw2
  refine (hN _).mono ?_
  rintro e w1 ⟨rfl, rfl⟩
  cases nn
  · go_wp2_with fail
    refine bodyPost_ret (v := .tuple #[]) (by simp [results, Tryz.results109, go_sem]) rfl ?_
    exact ⟨rfl, fv, H.out, LkTo.of_below HB0.out⟩
  · go_wp2_with fail
    refine (tell_any base xb tb fv l 130 at_ w1 H.out hl).mono ?_
    rintro e w2 ⟨rfl, fv', hk, hb2⟩
    have HK := Lib.hid hk
    have HB2 := Lib.hid ((LkTo.of_below HB0.out).trans hb2)
    clear hk hb2
    go_wp2_with fail
    refine bodyPost_ret (v := .tuple #[]) (by simp [results, Tryz.results109, go_sem]) rfl ?_
    exact ⟨rfl, fv', HK.out, HB2.out⟩
set_option maxHeartbeats 1000000 in
set_option maxRecDepth 100000 in
theorem value_num (base xb tb : Nat) (fv : Value) (l : List Cp.Pb) (t T s : ByteArray) (ok : Bool) (a1 a2 : Option Addr) (l1 c1 l2 c2 : Nat) (at_ : Int) (w : World) (h : LkAt w base xb tb fv l) (hl : l.length ≤ 1000000)
    (hT : TypesAt w tb) (hts : t.size ≤ 1000) (hTs : T.size ≤ 1000) (htT : (⟨(Lib.trimSuffix t.data.toList [33]).toArray⟩ : ByteArray) = T) (hTT : (⟨(Lib.trimSuffix T.data.toList [33]).toArray⟩ : ByteArray) = T) (hp : Lib.hasPrefix T.data.toList [91] = false) (hm : T.data.toList ∈ Tp.names)
    (hsc : ∀ w', Below w.heap.size w w' → Calls Tryz.prog 166 #[.string T, .agg #[.int .i64 2, .string s, .slice a1 l1 c1, .slice a2 l2 c2, .int .i64 at_]] w' fun e w'' => e = .returned (.bool ok) ∧ Below w'.heap.size w' w'') :
    Calls Tryz.prog 109 #[.pointer (some ⟨xb, 0, none⟩), .string t, .agg #[.int .i64 2, .string s, .slice a1 l1 c1, .slice a2 l2 c2, .int .i64 at_]] w fun e w' => e = .returned (.tuple #[]) ∧ ∃ fv', LkAt w' base xb tb fv' (if ok then l else l ++ [(130, at_)]) ∧ LkTo w w' xb fv fv' := by
  obtain ⟨W, hW⟩ : ∃ W, W = w.alloc (.cells #[.int .i64 2, .string s, .slice a1 l1 c1, .slice a2 l2 c2, .int .i64 at_] 49) := ⟨_, rfl⟩
  have hb0 : Below w.heap.size w W := by rw [hW]; exact (Below.refl _ _).alloc (Nat.le_refl _) _
  have x0 : W.cell? ⟨w.heap.size, 0, none⟩ = some (.int .i64 2) := by rw [hW]; exact cell_at_new w _ _ (0, 0) 0 _ rfl
  have x1 : W.cell? ⟨w.heap.size, 1, none⟩ = some (.string s) := by rw [hW]; exact cell_at_new w _ _ (0, 0) 1 _ rfl
  have x2 : W.cell? ⟨w.heap.size, 2, none⟩ = some (.slice a1 l1 c1) := by rw [hW]; exact cell_at_new w _ _ (0, 0) 2 _ rfl
  have x3 : W.cell? ⟨w.heap.size, 3, none⟩ = some (.slice a2 l2 c2) := by rw [hW]; exact cell_at_new w _ _ (0, 0) 3 _ rfl
  have x4 : W.cell? ⟨w.heap.size, 4, none⟩ = some (.int .i64 at_) := by rw [hW]; exact cell_at_new w _ _ (0, 0) 4 _ rfl
  have hsz : w.heap.size < W.heap.size := by rw [hW]; simp
  have HB0 := Lib.hid hb0
  have HW := Lib.hid hW
  have hw2 := hW.symm
  clear hW
  have H := Lib.hid (h.keep hb0)
  have HT := Lib.hid (hT.keep hb0)
  have HLE : Hid (base ≤ w.heap.size) := Lib.hid (by have := h.hx; have := h.lt; omega)
  have hNu := fun w => nullable_any t T hts htT w
  have hIt := fun w => item_not T hTs hTT hp w
  have HSC := Lib.hid (hsc W hb0)
  have y0 := H.out.c0
  have hK := tkind_any tb T.data.toList W HT.out hm
  rw [show (⟨T.data.toList.toArray⟩ : ByteArray) = T from rfl] at hK
  have HK := Lib.hid hK
  have X4 := Lib.hid x4
  clear h hb0 hT hts hTs htT hTT hp hsc hm hK
  go_enter Tryz.func109, Tryz.ntmps109
  go_wp2_with fail
  clear hw2
  refine (hNu _).mono ?_
  rintro e w1 ⟨rfl, rfl⟩
  go_wp2_with fail
  refine (hIt _).mono ?_
  rintro e w1 ⟨rfl, rfl⟩
  go_wp2_with fail
  refine HK.out.mono ?_
  rintro e w1 ⟨rfl, rfl⟩
  go_wp2_with fail
  refine HSC.out.mono ?_
  rintro e w2 ⟨rfl, hb2⟩
  have x4 : w2.cell? ⟨w.heap.size, 4, none⟩ = some (.int .i64 at_) := by rw [hb2.cell hsz]; exact X4.out
  have H2 := Lib.hid (H.out.keep hb2)
  have HB2 : Hid (LkTo w w2 xb fv fv) := Lib.hid (LkTo.of_below (HB0.out.trans (hb2.mono HB0.out.size)))
  clear x0 x1 x2 x3 y0 hb2 HSC HK hNu hIt
  cases ok
  · go_wp2_with fail
    refine (tell_any base xb tb fv l 130 at_ w2 H2.out hl).mono ?_
    rintro e w3 ⟨rfl, fv', hk, hb3⟩
    have HK3 := Lib.hid hk
    have HB3 := Lib.hid (HB2.out.trans hb3)
    clear hk hb3
    go_wp2_with fail
    go_end0
    exact ⟨rfl, fv', HK3.out, HB3.out⟩
  · go_wp2_with fail
    go_end0
    exact ⟨rfl, fv, H2.out, HB2.out⟩
set_option maxHeartbeats 1000000 in
set_option maxRecDepth 100000 in
theorem doubles_leaf (xb : Nat) (s : ByteArray) (k : Int) (a1 a2 : Option Addr) (c1 c2 : Nat) (at_ : Int) (w : World) :
    Calls Tryz.prog 110 #[.pointer (some ⟨xb, 0, none⟩), .agg #[.int .i64 k, .string s, .slice a1 0 c1, .slice a2 0 c2, .int .i64 at_]] w fun e w' => e = .returned (.tuple #[]) ∧ Below w.heap.size w w' := by
  have hmm := @run_makeMap Tryz.prog
  obtain ⟨W, hW⟩ : ∃ W, W = (w.alloc (.cells #[.int .i64 k, .string s, .slice a1 0 c1, .slice a2 0 c2, .int .i64 at_] 49)).alloc (.map #[] 0) := ⟨_, rfl⟩
  have hb1 : Below w.heap.size w W := by rw [hW]; exact ((Below.refl _ _).alloc (Nat.le_refl _) _).alloc (by simp) _
  have x2 : W.cell? ⟨w.heap.size, 2, none⟩ = some (.slice a1 0 c1) := by
    rw [hW, ((Below.refl _ _).alloc (Nat.le_refl _) _).cell (B := (w.alloc (.cells #[.int .i64 k, .string s, .slice a1 0 c1, .slice a2 0 c2, .int .i64 at_] 49)).heap.size) (by simp)]; exact cell_at_new w _ _ (0, 0) 2 _ rfl
  have x3 : W.cell? ⟨w.heap.size, 3, none⟩ = some (.slice a2 0 c2) := by
    rw [hW, ((Below.refl _ _).alloc (Nat.le_refl _) _).cell (B := (w.alloc (.cells #[.int .i64 k, .string s, .slice a1 0 c1, .slice a2 0 c2, .int .i64 at_] 49)).heap.size) (by simp)]; exact cell_at_new w _ _ (0, 0) 3 _ rfl
  have HB1 := Lib.hid hb1
  have hw2 := hW.symm
  clear hb1 hW
  go_enter Tryz.func110, Tryz.ntmps110
  go_wp2_with fail
  go_loopg [13] 1 (fun m s13 wq => m = 1 ∧ s13 = .int .i64 0 ∧ wq = W)
  case atStart => exact ⟨rfl, rfl, rfl⟩
  case round =>
    obtain ⟨hk9, rfl, hw9⟩ := hrel
    subst hw9
    clear hk9
    go_wp2_with fail
    go_loopg [39] 1 (fun m s39 wq => m = 1 ∧ s39 = .int .i64 0 ∧ wq = wr)
    case atStart => exact ⟨rfl, rfl, rfl⟩
    case round =>
      obtain ⟨hk9, rfl, hw9⟩ := hrel
      subst hw9
      clear hk9
      go_wp2_with fail
      go_end0
      exact ⟨rfl, HB1.out⟩
end Go.Proofs.YtmgoebfcfgilfaaGreatDoor
