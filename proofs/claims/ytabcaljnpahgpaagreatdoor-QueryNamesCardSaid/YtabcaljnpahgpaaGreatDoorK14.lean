/-
  The reader: Value, Arg at any depth; Args, walked. A row in a variable of a call's own, beside the reader. The reader of a text: New, walked.
-/
import Derived.Test.YtabcaljnpahgpaaGreatDoorK13
import Derived.Test.YtabcaljnpahgpaaGreatDoorK4
namespace Go.Proofs.YtabcaljnpahgpaaGreatDoor
set_option linter.unusedSimpArgs false
set_option linter.unusedVariables false
open Go Go.RowKit

theorem rvalue_any (b g : Nat) (fixed : Bool) : ∀ (n : Nat), n ≤ 1600 → ∀ (s : Rd.St) (w : World), RdAt w b g s → s.rest.length ≤ n → 0 ≤ s.deep ∧ s.deep + n ≤ 900000 →
    Calls Tryz.prog 49 #[.pointer (some ⟨b, 0, none⟩), .bool fixed] w (Got b g w (Rd.value fixed (n + 1) s).2.d (Rd.value fixed (n + 1) s).1)
  | 0, hnb, s, w, h, hn, hd => rvalue_step b g fixed 0 s w h hn hnb hd (fun m hm => absurd hm (by omega))
  | n + 1, hnb, s, w, h, hn, hd => rvalue_step b g fixed (n + 1) s w h hn hnb hd (fun m hm s' w' h' hn' hd' => by
    obtain rfl : n = m := by omega
    exact rvalue_any b g fixed n (by omega) s' w' h' hn' hd')
theorem rargs1_any (b g : Nat) (fixed : Bool) (n : Nat) (hnb : n ≤ 1600) (s : Rd.St) (w : World) (h : RdAt w b g s) (hn : s.rest.length ≤ n) (hd : 0 ≤ s.deep ∧ s.deep + n ≤ 900000) :
    Calls Tryz.prog 97 #[.pointer (some ⟨b, 0, none⟩), .bool fixed] w (Got b g w (Rd.arg fixed (n + 1) s).2.d (Rd.arg fixed (n + 1) s).1) :=
  rarg_any b g fixed (n + 1) s w h (fun w' hr' => rvalue_any b g fixed n hnb _ w' hr' (Nat.le_trans ((Rd.ok_name s).trans (Rd.ok_want Rd.colon _)).len hn) (by rw [Rd.want_deep, Rd.name_deep]; exact hd))

/-- What a reader's call that answers with a slice leaves. -/
def GotL (b g : Nat) (w : World) (k : Nat) (ds : List D) (s : Rd.St) (r : Ending) (w' : World) : Prop :=
  ∃ (a : Option Addr) (c : Nat), r = .returned (.slice a ds.length c) ∧ Reads w' (fun x => w.heap.size ≤ x) (.seq k ds) [.slice a ds.length c] ∧ RdAt w' b g s ∧ Fr b w w'

def abx (w0 : World) (b : Nat) (fixed : Bool) : List Box :=
  [(w0.heap.size, .cells #[.pointer (some ⟨b, 0, none⟩)] 130 (0, 0)), (w0.heap.size + 1, .cells #[.bool fixed] 4 (0, 0))]
def ALI (w0 : World) (b g : Nat) (fixed : Bool) (m : Nat) (d1 : Int) (s : Rd.St) (out : List Rd.A) (w : World) : Prop :=
  LI w0 b g (w0.heap.size + 1 + 1) (abx w0 b fixed) 53 mkOne 116 7 s (out.map Rd.A.d) w ∧ s.deep = d1 ∧ s.rest.length ≤ m ∧ (s.err = 0 → out.length + s.rest.length ≤ 1602) ∧ out.length ≤ 1603
theorem enters_AC (cap : Array Value) (w : World) : Sem.run Tryz.prog (callFunc 165 cap) w = .ok (.enter 165 cap) w := by kernel_rfl

set_option maxHeartbeats 1000000 in
set_option maxRecDepth 100000 in
theorem rargs_any (b g : Nat) (fixed : Bool) (n : Nat) (hnb : n ≤ 1600) (s : Rd.St) (w : World) (h : RdAt w b g s) (hn : s.rest.length ≤ n) (hd : 0 ≤ s.deep ∧ s.deep + n ≤ 900000) :
    Calls Tryz.prog 147 #[.pointer (some ⟨b, 0, none⟩), .bool fixed] w (GotL b g w 7 ((Rd.args fixed (n + 1) s).2.map Rd.A.d) (Rd.args fixed (n + 1) s).1) := by
  have hlb := h.lt
  have H := Lib.hid h
  have HN := Lib.hid hn
  obtain ⟨d0, d1⟩ := hd
  clear h hn
  have hLI : LI w b g (w.heap.size + 1 + 1) (abx w b fixed) 53 mkOne 116 7 s [] (((w.alloc (.cells #[.pointer (some ⟨b, 0, none⟩)] 130)).alloc (.cells #[.bool fixed] 4)).alloc (.cells #[.slice none 0 0] 53)) := by
    have hbb : Below w.heap.size w (((w.alloc (.cells #[.pointer (some ⟨b, 0, none⟩)] 130)).alloc (.cells #[.bool fixed] 4)).alloc (.cells #[.slice none 0 0] 53)) :=
      (((Below.refl _ _).alloc (Nat.le_refl _) _).alloc (by simp) _).alloc (by simp; omega) _
    refine ⟨H.out.below hbb, fun p hp => ?_, ⟨.slice none 0 0, ?_, Grows.nil _ _ _ _ _⟩, But.of_below hbb, hlb.1, hlb.2, fun p hp => ?_, by omega⟩
    · unfold abx at hp
      simp only [List.mem_cons, List.not_mem_nil, or_false] at hp
      rcases hp with rfl | rfl
      · show (((w.alloc _).alloc _).alloc _).heap[w.heap.size]? = _
        rw [Lib.alloc_old _ _ _ (by simp; omega), Lib.alloc_old _ _ _ (by simp)]; exact heap_at_new _ _
      · show (((w.alloc _).alloc _).alloc _).heap[w.heap.size + 1]? = _
        rw [Lib.alloc_old _ _ _ (by simp)]
        have := heap_at_new (w.alloc (.cells #[.pointer (some ⟨b, 0, none⟩)] 130)) (.cells #[.bool fixed] 4)
        simpa using this
    · have := heap_at_new ((w.alloc (.cells #[.pointer (some ⟨b, 0, none⟩)] 130)).alloc (.cells #[.bool fixed] 4)) (.cells #[.slice none 0 0] 53)
      rw [show ((w.alloc (.cells #[.pointer (some ⟨b, 0, none⟩)] 130)).alloc (.cells #[.bool fixed] 4)).heap.size = w.heap.size + 1 + 1 by simp] at this
      exact this
    · unfold abx at hp
      simp only [List.mem_cons, List.not_mem_nil, or_false] at hp
      rcases hp with rfl | rfl <;> (simp only; omega)
  have HLI := Lib.hid hLI
  have k2 := hLI.cellx (t := w.heap.size) (v := .pointer (some ⟨b, 0, none⟩)) (T := 130) (by simp [abx])
  clear hLI
  go_enter Tryz.func147, Tryz.ntmps147
  go_wp2_with fail
  refine (rtake_any b g s Rd.lpar _ HLI.out.rd).mono ?_
  rintro r w1 ⟨rfl, h1, f1⟩
  have HL1 := Lib.hid (HLI.out.step h1 f1)
  clear h1 f1 k2
  obtain ⟨B, hB⟩ : ∃ B, B = Rd.isS s Rd.lpar := ⟨_, rfl⟩
  have HB := Lib.hid hB
  rw [← hB]
  clear hB
  cases B
  · have HE : Hid (Rd.args fixed (n + 1) s = (s, [])) := by
      unfold Rd.args
      rw [if_neg (by rw [← HB.out]; simp)]
      exact Lib.hid rfl
    have HT : Hid (Rd.take Rd.lpar s = s) := by
      unfold Rd.take
      rw [if_neg (by rw [← HB.out]; simp)]
      exact Lib.hid rfl
    obtain ⟨v, hv, hg⟩ := HL1.out.ex
    obtain ⟨va, vc, rfl⟩ := hg.form
    have k3 := blk_cell hv 0 (.slice va 0 vc) rfl
    have HG := Lib.hid hg
    clear hv hg
    go_wp2_with fail
    go_ret
    rw [HE.out]
    refine ⟨va, vc, rfl, ?_, by have := HL1.out.rd; rw [HT.out] at this; exact this, HL1.out.fr⟩
    exact HG.out.reads.to (Stands.sub w1 (fun x _ hp => by
      rcases hp with hp | hp
      · have := hp.1; show w.heap.size ≤ x; omega
      · have := Nat.le_trans (LB_t6 _ _) (HG.out.lt x hp).1; show w.heap.size ≤ x; omega))
  · have HT : Hid (Rd.take Rd.lpar s = Rd.next s) := by
      unfold Rd.take
      rw [if_pos HB.out.symm]
      exact Lib.hid rfl
    have HE : Hid (Rd.args fixed (n + 1) s = (Rd.want Rd.rpar (Rd.loop1 Rd.rpar (Rd.arg fixed (n + 1)) (n + 1) (Rd.next s)).1, (Rd.loop1 Rd.rpar (Rd.arg fixed (n + 1)) (n + 1) (Rd.next s)).2)) := by
      unfold Rd.args
      rw [if_pos HB.out.symm]
      exact Lib.hid rfl
    have HL2 : Hid (LI w b g (w.heap.size + 1 + 1) (abx w b fixed) 53 mkOne 116 7 (Rd.next s) [] w1) := by rw [← HT.out]; exact HL1
    have HNX := Lib.hid (Rd.next_sign HB.out.symm)
    have HCL : Hid (∀ (s1 : Rd.St) (out : List Rd.A) (w1 : World), LI w b g (w.heap.size + 1 + 1) (abx w b fixed) 53 mkOne 116 7 s1 (out.map Rd.A.d) w1 → s1.rest.length ≤ n → s1.deep = s.deep → out.length ≤ 1000000 →
        Calls Tryz.prog 165 #[.pointer (some ⟨w.heap.size + 1 + 1, 0, none⟩), .pointer (some ⟨w.heap.size, 0, none⟩), .pointer (some ⟨w.heap.size + 1, 0, none⟩)] w1 fun r w' => r = .returned (.tuple #[]) ∧
          LI w b g (w.heap.size + 1 + 1) (abx w b fixed) 53 mkOne 116 7 (Rd.arg fixed (n + 1) s1).1 ((out ++ [(Rd.arg fixed (n + 1) s1).2]).map Rd.A.d) w') :=
      Lib.hid fun s1 out w1 hl hr hdp ho => by
        rw [List.map_append]
        exact argsC_any w b g (w.heap.size + 1 + 1) (abx w b fixed) w.heap.size (w.heap.size + 1) fixed (n + 1) (by simp [abx]) (by simp [abx]) s1 (out.map Rd.A.d) w1
          (fun w2 hr2 => rargs1_any b g fixed n hnb s1 w2 hr2 hr (by rw [hdp]; omega)) hl (by rw [List.length_map]; exact ho)
    have HDP : Hid (∀ s, (Rd.arg fixed (n + 1) s).1.deep = s.deep) := Lib.hid (Rd.argOf_deep _ (Rd.value_deep fixed (n + 1)))
    have HOK : Hid (∀ s, Rd.Ok s (Rd.arg fixed (n + 1) s).1) := Lib.hid (Rd.ok_argOf _ (Rd.ok_value fixed (n + 1)))
    have HND := Lib.hid (Rd.next_deep s)
    have HGO := Lib.hid (fun s1 he => Rd.arg_goes fixed (n + 1) s1 he)
    have hnx : (Rd.next s).rest.length + 1 ≤ n := by have := HNX.out.1; have := HN.out; omega
    have k2 : w1.cell? ⟨w.heap.size, 0, none⟩ = some (.pointer (some ⟨b, 0, none⟩)) := HL2.out.cellx (T := 130) (by simp [abx])
    go_wp2_with fail
    refine (some1_any Rd.rpar (Rd.arg fixed (n + 1)) (ALI w b g fixed n s.deep) b g _ _ (enters_AC _) (fun s out w' h => h.1.rd) (fun s out w1 w2 h hb => ⟨h.1.below hb, h.2⟩) (fun s1 out w2 h he => ?_) (fun s1 out w2 h he _ => HGO.out s1 he) (n + 1) (Rd.next s) w1 ?_ ?_).mono ?_
    · refine (HCL.out s1 out w2 h.1 h.2.2.1 h.2.1 (by have := h.2.2.2.2; omega)).mono ?_
      rintro r w3 ⟨hre, hli⟩
      refine ⟨hre, hli, by rw [HDP.out]; exact h.2.1, Nat.le_trans (HOK.out s1).len h.2.2.1, fun he2 => ?_, by have := h.2.2.2.1 he; rw [List.length_append]; simp; omega⟩
      rcases HGO.out s1 he with hx | hx
      · exact absurd he2 hx
      · have := h.2.2.2.1 he
        rw [List.length_append]
        simp
        omega
    · refine (HCL.out (Rd.next s) [] w1 HL2.out (by omega) HND.out (by simp)).mono ?_
      rintro r w3 ⟨hre, hli⟩
      have hlen := (HOK.out (Rd.next s)).len
      exact ⟨hre, hli, by rw [HDP.out]; exact HND.out, by omega, fun _ => by simp; omega, by simp⟩
    · rcases HGO.out (Rd.next s) HNX.out.2 with hx | hx
      · exact .inl hx
      · exact .inr (by omega)
    rintro r w5 ⟨rfl, hL⟩
    obtain ⟨L, hLL⟩ : ∃ x, x = Rd.loop1 Rd.rpar (Rd.arg fixed (n + 1)) (n + 1) (Rd.next s) := ⟨_, rfl⟩
    rw [← hLL] at hL
    have HLL := Lib.hid hLL
    have HL := Lib.hid hL
    clear k2 hLL hL
    have k2 : w5.cell? ⟨w.heap.size, 0, none⟩ = some (.pointer (some ⟨b, 0, none⟩)) := HL.out.1.cellx (T := 130) (by simp [abx])
    go_wp2_with fail
    refine (rwant_any b g L.1 Rd.rpar w5 HL.out.1.rd).mono ?_
    rintro r w6 ⟨rfl, h6, f6⟩
    have HL6 := Lib.hid (HL.out.1.step h6 f6)
    obtain ⟨v, hv, hg⟩ := HL6.out.ex
    obtain ⟨va, vc, rfl⟩ := hg.form
    have k3 := blk_cell hv 0 (.slice va (L.2.map Rd.A.d).length vc) rfl
    have HG := Lib.hid hg
    clear hv hg h6 f6 k2
    go_wp2_with fail
    go_ret
    rw [HE.out, ← HLL.out]
    refine ⟨va, vc, by simp, ?_, HL6.out.rd, HL6.out.fr⟩
    exact HG.out.reads.to (Stands.sub w6 (fun x _ hp => by
      rcases hp with hp | hp
      · have := hp.1; show w.heap.size ≤ x; omega
      · have := Nat.le_trans (LB_t6 _ _) (HG.out.lt x hp).1; show w.heap.size ≤ x; omega))
end Go.Proofs.YtabcaljnpahgpaaGreatDoor
namespace Go.Proofs.YtabcaljnpahgpaaGreatDoor
set_option linter.unusedSimpArgs false
set_option linter.unusedVariables false
open Go Go.RowKit

/-- A row of data of the call's own, beside the reader. -/
structure GI (w0 : World) (b g : Nat) (E : TypeId) (k : Nat) (s : Rd.St) (v : Value) (ds : List D) (w : World) : Prop where
  rd : RdAt w b g s
  row : Grows w (fun x => w0.heap.size ≤ x ∧ v.ownBlock ≠ some x) w0.heap.size E k v ds
  fr : Fr b w0 w
  lb : b < w0.heap.size
  lg : g < w0.heap.size
section
variable {w0 w w' w8 : World} {b g k : Nat} {E : TypeId} {s s' : Rd.St} {v v' : Value} {ds : List D} {d : D} {cs xs : List Value}
theorem GI.nil (h : RdAt w b g s) (E : TypeId) (k : Nat) : GI w b g E k s (.slice none 0 0) [] w :=
  ⟨h, Grows.nil _ _ _ _ _, But.refl _ _, h.lt.1, h.lt.2⟩
theorem GI.step (h : GI w0 b g E k s v ds w) (hr : RdAt w' b g s') (hf : Fr b w w') : GI w0 b g E k s' v ds w' := by
  have lb := h.lb
  have hs := h.fr.size
  exact ⟨hr, h.row.to ⟨hf.size, fun x hx hp => ⟨hp, hf.block x hx (by omega)⟩⟩ (fun x hx => ⟨fun hp => hp.2 hx, hf.block x (h.row.lt x hx).2 (by have := (h.row.lt x hx).1; omega)⟩), h.fr.trans hf, h.lb, h.lg⟩
theorem GI.below (h : GI w0 b g E k s v ds w) (hb : Below w.heap.size w w') : GI w0 b g E k s v ds w' := h.step (h.rd.below hb) (But.of_below hb)
/-- One more. -/
theorem GI.more (h : GI w0 b g E k s v ds w) (hx : w.ownsRow w0.heap.size E k v ds.length xs) (hR : RowsD w (fun x => w0.heap.size ≤ x ∧ v.ownBlock ≠ some x) k ds xs) (hd : Reads w (fun x => w0.heap.size ≤ x ∧ v.ownBlock ≠ some x) d cs)
    (hlen : cs.length = k) (hg : w.grownBy w8 v.ownBlock) (hloc : v'.ownBlock = v.ownBlock ∨ v'.ownBlock = some w.heap.size) (hrow : w8.ownsRow w0.heap.size E k v' (ds.length + 1) (xs ++ cs)) : GI w0 b g E k s v' (ds ++ [d]) w8 := by
  have lb := h.lb
  have lg := h.lg
  have hlt := hx.lt
  have e8 : ∀ x, x < w.heap.size → v.ownBlock ≠ some x → w8.heap[x]? = w.heap[x]? := fun x hx3 hn => hg.block x hx3 (fun e => hn e.symm)
  have low : ∀ x, x < w0.heap.size → v.ownBlock ≠ some x := fun x hx2 e => by have := hlt x e; omega
  have hst : Stands w (fun x => w0.heap.size ≤ x ∧ v.ownBlock ≠ some x) w8 (fun x => w0.heap.size ≤ x ∧ v'.ownBlock ≠ some x) := ⟨hg.size, fun x hx2 hp => ⟨⟨hp.1, fun e => by
    rcases hloc with e2 | e2
    · exact hp.2 (by rw [← e2]; exact e)
    · rw [e2] at e
      simp only [Option.some.injEq] at e
      omega⟩, e8 x hx2 hp.2⟩⟩
  refine ⟨h.rd.to hg.size (e8 b h.rd.lt.1 (low b lb)) (e8 g h.rd.lt.2 (low g lg)), ⟨⟨xs ++ cs, ?_, (hR.to hst).snoc (hd.to hst) hlen⟩, fun x e hp => hp.2 e⟩, ⟨hg.os.trans h.fr.os, hg.tape.trans h.fr.tape, hg.output.trans h.fr.output, Nat.le_trans h.fr.size hg.size, fun x hx3 hxb => by rw [e8 x (Nat.lt_of_lt_of_le hx3 h.fr.size) (low x hx3)]; exact h.fr.block x hx3 hxb⟩, lb, lg⟩
  rw [List.length_append]
  exact hrow
/-- The row, told as data. -/
theorem GI.reads (h : GI w0 b g E k s v ds w) : Reads w (fun x => w0.heap.size ≤ x) (.seq k ds) [v] :=
  h.row.reads.to (Stands.sub w (fun x _ hp => by
    rcases hp with hp | hp
    · exact hp.1
    · exact (h.row.lt x hp).1))
/-- A callee's data, as the row takes them. -/
theorem GI.data (h : GI w0 b g E k s v ds w) (hd : Reads w' (fun x => w.heap.size ≤ x) d cs) : Reads w' (fun x => w0.heap.size ≤ x ∧ v.ownBlock ≠ some x) d cs :=
  hd.to (Stands.sub w' (fun x _ hp => ⟨Nat.le_trans h.fr.size hp, fun e => by have h1 := (h.row.lt x e).2; have h2 : w.heap.size ≤ x := hp; omega⟩))
end
end Go.Proofs.YtabcaljnpahgpaaGreatDoor
namespace Go.Proofs.YtabcaljnpahgpaaGreatDoor
set_option linter.unusedSimpArgs false
set_option linter.unusedVariables false
open Go Go.RowKit

theorem chain_toks {s : ByteArray} : ∀ {ts : List Lx.Tok} {p q : Nat}, Chain s p ts q → ∀ t ∈ ts, t.kind ≤ 5 ∧ 1 ≤ t.kind ∧ t.at_ < s.size
  | [], _, _, _, t, ht => by simp at ht
  | x :: ts, p, q, h, t, ht => by
    rcases List.mem_cons.1 ht with rfl | ht
    · exact ⟨h.1.k5, h.1.k1, h.1.hi⟩
    · exact chain_toks h.2 t ht
theorem lex_size {l : List UInt8} {ts : List Lx.Tok} (h : Lx.lex l = .ok ts) : l.length ≤ 4096 := by
  unfold Lx.lex at h
  split at h
  · cases h
  · omega
theorem tsOk_of {s : ByteArray} {ts : List Lx.Tok} (h : Lx.lex s.data.toList = .ok ts) (hs : Std s ts) : TsOk ts ∧ 0 < ts.length := by
  have hl : s.size ≤ 4096 := lex_size h
  obtain ⟨pre, rfl, hch⟩ := hs.chain
  have hg : ∀ t ∈ pre, t.text.length ≤ 1000000000 := by
    have h2 := h
    unfold Lx.lex at h2
    rw [if_neg (by have : s.data.toList.length = s.size := rfl; omega)] at h2
    obtain ⟨pre2, e, hp⟩ := Lx.lexGo_good _ _ _ _ _ (by have : s.data.toList.length = s.size := rfl; omega) h2
    rw [List.nil_append] at e
    have : pre = pre2 := (List.append_inj_left' e rfl)
    subst this
    exact fun t ht => (hp t ht).2
  have hm : ∀ t ∈ pre ++ [(⟨0, [], s.size⟩ : Lx.Tok)], t ∈ pre ∨ t = ⟨0, [], s.size⟩ := fun t ht => by simpa using ht
  refine ⟨⟨hs.len, fun t ht => ?_, fun t ht => ?_, fun t ht => ?_, fun t ht => ?_⟩, by simp⟩
  · rw [List.length_append, List.length_singleton, Nat.add_sub_cancel, List.getElem?_append_right (Nat.le_refl _), Nat.sub_self] at ht
    simp at ht
    rw [← ht]
  · rcases hm t ht with h | rfl
    · exact (chain_toks hch t h).1
    · simp
  · rcases hm t ht with h | rfl
    · exact hg t h
    · simp
  · rcases hm t ht with h | rfl
    · have := (chain_toks hch t h).2.2; omega
    · exact hl

/-- Where the tokens of a text stand, if they are tokens. -/
def StdAll (l : List UInt8) : Prop := ∀ ts, Lx.lex l = .ok ts → Std ⟨l.toArray⟩ ts
/-- What 'New' leaves. -/
def NewPost (l : List UInt8) (w : World) (r : Ending) (w' : World) : Prop :=
  Below w.heap.size w w' ∧ StdAll l ∧ ∃ (g cap : Nat) (ts : List Lx.Tok) (a e : Nat), r = .returned (.agg #[.slice (some ⟨g, 0, none⟩) ts.length cap, .int .i64 0, .int .i64 0, .int .i64 a, .int .i64 e]) ∧ w.heap.size ≤ g ∧ TokRow w' g ts ∧ TsOk ts ∧ 0 < ts.length ∧
    Rd.begin_ l = ⟨ts, 0, a, e⟩
/-- A reader laid in memory. -/
theorem NewPost.rdAt {l : List UInt8} {w : World} {b g cap : Nat} {ts : List Lx.Tok} {a e : Nat} {T : TypeId} (hb : w.heap[b]? = some (.cells #[.slice (some ⟨g, 0, none⟩) ts.length cap, .int .i64 0, .int .i64 0, .int .i64 a, .int .i64 e] T (0, 0)))
    (hr : TokRow w g ts) (hne : g ≠ b) (hok : TsOk ts) (hpos : 0 < ts.length) (hbg : Rd.begin_ l = ⟨ts, 0, a, e⟩) : RdAt w b g (Rd.begin_ l) := by
  rw [hbg]
  exact ⟨⟨T, cap, ts, 0, hb, hr, rfl, hpos, hok⟩, hne⟩

theorem new_below {w w1 : World} (hb : Below w.heap.size w w1) (cs : List Value) : Below w.heap.size w (putCells w1 w.heap.size 0 cs) := by
  have ho := putCells_os w.heap.size cs 0 w1
  exact ⟨ho.1.trans hb.os, ho.2.1.trans hb.tape, ho.2.2.trans hb.output, by rw [putCells_size]; exact hb.size, fun k hk => by rw [putCells_ne _ _ (by omega)]; exact hb.block k hk⟩
theorem new_row {w1 : World} {g x : Nat} {ts : List Lx.Tok} (h : TokRow w1 g ts) (hne : g ≠ x) (cs : List Value) : TokRow (putCells w1 x 0 cs) g ts :=
  h.heap (by rw [putCells_size]; exact Nat.le_refl _) (putCells_ne _ _ hne _ _ _)
theorem row_one (w : World) (T : TypeId) : TokRow (w.alloc (.cells #[.int .i64 0, .string ⟨#[]⟩, .int .i64 0] T)) w.heap.size [⟨0, [], 0⟩] := by
  refine ⟨by simp, fun i t ht => ?_, fun i t ht => ?_, fun i t ht => ?_⟩ <;>
  · have hi : i = 0 := by have := (List.getElem?_eq_some_iff.1 ht).1; simp at this; omega
    subst hi
    simp at ht
    subst ht
    exact cell_at_new _ _ _ _ _ _ rfl
theorem tsOk_one : TsOk [(⟨0, [], 0⟩ : Lx.Tok)] := ⟨by simp, fun t ht => by simp at ht; rw [← ht], fun t ht => by simp at ht; subst ht; simp, fun t ht => by simp at ht; subst ht; simp, fun t ht => by simp at ht; subst ht; simp⟩

set_option maxHeartbeats 1000000 in
set_option maxRecDepth 100000 in
theorem rnew_any (s : ByteArray) (w : World) (hs : s.size ≤ 9223372036854775807) (hE : Env w) (h3 : 3 ≤ w.heap.size) :
    Calls Tryz.prog 33 #[.string s] w (NewPost s.data.toList w) := by
  have HE := Lib.hid hE
  have hba : Below w.heap.size w (w.alloc (.cells #[.slice none 0 0, .int .i64 0, .int .i64 0, .int .i64 0, .int .i64 0] 76)) := (Below.refl _ _).alloc (Nat.le_refl _) _
  have HBA := Lib.hid hba
  have hz1 := hba.size
  clear hE
  go_enter Tryz.func33, Tryz.ntmps33
  go_wp2_with fail
  refine (lex_any s _ hs (HE.out.below hba) (by omega)).mono ?_
  rintro r w1 ⟨hb1, hres⟩
  clear hba
  have HB1 := Lib.hid (HBA.out.trans (hb1.mono HBA.out.size))
  have HZ : Hid (w1.heap[w.heap.size]? = some (.cells #[.slice none 0 0, .int .i64 0, .int .i64 0, .int .i64 0, .int .i64 0] 76 (0, 0))) := Lib.hid (by rw [hb1.block w.heap.size (by simp)]; exact heap_at_new _ _)
  have HS1 := Lib.hid hb1.size
  clear hb1
  have z0 := blk_cell HZ.out 0 (.slice none 0 0) rfl
  have z1 := blk_cell HZ.out 1 (.int .i64 0) rfl
  have z2 := blk_cell HZ.out 2 (.int .i64 0) rfl
  have z3 := blk_cell HZ.out 3 (.int .i64 0) rfl
  have z4 := blk_cell HZ.out 4 (.int .i64 0) rfl
  have f0 := blk_free HZ.out 0
  have f1 := blk_free HZ.out 1
  have f2 := blk_free HZ.out 2
  have f3 := blk_free HZ.out 3
  have f4 := blk_free HZ.out 4
  rcases hres with ⟨ts, v, hlx, rfl, ht, hstd⟩ | ⟨a, c, hlx, rfl, hc⟩
  · obtain ⟨hok, hpos⟩ := tsOk_of hlx hstd
    obtain ⟨g, cap, rfl, hg, hrow⟩ := ht.openRow hpos
    have HSTD : Hid (StdAll s.data.toList) := Lib.hid fun ts' h' => by
      rw [hlx] at h'
      obtain rfl := Lx.Res.ok.inj h'
      exact hstd
    have HOK := Lib.hid hok
    have HLX := Lib.hid hlx
    have HROW := Lib.hid hrow
    have HGS := Lib.hid hg
    clear hok hlx hrow ht hstd hg
    have hgx : g ≠ w.heap.size := by have := HGS.out; simp at this; omega
    have HP1 := Lib.hid (new_below HB1.out [.slice (some ⟨g, 0, none⟩) ts.length cap, .int .i64 0, .int .i64 0, .int .i64 0, .int .i64 0])
    have HP2 := Lib.hid (new_row HROW.out hgx [.slice (some ⟨g, 0, none⟩) ts.length cap, .int .i64 0, .int .i64 0, .int .i64 0, .int .i64 0])
    go_wp2_with fail
    have p1 := HP1.out
    have p2 := HP2.out
    simp only [putCells, Nat.reduceAdd, Nat.zero_add] at p1 p2
    refine bodyPost_ret (v := .agg #[.slice (some ⟨g, 0, none⟩) ts.length cap, .int .i64 0, .int .i64 0, .int .i64 0, .int .i64 0]) (by simp [results, Tryz.results33, go_sem, z0, z1, z2, z3, z4]) rfl ?_
    exact ⟨p1, HSTD.out, g, cap, ts, 0, 0, rfl, by have := HGS.out; simp at this; omega, p2, HOK.out, hpos, by unfold Rd.begin_; rw [HLX.out]⟩
  · have hce : ((c : Int) != 0) = true := neT (by omega)
    have hlit : Below w1.heap.size w1 (w1.alloc (.cells #[.int .i64 0, .string ⟨#[]⟩, .int .i64 0] 81)) := (Below.refl _ _).alloc (Nat.le_refl _) _
    have HP1 := Lib.hid (new_below (HB1.out.trans (hlit.mono HB1.out.size)) [.slice (some ⟨w1.heap.size, 0, none⟩) 1 1, .int .i64 0, .int .i64 0, .int .i64 a, .int .i64 c])
    have hgx : w1.heap.size ≠ w.heap.size := by have := HS1.out; simp at this; omega
    have n1 : ¬ w1.heap.size = w.heap.size := hgx
    have n2 : ¬ w.heap.size = w1.heap.size := fun e => hgx e.symm
    have HP2 := Lib.hid (new_row (row_one w1 81) hgx [.slice (some ⟨w1.heap.size, 0, none⟩) 1 1, .int .i64 0, .int .i64 0, .int .i64 a, .int .i64 c])
    have HLX := Lib.hid hlx
    have HSZ := Lib.hid HB1.out.size
    have HZ2 : Hid ((w1.alloc (.cells #[.int .i64 0, .string ⟨#[]⟩, .int .i64 0] 81)).heap[w.heap.size]? = some (.cells #[.slice none 0 0, .int .i64 0, .int .i64 0, .int .i64 0, .int .i64 0] 76 (0, 0))) := Lib.hid (by
      rw [Lib.alloc_old _ _ _ (by have := HS1.out; simp at this; omega)]; exact HZ.out)
    clear hlit hlx z0 z1 z2 z3 z4 f0 f1 f2 f3 f4
    have z0 := blk_cell HZ2.out 0 (.slice none 0 0) rfl
    have z1 := blk_cell HZ2.out 1 (.int .i64 0) rfl
    have z2 := blk_cell HZ2.out 2 (.int .i64 0) rfl
    have z3 := blk_cell HZ2.out 3 (.int .i64 0) rfl
    have z4 := blk_cell HZ2.out 4 (.int .i64 0) rfl
    have f0 := blk_free HZ2.out 0
    have f1 := blk_free HZ2.out 1
    have f2 := blk_free HZ2.out 2
    have f3 := blk_free HZ2.out 3
    have f4 := blk_free HZ2.out 4
    go_wp2_with fail
    have p1 := HP1.out
    have p2 := HP2.out
    simp only [putCells, Nat.reduceAdd, Nat.zero_add] at p1 p2
    refine bodyPost_ret (v := .agg #[.slice (some ⟨w1.heap.size, 0, none⟩) 1 1, .int .i64 0, .int .i64 0, .int .i64 a, .int .i64 c]) (by simp [results, Tryz.results33, go_sem, z0, z1, z2, z3, z4]) rfl ?_
    exact ⟨p1, (fun ts' h' => by rw [HLX.out] at h'; cases h'), w1.heap.size, 1, [⟨0, [], 0⟩], a, c, rfl, HSZ.out, p2, tsOk_one, by simp, by unfold Rd.begin_; rw [HLX.out]⟩
end Go.Proofs.YtabcaljnpahgpaaGreatDoor
