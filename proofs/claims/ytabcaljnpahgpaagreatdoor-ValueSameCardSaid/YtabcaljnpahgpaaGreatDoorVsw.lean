/-
  The shower of values: value, inner, walked.
-/
import Derived.Test.YtabcaljnpahgpaaGreatDoorVsb
import Derived.Test.YtabcaljnpahgpaaGreatDoorVsh
import Derived.Test.YtabcaljnpahgpaaGreatDoorL7name
import Derived.Test.YtabcaljnpahgpaaGreatDoorVsm
import Derived.Test.YtabcaljnpahgpaaGreatDoorK14
import Derived.Test.YtabcaljnpahgpaaGreatDoorK16b
import Derived.Test.YtabcaljnpahgpaaGreatDoorL7lq
namespace Go.Proofs.YtabcaljnpahgpaaGreatDoor
set_option linter.unusedSimpArgs false
set_option linter.unusedVariables false
open Go Go.RowKit

set_option maxHeartbeats 1000000 in
set_option maxRecDepth 100000 in
/-- A text is just one token of a kind. -/
theorem vone_any (t : List UInt8) (k : Nat) (w : World) (hl : t.length ≤ 9223372036854775807) (hE : Env w) (h3 : 3 ≤ w.heap.size) :
    Calls Tryz.prog 101 #[.string ⟨t.toArray⟩, .int .i64 k] w fun r w' => r = .returned (.bool (Vl.one t k)) ∧ Below w.heap.size w w' := by
  obtain ⟨O, hO⟩ : ∃ O, O = Vl.one t k := ⟨_, rfl⟩
  have HO := Lib.hid hO
  have HE := Lib.hid hE
  rw [← hO]
  clear hO hE
  go_enter Tryz.func101, Tryz.ntmps101
  go_wp2_with fail
  refine (lex_any ⟨t.toArray⟩ w hl HE.out h3).mono ?_
  rintro r w1 ⟨hb1, hres⟩
  have HB := Lib.hid hb1
  rcases hres with ⟨ts, v, hlx, rfl, ht, hstd⟩ | ⟨a, c, hlx, rfl, hc⟩
  · obtain ⟨hok, hpos⟩ := tsOk_of hlx hstd
    obtain ⟨g, cap, rfl, hg, hrow⟩ := ht.openRow hpos
    have hl2 : ts.length ≤ 9223372036854775807 := by have := hok.len; omega
    have HLX := Lib.hid (show Lx.lex t = .ok ts from hlx)
    have HR := Lib.hid hrow
    clear hb1 hstd hok hg hlx ht hrow
    by_cases h2 : ts.length = 2
    rotate_left
    · have e1 : ((ts.length : Int) == 2) = false := eqF (by omega)
      have HF : Hid (O = false) := Lib.hid (by
        rw [HO.out]
        unfold Vl.one
        rw [HLX.out]
        match ts, h2 with
        | [], _ => rfl
        | [_], _ => rfl
        | [_, _], h => exact absurd rfl h
        | _ :: _ :: _ :: _, _ => rfl)
      clear h2
      go_wp2_with fail
      go_ret
      exact ⟨by rw [HF.out]; rfl, HB.out⟩
    have e1 : ((ts.length : Int) == 2) = true := eqT (by omega)
    obtain ⟨x, y, rfl⟩ : ∃ x y, ts = [x, y] := by
      match ts, h2 with
      | [x, y], _ => exact ⟨x, y, rfl⟩
    have k0 : w1.cell? ⟨g, 0, none⟩ = _ := HR.out.kind 0 x rfl
    have k1 : w1.cell? ⟨g, 1, none⟩ = _ := HR.out.text 0 x rfl
    have k2 : w1.cell? ⟨g, 2, none⟩ = _ := HR.out.at_ 0 x rfl
    have HF : Hid (O = (decide (x.kind = k) && decide (x.text = t))) := Lib.hid (by rw [HO.out]; unfold Vl.one; rw [HLX.out])
    clear h2 e1 hpos hl2
    by_cases hk : x.kind = k
    rotate_left
    · have e2 : ((x.kind : Int) == (k : Int)) = false := eqF (by omega)
      have HG : Hid (O = false) := Lib.hid (by rw [HF.out, decide_eq_false hk]; rfl)
      clear hk
      go_wp2_with fail
      go_ret
      exact ⟨by rw [HG.out]; rfl, HB.out⟩
    have e2 : ((x.kind : Int) == (k : Int)) = true := eqT (by omega)
    have HG : Hid (O = decide (x.text = t)) := Lib.hid (by rw [HF.out, decide_eq_true hk]; rfl)
    clear hk
    by_cases ht : x.text = t
    · have e3 : (x.text == t) = true := by rw [beq_iff_eq]; exact ht
      have HH : Hid (O = true) := Lib.hid (by rw [HG.out, decide_eq_true ht])
      clear ht
      go_wp2_with fail
      go_ret
      exact ⟨by rw [HH.out]; rfl, HB.out⟩
    · have e3 : (x.text == t) = false := by rw [beq_eq_false_iff_ne]; exact ht
      have HH : Hid (O = false) := Lib.hid (by rw [HG.out, decide_eq_false ht])
      clear ht
      go_wp2_with fail
      go_ret
      exact ⟨by rw [HH.out]; rfl, HB.out⟩
  · have e0 : ((c : Int) == 0) = false := eqF (by omega)
    have HF : Hid (O = false) := Lib.hid (by
      rw [HO.out]
      unfold Vl.one
      rw [show Lx.lex t = .err a c from hlx])
    clear hb1 hlx
    go_wp2_with fail
    go_ret
    exact ⟨by rw [HF.out]; rfl, HB.out⟩

/-- A shower's world. -/
structure SW (w0 : World) (b : Nat) (s : Vl.Sh) (w : World) : Prop where
  sh : SH w0.heap.size b s.out s.bad w
  bel : Below w0.heap.size w0 w
theorem SW.badCell {w0 w : World} {b : Nat} {s : Vl.Sh} (h : SW w0 b s w) : w.cell? ⟨b, 2, none⟩ = some (.bool s.bad) := by
  obtain ⟨-, p, v, -, hb, -⟩ := h.sh
  rw [Lib.cell_of_heap hb]; rfl
abbrev OK8 (b : Nat) (w w' : World) : Prop := Lib.OthersKept 5 (some b) w w'
section
variable {w0 w w' : World} {b : Nat} {s : Vl.Sh}
theorem SW.need (h : SW w0 b s w) (ok : Bool) : Calls Tryz.prog 98 #[.pointer (some ⟨b, 0, none⟩), .bool ok] w fun e w' => e = .returned (.tuple #[]) ∧ SW w0 b (Vl.need ok s) w' ∧ OK8 b w w' := by
  refine (shNeed _ b s.out s.bad ok w h.sh).mono ?_
  rintro e w' ⟨rfl, h1, h2, h3⟩
  exact ⟨rfl, ⟨h1, h.bel.trans h2⟩, h3⟩
theorem SW.str (h : SW w0 b s w) (l : List UInt8) (hl : s.out.length + l.length ≤ 10000000000) : Calls Tryz.prog 100 #[.pointer (some ⟨b, 0, none⟩), .string ⟨l.toArray⟩] w fun e w' => (∃ n : Int, e = .returned (.tuple #[.int .i64 n, .nilIface])) ∧ SW w0 b (Vl.put l s) w' ∧ OK8 b w w' := by
  refine (shStr _ b s.out l s.bad w h.sh hl h.bel.size).mono ?_
  rintro e w' ⟨he, h1, h2, h3⟩
  exact ⟨he, ⟨h1, h.bel.trans h2⟩, h3⟩
theorem SW.byte (h : SW w0 b s w) (c : UInt8) (hl : s.out.length ≤ 10000000000) : Calls Tryz.prog 132 #[.pointer (some ⟨b, 0, none⟩), .int .u8 c.toNat] w fun e w' => e = .returned .nilIface ∧ SW w0 b (Vl.put [c] s) w' ∧ OK8 b w w' := by
  refine (shByte _ b s.out s.bad c w h.sh hl h.bel.size).mono ?_
  rintro e w' ⟨he, h1, h2, h3⟩
  exact ⟨he, ⟨h1, h.bel.trans h2⟩, h3⟩
theorem SW.below (h : SW w0 b s w) (hb : Below w.heap.size w w') : SW w0 b s w' := by
  refine ⟨?_, h.bel.trans (hb.mono h.bel.size)⟩
  obtain ⟨hB, p, v, hp, hbk, hown, hne⟩ := h.sh
  refine ⟨hB, p, v, hp, ?_, ?_, hne⟩
  · rw [hb.block b (sh_lt hbk)]; exact hbk
  · exact hown.kept (row := some b) ⟨hb.os, hb.tape, hb.output, hb.size, fun k hk _ => hb.block k hk⟩ (Or.inr hne)
theorem SW.alloc (h : SW w0 b s w) (o : Obj) : SW w0 b s (w.alloc o) := h.below ((Below.refl _ _).alloc (Nat.le_refl _) _)
theorem ok8_below (hb : Below w.heap.size w w') : OK8 b w w' := fun k o hk _ _ => by rw [hb.block k (sh_lt hk)]; exact hk
theorem ok8_at (h : OK8 b w w') {x : Nat} {cs : Array Value} {T : TypeId} {fz : Nat × Nat} (hx : w.heap[x]? = some (.cells cs T fz)) (hxb : x ≠ b) (hT : T ≠ 5) : w'.heap[x]? = some (.cells cs T fz) :=
  h x _ hx (fun e => hxb (Option.some.inj e)) (fun c f e => hT (by cases e; rfl))
end
theorem SW.drewN {w0 w : World} {b : Nat} {s : Vl.Sh} (h : SW w0 b s w) (n : Nat) : SW w0 b s (w.drewN n) := ⟨⟨h.sh.hB, h.sh.ex⟩, Below.drewN h.bel n⟩
theorem vdollar (t : List UInt8) : (⟨#[36]⟩ : ByteArray) ++ ⟨t.toArray⟩ = ⟨(36 :: t).toArray⟩ := by
  have h : ((⟨#[36]⟩ : ByteArray) ++ ⟨t.toArray⟩).data.toList = 36 :: t := by simp
  have : ∀ a : ByteArray, a = ⟨a.data.toList.toArray⟩ := fun a => by cases a; simp
  rw [this (_ ++ _), h]
theorem Vl.quoteOf_le (t : List UInt8) : (Vl.quoteOf t).length ≤ 6 * t.length + 2 := by
  unfold Vl.quoteOf
  split
  · exact quote_len t
  · simp
def zcells (z : Vl.Z) (a1 a2 : Option Addr) (n1 n2 : Nat) : Array Value := #[.int .i64 z.kind, .string ⟨z.text.toArray⟩, .slice a1 z.items.length n1, .slice a2 z.fields.length n2, .int .i64 z.at_]
/-- 'inner', of values no greater than N. -/
def InnC (N : Nat) : Prop := ∀ (z : Vl.Z), z.n ≤ N → (z.kind = 8 ∨ z.kind = 9) → ∀ (deep : Nat), deep ≤ 16 → ∀ (w0 : World) (b : Nat) (s : Vl.Sh) (a1 a2 : Option Addr) (n1 n2 : Nat) (w : World), Env w0 → 3 ≤ w0.heap.size → SW w0 b s w → s.out.length + z.cost ≤ 1000000000 →
  Reads w0 (fun _ => True) z.d (zcells z a1 a2 n1 n2).toList →
  Calls Tryz.prog 103 #[.pointer (some ⟨b, 0, none⟩), .agg (zcells z a1 a2 n1 n2), .int .i64 deep] w (fun e w' => e = .returned (.tuple #[]) ∧ SW w0 b (z.inner deep s) w' ∧ OK8 b w w')

noncomputable def valRest : Code := (Tryz.f52.body.map (fun c => sndC (sndC c))).getD .skip
end Go.Proofs.YtabcaljnpahgpaaGreatDoor
