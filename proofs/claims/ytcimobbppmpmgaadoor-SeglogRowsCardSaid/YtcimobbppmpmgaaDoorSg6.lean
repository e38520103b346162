/-
  Segments: Read, walked.
-/
import Derived.Test.YtcimobbppmpmgaaDoorSg5
namespace Go.Proofs.YtcimobbppmpmgaaDoor
set_option linter.unusedSimpArgs false
set_option linter.unusedVariables false
open Go Go.RowKit
open Go.Maps Go.WideMaps

namespace Sg
abbrev En := Int × Fr.F
def badE : List Int → Int
  | [] => 0
  | id :: r => if nameE id ≠ 0 then nameE id else badE r
theorem badE_cons (id : Int) (r : List Int) : badE (id :: r) = if nameE id ≠ 0 then nameE id else badE r := rfl
def readGo (st : Fs.St) : List Int → List En → Bool → List En × Bool × Int
  | [], out, wh => (out, wh, 0)
  | id :: r, out, wh =>
    if Fs.openE st (nameB id) ≠ 0 then ([], false, Fs.openE st (nameB id))
    else readGo st r (out ++ (Fr.scan (Fs.fileAt st (nameB id))).1.map (fun f => (id, f))) (decide ((Fr.scan (Fs.fileAt st (nameB id))).2 = (Fs.fileAt st (nameB id)).length))
def read (st : Fs.St) (ids : List Int) : List En × Bool × Int := if badE ids ≠ 0 then ([], false, badE ids) else readGo st ids [] true
theorem readGo_cons (st : Fs.St) (id : Int) (r : List Int) (out : List En) (wh : Bool) : readGo st (id :: r) out wh =
    if Fs.openE st (nameB id) ≠ 0 then ([], false, Fs.openE st (nameB id))
    else readGo st r (out ++ (Fr.scan (Fs.fileAt st (nameB id))).1.map (fun f => (id, f))) (decide ((Fr.scan (Fs.fileAt st (nameB id))).2 = (Fs.fileAt st (nameB id)).length)) := rfl
end Sg
theorem Fr.scanGo_len : ∀ (k : Nat) (l : List UInt8) (out : List Fr.F) (a : Nat), (Fr.scanGo k l out a).1.length ≤ out.length + k
  | 0, _, out, _ => Nat.le_refl _
  | k + 1, l, out, a => by
    unfold Fr.scanGo
    split
    · show out.length ≤ _; omega
    · have := Fr.scanGo_len k (l.drop (9 + Fr.num l)) (out ++ [Fr.first l]) (a + (9 + Fr.num l))
      simp at this
      omega
theorem Fr.scan_len (l : List UInt8) : (Fr.scan l).1.length ≤ l.length + 1 := by
  have := Fr.scanGo_len (l.length + 1) l [] 0
  simpa [Fr.scan] using this
theorem FrAt.keep2 {w w' : World} {base : Nat} {v : Value} {ps : List (Fr.F × Value)} (h : FrAt w base v ps) (hk : ∀ k, base ≤ k → k < w.heap.size → w'.heap[k]? = w.heap[k]?) : FrAt w' base v ps :=
  ⟨row_kept h.row (fun g hg => hk g (h.row.lt g hg).1 (h.row.lt g hg).2), fun p hp => row_kept (h.pay p hp) (fun g hg => hk g ((h.pay p hp).lt g hg).1 ((h.pay p hp).lt g hg).2), h.apart⟩
theorem frCells_get : ∀ (ps : List (Fr.F × Value)) (i : Nat) (p : Fr.F × Value), ps[i]? = some p → (frCells ps)[i * 2]? = some (.int .i64 p.1.1) ∧ (frCells ps)[i * 2 + 1]? = some p.2
  | [], i, p, h => by simp at h
  | q :: ps, 0, p, h => by
    simp at h; subst h
    exact ⟨rfl, rfl⟩
  | q :: ps, i + 1, p, h => by
    have := frCells_get ps i p (by simpa using h)
    rw [show (i + 1) * 2 = i * 2 + 1 + 1 by omega]
    exact this
theorem FrAt.at {w : World} {base g n cap : Nat} {ps : List (Fr.F × Value)} (h : FrAt w base (.slice (some ⟨g, 0, none⟩) n cap) ps) {i : Nat} {p : Fr.F × Value} (hi : ps[i]? = some p) :
    w.cell? ⟨g, i * 2, none⟩ = some (.int .i64 p.1.1) ∧ w.cell? ⟨g, i * 2 + 1, none⟩ = some p.2 := by
  obtain ⟨h1, h2⟩ := frCells_get ps i p hi
  have c1 := World.ownsRow.cells h.row (g := g) rfl _ _ h1
  have c2 := World.ownsRow.cells h.row (g := g) rfl _ _ h2
  rw [addr_add] at c1 c2
  exact ⟨c1, c2⟩
/-- A slice of ints. -/
def Ints (w : World) (v : Value) (l : List Int) : Prop :=
  ∃ a cap, v = .slice a l.length cap ∧ ∀ (i : Nat) x, l[i]? = some x → ∃ b off, a = some ⟨b, off, none⟩ ∧ b < w.heap.size ∧ w.cell? ⟨b, off + i, none⟩ = some (.int .i64 x)
theorem Ints.form {w : World} {v : Value} {l : List Int} (h : Ints w v l) : ∃ a cap, v = .slice a l.length cap := by
  obtain ⟨a, cap, h1, _⟩ := h
  exact ⟨a, cap, h1⟩
theorem Ints.at {w : World} {a : Option Addr} {n cap : Nat} {l : List Int} (h : Ints w (.slice a n cap) l) {i : Nat} {x : Int} (hi : l[i]? = some x) :
    ∃ b off, a = some ⟨b, off, none⟩ ∧ b < w.heap.size ∧ w.cell? ⟨b, off + i, none⟩ = some (.int .i64 x) := by
  obtain ⟨a', cap', h1, h2⟩ := h
  obtain ⟨b, off, e, h3, h4⟩ := h2 i x hi
  simp only [Value.slice.injEq] at h1
  exact ⟨b, off, by rw [h1.1, e], h3, h4⟩
theorem Ints.below {w w' : World} {v : Value} {l : List Int} (h : Ints w v l) (hb : Below w.heap.size w w') : Ints w' v l := by
  obtain ⟨a, cap, h1, h3⟩ := h
  refine ⟨a, cap, h1, fun i x hi => ?_⟩
  obtain ⟨b, off, e, h4, h5⟩ := h3 i x hi
  exact ⟨b, off, e, Nat.lt_of_lt_of_le h4 hb.size, by rw [World.cell?_of_block (hb.block b h4)]; exact h5⟩

def enCells (ps : List (Sg.En × Value)) : List Value := ps.flatMap fun p => [.int .i64 p.1.1, .int .i64 p.1.2.1, p.2]
/-- Entries in memory of the call's own. -/
structure EnAt (w : World) (base : Nat) (v : Value) (ps : List (Sg.En × Value)) : Prop where
  row : w.ownsRow base 45 3 v ps.length (enCells ps)
  pay : ∀ p ∈ ps, OwnB w base p.2 p.1.2.2
  apart : ∀ p ∈ ps, ∀ g, p.2.ownBlock = some g → v.ownBlock ≠ some g
theorem EnAt.keep {w w' : World} {base : Nat} {v : Value} {ps : List (Sg.En × Value)} (h : EnAt w base v ps) (hb : Below w.heap.size w w') : EnAt w' base v ps :=
  ⟨row_kept h.row (fun g hg => hb.block g (h.row.lt g hg).2), fun p hp => (h.pay p hp).keep hb, h.apart⟩
theorem EnAt.nil (w : World) (base : Nat) : EnAt w base (.slice none 0 0) [] := ⟨World.ownsRow_nil _ _ _ _, fun p h => by simp at h, fun p h => by simp at h⟩
theorem infoE : (Tryd.prog.info? 45).map (fun i => (i.zero, i.size, i.bytes)) = some (some (.agg #[.int .i64 0, .int .i64 0, .slice none 0 0]), 3, 40) := by kernel_rfl
/-- One entry more. -/
theorem EnAt.more {w w5 : World} {base : Nat} {v v' x : Value} {ps : List (Sg.En × Value)} {f : Sg.En} (h : EnAt w base v ps) (hx : OwnB w base x f.2.2) (hne : ∀ g, x.ownBlock = some g → v.ownBlock ≠ some g)
    (hrow : w5.ownsRow base 45 3 v' (ps.length + 1) (enCells ps ++ [.int .i64 f.1, .int .i64 f.2.1, x])) (hg : w.grownBy w5 v.ownBlock) (hloc : v'.ownBlock = v.ownBlock ∨ v'.ownBlock = some w.heap.size) :
    EnAt w5 base v' (ps ++ [(f, x)]) := by
  have hk : ∀ (y : Value) (l : List UInt8), OwnB w base y l → (∀ g, y.ownBlock = some g → v.ownBlock ≠ some g) → OwnB w5 base y l ∧ (∀ g, y.ownBlock = some g → v'.ownBlock ≠ some g) := fun y l hy hn =>
    ⟨row_kept hy (fun g hg2 => hg.block g (hy.lt g hg2).2 (fun e => hn g hg2 e.symm)), fun g hg2 => by
      rcases hloc with e | e
      · rw [e]; exact hn g hg2
      · rw [e]
        intro e2
        have := (hy.lt g hg2).2
        simp at e2
        omega⟩
  refine ⟨?_, fun p hp => ?_, fun p hp => ?_⟩
  · rw [List.length_append]
    unfold enCells at hrow ⊢
    rw [List.flatMap_append]
    exact hrow
  · rcases List.mem_append.1 hp with hp | hp
    · exact (hk p.2 p.1.2.2 (h.pay p hp) (h.apart p hp)).1
    · simp at hp; subst hp; exact (hk x f.2.2 hx hne).1
  · rcases List.mem_append.1 hp with hp | hp
    · exact (hk p.2 p.1.2.2 (h.pay p hp) (h.apart p hp)).2
    · simp at hp; subst hp; exact (hk x f.2.2 hx hne).2
/-- What 'Read' leaves. -/
def SegReadPost (st : Fs.St) (ids : List Int) (w : World) (e : Ending) (w' : World) : Prop :=
  Below w.heap.size w w' ∧ ∃ v ps, e = .returned (.tuple #[v, .bool (Sg.read st ids).2.1, .int .i64 (Sg.read st ids).2.2]) ∧ EnAt w' w.heap.size v ps ∧ ps.map (·.1) = (Sg.read st ids).1

set_option maxHeartbeats 1000000 in
set_option maxRecDepth 100000 in
theorem segRead_any (base B : Nat) (st : Fs.St) (V : FsV) (own : Nat → Tag) (iv : Value) (ids : List Int) (w : World) (h : FsOK base B st V own w) (hE : SgEnv base w) (hbase : base ≤ w.heap.size) (hS : Fs.Small st)
    (hI : Ints w iv ids) (hn : ids.length ≤ 1000) :
    Calls Tryd.prog 14 #[.pointer (some ⟨B, 0, none⟩), iv] w (SegReadPost st ids w) := by
  obtain ⟨ia, ic, rfl⟩ := hI.form
  have H := Lib.hid h
  have hEE := Lib.hid hE
  have HS := Lib.hid hS
  have HI := Lib.hid hI
  clear h hE hS hI
  go_enter Tryd.func14, Tryd.ntmps14
  go_wp2_with fail
  go_loopg [25] ids.length (fun k s25 wr => ∃ j : Nat, j ≤ ids.length ∧ k = ids.length - j ∧ s25 = .int .i64 (j : Nat) ∧ Below w.heap.size w wr ∧ Sg.badE (ids.drop j) = Sg.badE ids)
  case atStart => exact ⟨0, Nat.zero_le _, rfl, rfl, Below.refl _ _, rfl⟩
  case round =>
    obtain ⟨j, hj, hk, rfl, hB, hbad⟩ := hrel
    have HK := Lib.hid hk
    have HB := Lib.hid hB
    have HBAD := Lib.hid hbad
    clear hk hB hbad
    have hj0 : (0 : Int) ≤ (j : Int) := Int.natCast_nonneg _
    by_cases hjn : j < ids.length
    · have hjn1 : (j : Int) < (ids.length : Int) := by omega
      obtain ⟨id, hid⟩ : ∃ x, ids[j]? = some x := ⟨_, List.getElem?_eq_getElem hjn⟩
      obtain ⟨g, o, rfl, hg, hc⟩ := (HI.out.below HB.out).at hid
      have HD : Hid (ids.drop j = id :: ids.drop (j + 1)) := by
        obtain ⟨h1, h2⟩ := List.getElem?_eq_some_iff.1 hid
        rw [List.drop_eq_getElem_cons h1, h2]
        exact Lib.hid rfl
      clear hid
      go_wp2_with fail
      refine (name_any id wr base (hEE.out.below (HB.out.mono hbase))).mono ?_
      rintro e w1 ⟨rfl, hb1⟩
      have HB1 := Lib.hid (HB.out.trans (hb1.mono HB.out.size))
      obtain ⟨E, hE⟩ : ∃ E, E = Sg.nameE id := ⟨_, rfl⟩
      obtain ⟨sn, hsn⟩ : ∃ t : ByteArray, t = ⟨(Sg.nameB id).toArray⟩ := ⟨_, rfl⟩
      rw [← hsn, ← hE]
      have HE := Lib.hid hE
      clear hE hsn hb1
      by_cases hE0 : E = 0
      · subst hE0
        go_wp2_with fail
        go_roundg (ids.length - (j + 1))
        case measure => rw [HK.out]; omega
        case rel => exact ⟨j + 1, by omega, rfl, by simp, HB1.out, by rw [← HBAD.out, HD.out]; rw [Sg.badE_cons, if_neg (by rw [← HE.out]; simp)]⟩
      · have HR : Hid (Sg.read st ids = ([], false, E)) := by
          have h1 : Sg.badE ids = E := by
            rw [← HBAD.out, HD.out]
            rw [Sg.badE_cons, if_pos (by rw [← HE.out]; exact hE0), HE.out]
          unfold Sg.read
          rw [h1, if_pos hE0]
          exact Lib.hid rfl
        have hte : (E != 0) = true := by rw [bne_iff_ne]; exact hE0
        have hte2 : (E == 0) = false := by rw [beq_eq_false_iff_ne]; exact hE0
        clear hE0
        go_wp2_with fail
        refine bodyPost_ret (v := .tuple #[.slice none 0 0, .bool false, .int .i64 E]) (by simp [results, Tryd.results14, go_sem]) rfl ?_
        exact ⟨HB1.out, _, [], by rw [HR.out], EnAt.nil _ _, by rw [HR.out]; rfl⟩
    · have hjn1 : (ids.length : Int) ≤ (j : Int) := by omega
      have HOK : Hid (Sg.badE ids = 0) := by
        rw [← HBAD.out, List.drop_eq_nil_of_le (by omega)]
        exact Lib.hid rfl
      have HRD : Hid (Sg.read st ids = Sg.readGo st ids [] true) := by
        unfold Sg.read
        rw [if_neg (by rw [HOK.out]; simp)]
        exact Lib.hid rfl
      go_wp2_with fail
      go_loopg [11, 12, 40] ids.length (fun k s11 s12 s40 wq => ∃ (i : Nat) (ps : List (Sg.En × Value)) (wh : Bool), i ≤ ids.length ∧ k = ids.length - i ∧ s40 = .int .i64 (i : Nat) ∧ s12 = .bool wh ∧ EnAt wq w.heap.size s11 ps ∧ Sg.readGo st (ids.drop i) (ps.map (·.1)) wh = Sg.read st ids ∧ Below w.heap.size w wq ∧ ps.length ≤ i * 70000)
      case atStart => exact ⟨0, [], true, Nat.zero_le _, rfl, rfl, rfl, EnAt.nil _ _, by rw [HRD.out]; rfl, HB.out, Nat.le_refl _⟩
      case round =>
        obtain ⟨i, ps, wh, hi, hk, rfl, rfl, hEN, hgo, hbq, hpl⟩ := hrel
        have HK2 := Lib.hid hk
        have HEN := Lib.hid hEN
        have HGO := Lib.hid hgo
        have HBQ := Lib.hid hbq
        have HPL := Lib.hid hpl
        clear hk hEN hgo hbq hpl
        have hi0 : (0 : Int) ≤ (i : Int) := Int.natCast_nonneg _
        by_cases hin : i < ids.length
        · have hin1 : (i : Int) < (ids.length : Int) := by omega
          obtain ⟨id, hid⟩ : ∃ x, ids[i]? = some x := ⟨_, List.getElem?_eq_getElem hin⟩
          obtain ⟨g, o, rfl, hg, hc⟩ := (HI.out.below HBQ.out).at hid
          have HD : Hid (ids.drop i = id :: ids.drop (i + 1)) := by
            obtain ⟨h1, h2⟩ := List.getElem?_eq_some_iff.1 hid
            rw [List.drop_eq_getElem_cons h1, h2]
            exact Lib.hid rfl
          have HCO : Hid (Sg.read st ids = if Fs.openE st (Sg.nameB id) ≠ 0 then ([], false, Fs.openE st (Sg.nameB id))
              else Sg.readGo st (ids.drop (i + 1)) (ps.map (·.1) ++ (Fr.scan (Fs.fileAt st (Sg.nameB id))).1.map (fun f => (id, f))) (decide ((Fr.scan (Fs.fileAt st (Sg.nameB id))).2 = (Fs.fileAt st (Sg.nameB id)).length))) := by
            rw [← HGO.out, HD.out, Sg.readGo_cons]
            exact Lib.hid rfl
          clear hid
          go_wp2_with fail
          refine (name_any id wr base (hEE.out.below (HBQ.out.mono hbase))).mono ?_
          rintro e w1 ⟨rfl, hb1⟩
          have HB1 := Lib.hid (HBQ.out.trans (hb1.mono HBQ.out.size))
          have HEN1 := Lib.hid (HEN.out.keep hb1)
          obtain ⟨sn, hsn⟩ : ∃ t : ByteArray, t = ⟨(Sg.nameB id).toArray⟩ := ⟨_, rfl⟩
          rw [← hsn]
          have HN : Hid (sn.data.toList = Sg.nameB id) := by rw [hsn]; exact Lib.hid rfl
          have hsz : sn.size ≤ 25 := by rw [hsn]; exact nameSz id
          clear hsn hb1
          go_wp2_with fail
          refine (read_any base B st V own sn w1 (H.out.kept (kept_below HB1.out)) (by omega) (fun f hf => by have := HS.out.file f hf; omega)).mono ?_
          rintro e w2 ⟨hb2, hres⟩
          have HB2 := Lib.hid (HB1.out.trans (hb2.mono HB1.out.size))
          have HEN2 := Lib.hid (HEN1.out.keep hb2)
          have hsz12 := hb2.size
          rw [HN.out] at hres
          clear hb2
          rcases hres with ⟨h0, f, v2, hf, rfl, ho2⟩ | ⟨h0, rfl⟩
          · have HFA : Hid (Fs.fileAt st (Sg.nameB id) = f.1) := by unfold Fs.fileAt; rw [hf]; exact Lib.hid rfl
            have hfl := HS.out.file f (List.mem_of_getElem? hf)
            have HBY := Lib.hid ho2.byts
            have HO2 := Lib.hid ho2
            have HO0 := Lib.hid h0
            obtain ⟨da, dn, dc, hv2, HDN⟩ := OwnB.form3 ho2
            subst hv2
            clear hf h0 ho2
            go_wp2_with fail
            refine (scan_any _ f.1 w2 HBY.out (by omega)).mono ?_
            rintro e w3 ⟨hb3, lv, qs, rfl, hF, hqs⟩
            have HB3 := Lib.hid (HB2.out.trans (hb3.mono HB2.out.size))
            have HEN3 := Lib.hid (HEN2.out.keep hb3)
            have HF := Lib.hid hF
            have HQS := Lib.hid hqs
            have hsz23 := hb3.size
            have hql : qs.length ≤ 65537 := by
              have h1 := congrArg List.length hqs
              rw [List.length_map] at h1
              have h2 := Fr.scan_len f.1
              omega
            obtain ⟨NN, hNN⟩ : ∃ NN, NN = (Fr.scan f.1).2 := ⟨_, rfl⟩
            rw [← hNN]
            have HNN := Lib.hid hNN
            obtain ⟨lva, lvc, hlv⟩ := row_any hF.row
            subst hlv
            have HBL : Hid (∀ g, u11.ownBlock = some g → g < w2.heap.size) := Lib.hid (fun g hg => (HEN2.out.row.lt g hg).2)
            clear hb3 hF hqs hNN
            go_wp2_with fail
            go_loopg [11, 65] qs.length (fun k s11 s65 wi => ∃ (m : Nat) (ps' : List (Sg.En × Value)), m ≤ qs.length ∧ k = qs.length - m ∧ s65 = .int .i64 (m : Nat) ∧ EnAt wi w.heap.size s11 ps' ∧ ps'.map (·.1) = ps.map (·.1) ++ (qs.take m).map (fun q => (id, q.1)) ∧ ps'.length = ps.length + m ∧
              (∀ g, s11.ownBlock = some g → g < w2.heap.size ∨ w3.heap.size ≤ g) ∧ (∀ k, w2.heap.size ≤ k → k < w3.heap.size → wi.heap[k]? = w3.heap[k]?) ∧ w3.heap.size ≤ wi.heap.size ∧ Below w.heap.size w wi)
            case atStart => exact ⟨0, ps, Nat.zero_le _, rfl, rfl, HEN3.out, by simp, rfl, fun g hg => .inl (HBL.out g hg), fun _ _ _ => rfl, Nat.le_refl _, HB3.out⟩
            case round =>
              obtain ⟨m, ps', hm, hk, rfl, hEN', hmap, hlen', hblk, hmid, hsz3, hbi⟩ := hrel
              have HK3 := Lib.hid hk
              have HEN' := Lib.hid hEN'
              have HMAP := Lib.hid hmap
              have HLEN' := Lib.hid hlen'
              have HBLK := Lib.hid hblk
              have HMID := Lib.hid hmid
              have HBI := Lib.hid hbi
              clear hk hEN' hmap hlen' hblk hmid hbi
              have hm0 : (0 : Int) ≤ (m : Int) := Int.natCast_nonneg _
              by_cases hmn : m < qs.length
              · have hmn1 : (m : Int) < (qs.length : Int) := by omega
                obtain ⟨⟨⟨kd, pl⟩, pv⟩, hq⟩ : ∃ q, qs[m]? = some q := ⟨_, List.getElem?_eq_getElem hmn⟩
                obtain ⟨g2, c2, hlv⟩ := row_form HF.out.row (by omega)
                simp only [Value.slice.injEq] at hlv
                obtain ⟨hlv1, _, hlv2⟩ := hlv
                subst hlv1 hlv2
                have HFI := Lib.hid (HF.out.keep2 HMID.out)
                obtain ⟨hc0, hc1⟩ := HFI.out.at hq
                have hpay := HFI.out.pay _ (List.mem_of_getElem? hq)
                have hpay3 := HF.out.pay _ (List.mem_of_getElem? hq)
                obtain ⟨pa, pn, pc, hpv, HPN⟩ := OwnB.form3 hpay
                simp only at hpv hc0 hc1 hpay hpay3
                subst hpv
                have HPAY := Lib.hid hpay
                have HPAY3 := Lib.hid hpay3
                have HTK : Hid ((qs.take (m + 1)).map (fun q => (id, q.1)) = (qs.take m).map (fun q => (id, q.1)) ++ [(id, kd, pl)]) := by
                  rw [List.take_add_one, hq, List.map_append]
                  exact Lib.hid rfl
                have hg2 : g2 < wr.heap.size := by have := (HF.out.row.lt g2 rfl).2; omega
                obtain ⟨i0, hi', hz0, hz1, hz2⟩ := info_parts infoE
                have hpl : ps'.length ≤ 1000000000 := by have := HLEN'.out; have := HPL.out; omega
                have hbW : Below wr.heap.size wr ((wr.alloc (.cells #[.int .i64 kd, .slice pa pn pc] 43)).alloc (.cells #[.int .i64 id, .int .i64 kd, .slice pa pn pc] 45)) := ((Below.refl _ _).alloc (Nat.le_refl _) _).alloc (by simp) _
                have HENW := Lib.hid (HEN'.out.keep hbW)
                have HPW := Lib.hid ((HPAY.out.keep hbW).mono HB2.out.size)
                have HBW := Lib.hid (HBI.out.trans (hbW.mono HBI.out.size))
                have hbase' := HBW.out.size
                have HCN : Hid (∀ (j : Nat) u, [Value.int .i64 id, Value.int .i64 kd, Value.slice pa pn pc][j]? = some u → ((wr.alloc (.cells #[.int .i64 kd, .slice pa pn pc] 43)).alloc (.cells #[.int .i64 id, .int .i64 kd, .slice pa pn pc] 45)).cell? ((⟨wr.heap.size + 1, 0, none⟩ : Addr).add j) = some u) := by
                  refine Lib.hid fun j u hj => ?_
                  rw [addr_add]
                  have := cell_new (wr.alloc (.cells #[.int .i64 kd, .slice pa pn pc] 43)) #[.int .i64 id, .int .i64 kd, .slice pa pn pc] 45 j u (by simpa using hj)
                  rw [show (wr.alloc (.cells #[.int .i64 kd, .slice pa pn pc] 43)).heap.size = wr.heap.size + 1 by simp] at this
                  exact this
                have HONE : Hid (∀ u ∈ [Value.int .i64 id, Value.int .i64 kd, Value.slice pa pn pc], u.oneCell' = true) := Lib.hid (fun u hu => by simp at hu; rcases hu with rfl | rfl | rfl <;> rfl)
                have HAP : Hid (∀ g, (Value.slice pa pn pc).ownBlock = some g → u11.ownBlock ≠ some g) := Lib.hid (fun g hg e => by
                  have h1 := HPAY3.out.lt g hg
                  have h2 := HBLK.out g e
                  omega)
                have HSZ : Hid (∀ k, k < w3.heap.size → ((wr.alloc (.cells #[.int .i64 kd, .slice pa pn pc] 43)).alloc (.cells #[.int .i64 id, .int .i64 kd, .slice pa pn pc] 45)).heap[k]? = wr.heap[k]?) := Lib.hid (fun k hk => hbW.block k (by omega))
                have HWS : Hid (wr.heap.size + 2 = ((wr.alloc (.cells #[.int .i64 kd, .slice pa pn pc] 43)).alloc (.cells #[.int .i64 id, .int .i64 kd, .slice pa pn pc] 45)).heap.size) := Lib.hid (by simp)
                clear hbW hpay hpay3 hq
                go_wp2_with (first | (at_builtin; refine wpList_append_own_at _ rfl _ _ 39 rfl w.heap.size 45 i0 _ 3 40 Tryd.underlying39 hi' hz0 hz1 hz2 rfl (by decide) u11 ps'.length (enCells ps') rfl HENW.out.row ⟨wr.heap.size + 1, 0, none⟩ 1 1 [.int .i64 id, .int .i64 kd, .slice pa pn pc] rfl rfl HCN.out HONE.out (by unfold maxLen; omega) (by omega) hbase' ?_; intro d' w5 hown5 hgrow5 hnil5 hloc5; clear hnil5; have HNEW := Lib.hid (EnAt.more (f := (id, kd, pl)) HENW.out HPW.out HAP.out hown5 hgrow5 hloc5); have HB5 := Lib.hid (below_grown HBW.out hbase' HENW.out.row hgrow5); have HG5 := Lib.hid hgrow5; have HL5 := Lib.hid hloc5; clear hloc5 hown5 hgrow5) | fail)
                go_roundg (qs.length - (m + 1))
                case measure => rw [HK3.out]; omega
                case rel =>
                  have hws := HWS.out
                  have hg5s := HG5.out.size
                  refine ⟨m + 1, _, by omega, rfl, by simp, HNEW.out, by rw [List.map_append, HMAP.out, HTK.out, List.append_assoc]; rfl, by rw [List.length_append, HLEN'.out]; simp; omega, fun g hg => ?_, fun k hk1 hk2 => ?_, by omega, HB5.out⟩
                  · rcases HL5.out with e | e
                    · rw [e] at hg; exact HBLK.out g hg
                    · rw [e] at hg
                      simp only [Option.some.injEq] at hg
                      omega
                  · rw [HG5.out.block k (by omega) (fun e => by have := HBLK.out k e.symm; omega), HSZ.out k hk2]
                    exact HMID.out k hk1 hk2
              · have hmn1 : (qs.length : Int) ≤ (m : Int) := by omega
                have HTK : Hid (qs.take m = qs) := Lib.hid (List.take_of_length_le (by omega))
                go_wp2_with fail
                go_roundg (ids.length - (i + 1))
                case measure => rw [HK2.out]; omega
                case rel =>
                  refine ⟨i + 1, ps', decide ((Fr.scan (Fs.fileAt st (Sg.nameB id))).2 = (Fs.fileAt st (Sg.nameB id)).length), by omega, rfl, by simp, ?_, HEN'.out, ?_, HBI.out, by have := HLEN'.out; have := HPL.out; omega⟩
                  · rw [HFA.out, ← HNN.out, ← HDN.out]
                    congr 1
                    rw [Bool.eq_iff_iff, beq_iff_eq, decide_eq_true_iff]
                    omega
                  · rw [HCO.out, if_neg (by rw [HO0.out]; simp), HMAP.out, HTK.out, HFA.out, ← HQS.out, List.map_map]
                    rfl
          · have HR : Hid (Sg.read st ids = ([], false, Fs.openE st (Sg.nameB id))) := by
              rw [HCO.out, if_pos h0]
              exact Lib.hid rfl
            obtain ⟨C, hC⟩ : ∃ C, C = Fs.openE st (Sg.nameB id) := ⟨_, rfl⟩
            rw [← hC] at h0 ⊢
            have HC := Lib.hid hC
            have hte : (C != 0) = true := by rw [bne_iff_ne]; exact h0
            have hte2 : (C == 0) = false := by rw [beq_eq_false_iff_ne]; exact h0
            clear h0 hC
            go_wp2_with fail
            refine bodyPost_ret (v := .tuple #[.slice none 0 0, .bool false, .int .i64 C]) (by simp [results, Tryd.results14, go_sem]) rfl ?_
            exact ⟨HB2.out, _, [], by rw [HR.out, ← HC.out], EnAt.nil _ _, by rw [HR.out]; rfl⟩
        · have hin1 : (ids.length : Int) ≤ (i : Int) := by omega
          have HEND : Hid (Sg.read st ids = (ps.map (·.1), wh, 0)) := by
            rw [← HGO.out, List.drop_eq_nil_of_le (by omega)]
            exact Lib.hid rfl
          go_wp2_with fail
          refine bodyPost_ret (v := .tuple #[u11, .bool wh, .int .i64 0]) (by simp [results, Tryd.results14, go_sem]) rfl ?_
          exact ⟨HBQ.out, u11, ps, by rw [HEND.out], HEN.out, by rw [HEND.out]⟩
end Go.Proofs.YtcimobbppmpmgaaDoor
