/-
  Segments: the program's ID, walked; it is the document's. Segments: the program's ID is the document's (no program in sight). Segments: Create and Append, walked. Segments: Read, walked. The file system in calm weather: what its files hold (no program in sight). The file system as names and their bytes, in calm weather (plain).
-/
import Derived.Test.YtcinagglbkbmkaaGreatDoorZc7
import Derived.Test.YtcinagglbkbmkaaGreatDoorZc6
namespace Go.Proofs.YtcinagglbkbmkaaGreatDoor
set_option linter.unusedSimpArgs false
set_option linter.unusedVariables false
open Go Go.RowKit
open Go.Maps Go.WideMaps

theorem segStr : (⟨#[115, 101, 103, 45]⟩ : ByteArray).data.toList = Sg.seg := rfl
set_option maxHeartbeats 1000000 in
set_option maxRecDepth 100000 in
theorem id_any (s : ByteArray) (w : World) (B : Nat) (hE : SgEnv B w) (hB : B ≤ w.heap.size) (hs : s.size ≤ 1000000) :
    Calls Tryz.prog 89 #[.string s] w fun e w' => e = .returned (.tuple #[.int .i64 (Sg.idOf s.data.toList), .bool (decide (0 < Sg.idOf s.data.toList))]) ∧ Below w.heap.size w w' := by
  have HIO : Hid (Sg.idOf s.data.toList = match Lib.atoiAll (Lib.trimPrefix s.data.toList Sg.seg) with
    | .ok v => if Lib.hasPrefix s.data.toList Sg.seg = true ∧ Sg.nameE v = 0 ∧ Sg.nameB v = s.data.toList then v else 0
    | _ => 0) := Lib.hid rfl
  go_enter Tryz.func89, Tryz.ntmps89
  go_wp2_with fail
  refine (Tryz.strings_CutPrefix s ⟨#[115, 101, 103, 45]⟩ w).mono ?_
  rintro e w1 ⟨rfl, hw1⟩
  subst hw1
  rw [segStr]
  obtain ⟨d, hd⟩ : ∃ d : ByteArray, d = ⟨(Lib.trimPrefix s.data.toList Sg.seg).toArray⟩ := ⟨_, rfl⟩
  obtain ⟨ok, hok⟩ : ∃ ok, ok = Lib.hasPrefix s.data.toList Sg.seg := ⟨_, rfl⟩
  have hdl : d.data.toList = Lib.trimPrefix s.data.toList Sg.seg := by rw [hd]
  have hds : d.size ≤ 1000000 := by
    have h1 : (Lib.trimPrefix s.data.toList Sg.seg).length ≤ s.size := by
      unfold Lib.trimPrefix
      split <;> simp
    rw [← hdl] at h1
    have h2 : d.data.toList.length = d.size := by simp
    omega
  rw [← hd, ← hok]
  have HD := Lib.hid hdl
  have HOK := Lib.hid hok
  clear hd hok hdl
  go_wp2_with fail
  cases hat : Lib.atoiAll d.data.toList with
  | ok v =>
    have HAT := Lib.hid hat
    refine (Tryz.strconv_Atoi_ok d (by omega) v hat w1).mono ?_
    rintro e w2 ⟨rfl, hw2⟩
    have hb2 : Below w1.heap.size w1 w2 := by
      rcases hw2 with rfl | ⟨t, rfl⟩
      · exact Below.refl _ _
      · exact Joins.below_bytesWorld w1.heap.size w1 5 t (Nat.le_refl _)
    have HB2 := Lib.hid hb2
    have hE2 := hE.below (hb2.mono hB)
    clear hw2 hb2 hat
    cases ok with
    | false =>
      have HZ : Hid (Sg.idOf s.data.toList = 0) := by
        rw [HIO.out, ← HD.out, HAT.out]
        show Hid ((if _ then _ else _) = _)
        rw [← HOK.out, if_neg (by simp)]
        exact Lib.hid rfl
      go_wp2_with fail
      refine bodyPost_ret (v := .tuple #[.int .i64 0, .bool false]) (by simp [results, Tryz.results89, go_sem]) rfl ?_
      exact ⟨by rw [HZ.out]; rfl, HB2.out⟩
    | true =>
      go_wp2_with fail
      refine (name_any v w2 B hE2).mono ?_
      rintro e w3 ⟨rfl, hb3⟩
      have HB3 := Lib.hid (HB2.out.trans (hb3.mono HB2.out.size))
      obtain ⟨E, hEE⟩ : ∃ E, E = Sg.nameE v := ⟨_, rfl⟩
      obtain ⟨sn, hsn⟩ : ∃ t : ByteArray, t = ⟨(Sg.nameB v).toArray⟩ := ⟨_, rfl⟩
      rw [← hsn, ← hEE]
      have HSN := Lib.hid hsn
      have HEE := Lib.hid hEE
      clear hsn hEE hb3
      by_cases hE0 : E = 0
      · subst hE0
        by_cases heq : sn = s
        · have hv1 : 0 < v := by
            have := HEE.out
            unfold Sg.nameE at this
            split at this <;> omega
          have HZ : Hid (Sg.idOf s.data.toList = v) := by
            rw [HIO.out, ← HD.out, HAT.out]
            show Hid ((if _ then _ else _) = _)
            rw [← HOK.out, if_pos ⟨rfl, HEE.out.symm, by rw [← heq, HSN.out]⟩]
            exact Lib.hid rfl
          have hte : (sn.toList == s.toList) = true := by rw [heq]; simp
          clear heq
          go_wp2_with fail
          refine bodyPost_ret (v := .tuple #[.int .i64 v, .bool true]) (by simp [results, Tryz.results89, go_sem]) rfl ?_
          exact ⟨by rw [HZ.out]; simp [hv1], HB3.out⟩
        · have HZ : Hid (Sg.idOf s.data.toList = 0) := by
            rw [HIO.out, ← HD.out, HAT.out]
            show Hid ((if _ then _ else _) = _)
            rw [if_neg (fun h => heq (by rw [HSN.out, h.2.2]))]
            exact Lib.hid rfl
          have hte : (sn.toList == s.toList) = false := by
            rw [beq_eq_false_iff_ne, ByteArray.toList_eq, ByteArray.toList_eq]
            exact fun h => heq (ByteArray.ext (Array.toList_inj.1 h))
          clear heq
          go_wp2_with fail
          refine bodyPost_ret (v := .tuple #[.int .i64 0, .bool false]) (by simp [results, Tryz.results89, go_sem]) rfl ?_
          exact ⟨by rw [HZ.out]; rfl, HB3.out⟩
      · have HZ : Hid (Sg.idOf s.data.toList = 0) := by
          rw [HIO.out, ← HD.out, HAT.out]
          show Hid ((if _ then _ else _) = _)
          rw [if_neg (fun h => hE0 (by rw [HEE.out, h.2.1]))]
          exact Lib.hid rfl
        have hte : (E != 0) = true := by rw [bne_iff_ne]; exact hE0
        have hte2 : (E == 0) = false := by rw [beq_eq_false_iff_ne]; exact hE0
        clear hE0
        go_wp2_with fail
        refine bodyPost_ret (v := .tuple #[.int .i64 0, .bool false]) (by simp [results, Tryz.results89, go_sem]) rfl ?_
        exact ⟨by rw [HZ.out]; rfl, HB3.out⟩
  | range =>
    obtain ⟨tp, p, hv⟩ := hE.rng
    have HZ : Hid (Sg.idOf s.data.toList = 0) := by rw [HIO.out, ← HD.out, hat]; exact Lib.hid rfl
    refine (Tryz.strconv_Atoi_range_var d (by omega) hat tp p w1 hv).mono ?_
    rintro e w2 ⟨N, rfl, hN, _, hb2⟩
    have HB2 := Lib.hid hb2
    clear hb2 hat hv
    cases ok
    · go_wp2_with fail
      refine bodyPost_ret (v := .tuple #[.int .i64 0, .bool false]) (by simp [results, Tryz.results89, go_sem]) rfl ?_
      exact ⟨by rw [HZ.out]; rfl, HB2.out⟩
    · go_wp2_with fail
      refine bodyPost_ret (v := .tuple #[.int .i64 0, .bool false]) (by simp [results, Tryz.results89, go_sem]) rfl ?_
      exact ⟨by rw [HZ.out]; rfl, HB2.out⟩
  | _ =>
    obtain ⟨tp, p, hv⟩ := hE.syn
    have HZ : Hid (Sg.idOf s.data.toList = 0) := by rw [HIO.out, ← HD.out, hat]; exact Lib.hid rfl
    refine (Tryz.strconv_Atoi_syntax_var d (by omega) hat tp p w1 hv).mono ?_
    rintro e w2 ⟨N, rfl, hN, _, hb2⟩
    have HB2 := Lib.hid hb2
    clear hb2 hat hv
    cases ok
    · go_wp2_with fail
      refine bodyPost_ret (v := .tuple #[.int .i64 0, .bool false]) (by simp [results, Tryz.results89, go_sem]) rfl ?_
      exact ⟨by rw [HZ.out]; rfl, HB2.out⟩
    · go_wp2_with fail
      refine bodyPost_ret (v := .tuple #[.int .i64 0, .bool false]) (by simp [results, Tryz.results89, go_sem]) rfl ?_
      exact ⟨by rw [HZ.out]; rfl, HB2.out⟩
end Go.Proofs.YtcinagglbkbmkaaGreatDoor
namespace Go.Proofs.YtcinagglbkbmkaaGreatDoor
set_option linter.unusedSimpArgs false
set_option linter.unusedVariables false
open Go Go.RowKit

namespace Sg
theorem dig_ok (n : Nat) (h : n < 10) : (UInt8.ofNat (48 + n)).toNat = 48 + n := UInt8.toNat_ofNat_of_lt' (by show _ < 256; omega)
/-- Digits' value. -/
theorem dval_dec (n : Nat) : ∀ (a : Nat), (Lib.decDigits n).foldl (fun n c => n * 10 + (c.toNat - 48)) a = a * 10 ^ (Lib.decDigits n).length + n ∧ (Lib.decDigits n).all isDig = true := by
  induction n using Nat.strongRecOn with
  | _ n ih =>
    intro a
    by_cases h : n < 10
    · rw [Lib.decDigits_one h]
      refine ⟨?_, ?_⟩
      · simp only [List.foldl_cons, List.foldl_nil, List.length_singleton, Nat.pow_one, dig_ok n h]
        omega
      · simp only [List.all_cons, List.all_nil, isDig, dig_ok n h]
        simp
        omega
    · have he : Lib.decDigits n = Lib.decDigits (n / 10) ++ Lib.decDigits (n % 10) := by
        rw [Lib.decDigits, dif_neg h, Lib.decDigits_one (i := n % 10) (by omega)]
      obtain ⟨h1, h2⟩ := ih (n / 10) (by omega) a
      obtain ⟨h3, h4⟩ := ih (n % 10) (by omega) (a * 10 ^ (Lib.decDigits (n / 10)).length + n / 10)
      rw [he, List.foldl_append, h1, h3, List.all_append, h2, h4, List.length_append, Nat.pow_add]
      have hl : (Lib.decDigits (n % 10)).length = 1 := by rw [Lib.decDigits_one (by omega)]; rfl
      rw [hl, Nat.pow_one]
      refine ⟨?_, rfl⟩
      rw [Nat.add_mul, Nat.mul_assoc]
      omega
theorem dec_ne (n : Nat) : Lib.decDigits n ≠ [] := by
  intro h
  have := Lib.decDigits_length n
  have h2 := Lib.nDigits_pos n
  rw [h] at this
  simp at this
  omega
/-- What the library's parse makes of digits. -/
theorem parse_digits : ∀ (l : List UInt8) (a : Nat), l.all isDig = true → l.foldl (fun n c => n * 10 + (c.toNat - 48)) a < 18446744073709551616 →
    Lib.parseUint10 a l = .ok (l.foldl (fun n c => n * 10 + (c.toNat - 48)) a)
  | [], a, _, _ => rfl
  | c :: r, a, hd, hb => by
    simp only [List.all_cons, Bool.and_eq_true] at hd
    have hc := hd.1
    unfold isDig at hc
    simp only [Bool.and_eq_true, decide_eq_true_eq] at hc
    rw [List.foldl_cons] at hb ⊢
    have hge : ∀ (l : List UInt8) (b : Nat), b ≤ l.foldl (fun n c => n * 10 + (c.toNat - 48)) b := by
      intro l
      induction l with
      | nil => intro b; exact Nat.le_refl _
      | cons x l ih => intro b; rw [List.foldl_cons]; have := ih (b * 10 + (x.toNat - 48)); omega
    have h1 := hge r (a * 10 + (c.toNat - 48))
    unfold Lib.parseUint10
    rw [if_pos hc, if_neg (by omega), if_neg (by omega)]
    exact parse_digits r _ hd.2 hb
theorem atoi_dec (n : Nat) (h : n < 9223372036854775808) : Lib.atoiAll (Lib.decDigits n) = .ok (n : Int) := by
  obtain ⟨h1, h2⟩ := dval_dec n 0
  rw [Nat.zero_mul, Nat.zero_add] at h1
  have hp := parse_digits (Lib.decDigits n) 0 h2 (by rw [h1]; omega)
  rw [h1] at hp
  have hne := dec_ne n
  cases hl : Lib.decDigits n with
  | nil => exact absurd hl hne
  | cons c r =>
    have hc : isDig c = true := by
      rw [hl] at h2
      simp only [List.all_cons, Bool.and_eq_true] at h2
      exact h2.1
    unfold isDig at hc
    simp only [Bool.and_eq_true, decide_eq_true_eq] at hc
    unfold Lib.atoiAll
    rw [hl] at hp
    simp only
    rw [if_neg (by omega)]
    unfold Lib.parseMag
    rw [if_neg (by simp), hp]
    have hc45 : ¬ c.toNat = 45 := by omega
    simp only [hc45, not_false_eq_true, true_and, false_and, if_false]
    rw [if_neg (by omega)]
theorem name_of {id : Int} (h : nameE id = 0) : 1 ≤ id ∧ id ≤ 2147483647 ∧ nameB id = seg ++ Lib.decDigits id.toNat := by
  unfold nameE at h
  have hid : ¬ (id < 1 ∨ 2147483647 < id) := by
    intro hc
    rw [if_pos hc] at h
    cases h
  refine ⟨by omega, by omega, ?_⟩
  unfold nameB
  rw [if_neg hid]
  have : Lib.itoa id = Lib.decDigits id.toNat := by
    have := Lib.itoa_nonneg id.toNat
    rwa [show ((id.toNat : Nat) : Int) = id by omega] at this
  rw [this]
  rfl
theorem trim_seg (r : List UInt8) : Lib.trimPrefix (seg ++ r) seg = r ∧ Lib.hasPrefix (seg ++ r) seg = true := by
  have h : Lib.hasPrefix (seg ++ r) seg = true := by
    unfold Lib.hasPrefix
    rw [List.isPrefixOf_iff_prefix]
    exact List.prefix_append _ _
  refine ⟨?_, h⟩
  unfold Lib.trimPrefix
  rw [if_pos h]
  rfl
/-- A name's id is told by both. -/
theorem id_name {id : Int} (h : nameE id = 0) : idOf (nameB id) = id ∧ refId (nameB id) = id := by
  obtain ⟨h1, h2, h3⟩ := name_of h
  obtain ⟨n, rfl⟩ : ∃ n : Nat, id = n := ⟨id.toNat, by omega⟩
  rw [Int.toNat_natCast] at h3
  obtain ⟨t1, t2⟩ := trim_seg (Lib.decDigits n)
  obtain ⟨d1, d2⟩ := dval_dec n 0
  rw [Nat.zero_mul, Nat.zero_add] at d1
  have hlen : (Lib.decDigits n).length ≤ 10 := by
    rw [Lib.decDigits_length]
    have hn : n ≤ 2147483647 := by omega
    rcases Nat.lt_or_ge 10 (Lib.nDigits n) with hgt | hle
    · exfalso
      have : ∀ k u, Lib.nDigits u = k + 1 → 1 ≤ u → 10 ^ k ≤ u := by
        intro k
        induction k with
        | zero => intro u _ hu; simpa using hu
        | succ k ih =>
          intro u hu h1u
          by_cases hs : u < 10
          · rw [Lib.nDigits_small hs] at hu; omega
          · rw [Lib.nDigits_big hs] at hu
            have := ih (u / 10) (by omega) (by omega)
            rw [Nat.pow_succ]
            omega
      have h4 := this (Lib.nDigits n - 1) n (by omega) (by omega)
      have h5 : 10 ^ 10 ≤ 10 ^ (Lib.nDigits n - 1) := Nat.pow_le_pow_right (by omega) (by omega)
      omega
    · exact hle
  have hlen1 : 1 ≤ (Lib.decDigits n).length := by
    have := dec_ne n
    cases hx : Lib.decDigits n with
    | nil => exact absurd hx this
    | cons c r => simp
  have hdrop : (seg ++ Lib.decDigits n).drop 4 = Lib.decDigits n := rfl
  have htake : (seg ++ Lib.decDigits n).take 4 = seg := rfl
  have hl4 : (seg ++ Lib.decDigits n).length = 4 + (Lib.decDigits n).length := by rw [List.length_append]; rfl
  constructor
  · unfold idOf
    rw [h3, t1, atoi_dec n (by omega)]
    show (if _ then _ else _) = _
    rw [if_pos ⟨t2, h, h3⟩]
  · unfold refId
    have hdv : dval ((nameB (n : Int)).drop 4) = n := by rw [h3, hdrop]; exact d1
    rw [hdv]
    rw [if_neg (by rw [h3, hl4, htake]; simp; omega), if_neg (by rw [h3, hdrop, d2]; simp), if_neg (by rw [h]; simp)]
end Sg
end Go.Proofs.YtcinagglbkbmkaaGreatDoor
namespace Go.Proofs.YtcinagglbkbmkaaGreatDoor
set_option linter.unusedSimpArgs false
set_option linter.unusedVariables false
open Go Go.RowKit
open Go.Maps Go.WideMaps

theorem OpPost.refl {base B : Nat} {st : Fs.St} {V : FsV} {own : Nat → Tag} {w : World} (h : FsOK base B st V own w) : OpPost base B st own w w := ⟨V, own, h, fun _ _ => rfl, Kept.refl _ _ _⟩
theorem OpPost.of {base B : Nat} {st : Fs.St} {V : FsV} {own : Nat → Tag} {w w' : World} (h : FsOK base B st V own w) (hb : Below w.heap.size w w') : OpPost base B st own w w' := ⟨V, own, h.kept (kept_below hb), fun _ _ => rfl, kept_below hb⟩
theorem OpPost.step {base B : Nat} {st' : Fs.St} {own own' : Nat → Tag} {w w1 w2 : World} (hk1 : Kept own (· ≠ .other) w w1) (ho1 : ∀ k, k < w.heap.size → own' k = own k) (h2 : OpPost base B st' own' w1 w2) : OpPost base B st' own w w2 := by
  obtain ⟨V2, own2, h, ho2, hk2⟩ := h2
  refine ⟨V2, own2, h, fun k hk => (ho2 k (Nat.lt_of_lt_of_le hk hk1.size)).trans (ho1 k hk), hk2.os.trans hk1.os, hk2.tape.trans hk1.tape, hk2.output.trans hk1.output, Nat.le_trans hk1.size hk2.size, fun k hk ht => ?_⟩
  rw [hk2.block k (Nat.lt_of_lt_of_le hk hk1.size) (by rw [ho1 k hk]; exact ht)]
  exact hk1.block k hk ht
theorem OpPost.below0 {base B : Nat} {st st' : Fs.St} {V : FsV} {own : Nat → Tag} {w w' : World} (h : FsOK base B st V own w) (hp : OpPost base B st' own w w') (hbase : base ≤ w.heap.size) : Below base w w' := by
  obtain ⟨_, _, _, _, hk⟩ := hp
  exact ⟨hk.os, hk.tape, hk.output, hk.size, fun k hk2 => hk.block k (Nat.lt_of_lt_of_le hk2 hbase) (by rw [h.old k hk2]; simp)⟩

namespace Sg
def create (st : Fs.St) (id : Int) : Fs.St × Int :=
  if nameE id ≠ 0 then (st, nameE id) else if (Fs.create st (nameB id)).2 ≠ 0 then Fs.create st (nameB id) else Fs.syncDir (Fs.create st (nameB id)).1
def append (st : Fs.St) (id k : Int) (p : List UInt8) : Fs.St × Int :=
  if nameE id ≠ 0 then (st, nameE id) else if Fr.encE k p ≠ 0 then (st, Fr.encE k p)
  else if (Fs.append st (nameB id) (Fr.bytes k p)).2 ≠ 0 then Fs.append st (nameB id) (Fr.bytes k p) else Fs.sync (Fs.append st (nameB id) (Fr.bytes k p)).1 (nameB id)
end Sg
/-- Sizes within reach. -/
structure Fs.Small (st : Fs.St) : Prop where
  files : st.files.length ≤ 800000
  dir : st.dir.length ≤ 800000
  changes : st.changes.length ≤ 800000
  file : ∀ f ∈ st.files, f.1.length ≤ 65536
  room : 0 ≤ st.room ∧ st.room ≤ 1048576

end Go.Proofs.YtcinagglbkbmkaaGreatDoor
namespace Go.Proofs.YtcinagglbkbmkaaGreatDoor
set_option linter.unusedSimpArgs false
set_option linter.unusedVariables false
open Go Go.RowKit
open Go.Maps Go.WideMaps

namespace Sg
abbrev En := Int × Fr.F
def badE : List Int → Int
  | [] => 0
  | id :: r => if nameE id ≠ 0 then nameE id else badE r
theorem badE_cons (id : Int) (r : List Int) : badE (id :: r) = if nameE id ≠ 0 then nameE id else badE r := rfl
def readGo (st : Fs.St) : List Int → List En → Bool → List En × Bool × Int
  | [], out, wh => (out, wh, 0)
  | id :: r, out, wh =>
    if Fs.openE st (nameB id) ≠ 0 then ([], false, Fs.openE st (nameB id))
    else readGo st r (out ++ (Fr.scan (Fs.fileAt st (nameB id))).1.map (fun f => (id, f))) (decide ((Fr.scan (Fs.fileAt st (nameB id))).2 = (Fs.fileAt st (nameB id)).length))
def read (st : Fs.St) (ids : List Int) : List En × Bool × Int := if badE ids ≠ 0 then ([], false, badE ids) else readGo st ids [] true
theorem readGo_cons (st : Fs.St) (id : Int) (r : List Int) (out : List En) (wh : Bool) : readGo st (id :: r) out wh =
    if Fs.openE st (nameB id) ≠ 0 then ([], false, Fs.openE st (nameB id))
    else readGo st r (out ++ (Fr.scan (Fs.fileAt st (nameB id))).1.map (fun f => (id, f))) (decide ((Fr.scan (Fs.fileAt st (nameB id))).2 = (Fs.fileAt st (nameB id)).length)) := rfl
end Sg
theorem frCells_get : ∀ (ps : List (Fr.F × Value)) (i : Nat) (p : Fr.F × Value), ps[i]? = some p → (frCells ps)[i * 2]? = some (.int .i64 p.1.1) ∧ (frCells ps)[i * 2 + 1]? = some p.2
  | [], i, p, h => by simp at h
  | q :: ps, 0, p, h => by
    simp at h; subst h
    exact ⟨rfl, rfl⟩
  | q :: ps, i + 1, p, h => by
    have := frCells_get ps i p (by simpa using h)
    rw [show (i + 1) * 2 = i * 2 + 1 + 1 by omega]
    exact this
theorem FrAt.at {w : World} {base g n cap : Nat} {ps : List (Fr.F × Value)} (h : FrAt w base (.slice (some ⟨g, 0, none⟩) n cap) ps) {i : Nat} {p : Fr.F × Value} (hi : ps[i]? = some p) :
    w.cell? ⟨g, i * 2, none⟩ = some (.int .i64 p.1.1) ∧ w.cell? ⟨g, i * 2 + 1, none⟩ = some p.2 := by
  obtain ⟨h1, h2⟩ := frCells_get ps i p hi
  have c1 := World.ownsRow.cells h.row (g := g) rfl _ _ h1
  have c2 := World.ownsRow.cells h.row (g := g) rfl _ _ h2
  rw [addr_add] at c1 c2
  exact ⟨c1, c2⟩
/-- A slice of ints. -/
def Ints (w : World) (v : Value) (l : List Int) : Prop :=
  ∃ a cap, v = .slice a l.length cap ∧ ∀ (i : Nat) x, l[i]? = some x → ∃ b off, a = some ⟨b, off, none⟩ ∧ b < w.heap.size ∧ w.cell? ⟨b, off + i, none⟩ = some (.int .i64 x)
theorem Ints.form {w : World} {v : Value} {l : List Int} (h : Ints w v l) : ∃ a cap, v = .slice a l.length cap := by
  obtain ⟨a, cap, h1, _⟩ := h
  exact ⟨a, cap, h1⟩
theorem Ints.at {w : World} {a : Option Addr} {n cap : Nat} {l : List Int} (h : Ints w (.slice a n cap) l) {i : Nat} {x : Int} (hi : l[i]? = some x) :
    ∃ b off, a = some ⟨b, off, none⟩ ∧ b < w.heap.size ∧ w.cell? ⟨b, off + i, none⟩ = some (.int .i64 x) := by
  obtain ⟨a', cap', h1, h2⟩ := h
  obtain ⟨b, off, e, h3, h4⟩ := h2 i x hi
  simp only [Value.slice.injEq] at h1
  exact ⟨b, off, by rw [h1.1, e], h3, h4⟩
theorem Ints.below {w w' : World} {v : Value} {l : List Int} (h : Ints w v l) (hb : Below w.heap.size w w') : Ints w' v l := by
  obtain ⟨a, cap, h1, h3⟩ := h
  refine ⟨a, cap, h1, fun i x hi => ?_⟩
  obtain ⟨b, off, e, h4, h5⟩ := h3 i x hi
  exact ⟨b, off, e, Nat.lt_of_lt_of_le h4 hb.size, by rw [World.cell?_of_block (hb.block b h4)]; exact h5⟩

def enCells (ps : List (Sg.En × Value)) : List Value := ps.flatMap fun p => [.int .i64 p.1.1, .int .i64 p.1.2.1, p.2]
/-- Entries in memory of the call's own. -/
structure EnAt (w : World) (base : Nat) (v : Value) (ps : List (Sg.En × Value)) : Prop where
  row : w.ownsRow base 209 3 v ps.length (enCells ps)
  pay : ∀ p ∈ ps, OwnB w base p.2 p.1.2.2
  apart : ∀ p ∈ ps, ∀ g, p.2.ownBlock = some g → v.ownBlock ≠ some g
theorem EnAt.keep {w w' : World} {base : Nat} {v : Value} {ps : List (Sg.En × Value)} (h : EnAt w base v ps) (hb : Below w.heap.size w w') : EnAt w' base v ps :=
  ⟨row_kept h.row (fun g hg => hb.block g (h.row.lt g hg).2), fun p hp => (h.pay p hp).keep hb, h.apart⟩
theorem EnAt.nil (w : World) (base : Nat) : EnAt w base (.slice none 0 0) [] := ⟨World.ownsRow_nil _ _ _ _, fun p h => by simp at h, fun p h => by simp at h⟩
/-- One entry more. -/
theorem EnAt.more {w w5 : World} {base : Nat} {v v' x : Value} {ps : List (Sg.En × Value)} {f : Sg.En} (h : EnAt w base v ps) (hx : OwnB w base x f.2.2) (hne : ∀ g, x.ownBlock = some g → v.ownBlock ≠ some g)
    (hrow : w5.ownsRow base 209 3 v' (ps.length + 1) (enCells ps ++ [.int .i64 f.1, .int .i64 f.2.1, x])) (hg : w.grownBy w5 v.ownBlock) (hloc : v'.ownBlock = v.ownBlock ∨ v'.ownBlock = some w.heap.size) :
    EnAt w5 base v' (ps ++ [(f, x)]) := by
  have hk : ∀ (y : Value) (l : List UInt8), OwnB w base y l → (∀ g, y.ownBlock = some g → v.ownBlock ≠ some g) → OwnB w5 base y l ∧ (∀ g, y.ownBlock = some g → v'.ownBlock ≠ some g) := fun y l hy hn =>
    ⟨row_kept hy (fun g hg2 => hg.block g (hy.lt g hg2).2 (fun e => hn g hg2 e.symm)), fun g hg2 => by
      rcases hloc with e | e
      · rw [e]; exact hn g hg2
      · rw [e]
        intro e2
        have := (hy.lt g hg2).2
        simp at e2
        omega⟩
  refine ⟨?_, fun p hp => ?_, fun p hp => ?_⟩
  · rw [List.length_append]
    unfold enCells at hrow ⊢
    rw [List.flatMap_append]
    exact hrow
  · rcases List.mem_append.1 hp with hp | hp
    · exact (hk p.2 p.1.2.2 (h.pay p hp) (h.apart p hp)).1
    · simp at hp; subst hp; exact (hk x f.2.2 hx hne).1
  · rcases List.mem_append.1 hp with hp | hp
    · exact (hk p.2 p.1.2.2 (h.pay p hp) (h.apart p hp)).2
    · simp at hp; subst hp; exact (hk x f.2.2 hx hne).2
end Go.Proofs.YtcinagglbkbmkaaGreatDoor
namespace Go.Proofs.YtcinagglbkbmkaaGreatDoor
set_option linter.unusedSimpArgs false
set_option linter.unusedVariables false
open Go Go.RowKit

namespace Fs
/-- No power goes; no step is planned to fail. -/
def Calm (st : St) : Prop := st.left = -1 ∧ st.plan = []
theorem step_calm {st : St} (h : Calm st) : step st = ({ st with steps := wrap64 (st.steps + 1) }, 0, 0) := by
  obtain ⟨h1, h2⟩ := h
  unfold step
  rw [if_neg (by omega), h2, if_neg (by omega)]
  cases st
  simp only at h1 h2
  subst h1 h2
  rfl
theorem mem_mins (x : List UInt8 × Int) : ∀ l : Names, (mins x l).Perm (x :: l)
  | [] => List.Perm.refl _
  | y :: r => by
    unfold mins
    split
    · exact List.Perm.refl _
    · exact ((mem_mins x r).cons y).trans (List.Perm.swap x y r)
theorem mdel_none {l : Names} {k : List UInt8} (h : mhas l k = false) : mdel l k = l := by
  unfold mdel
  rw [List.filter_eq_self]
  intro p hp
  unfold mhas at h
  rw [List.any_eq_false] at h
  have := h p hp
  simpa using this
theorem mput_new {l : Names} {k : List UInt8} (h : mhas l k = false) (v : Int) : (mput l k v).Perm ((k, v) :: l) := by
  unfold mput
  rw [mdel_none h]
  exact mem_mins _ _
theorem mhas_perm {l l' : Names} (h : l.Perm l') (k : List UInt8) : mhas l k = mhas l' k := by
  unfold mhas
  rw [Bool.eq_iff_iff, List.any_eq_true, List.any_eq_true]
  constructor
  · rintro ⟨p, h1, h2⟩; exact ⟨p, h.mem_iff.1 h1, h2⟩
  · rintro ⟨p, h1, h2⟩; exact ⟨p, h.mem_iff.2 h1, h2⟩
/-- Keys that differ: what is found is what was put. -/
theorem mget_of {l : Names} (hnd : ∀ p ∈ l, ∀ q ∈ l, p.1 = q.1 → p.2 = q.2) {k : List UInt8} {v : Int} (h : (k, v) ∈ l) : mget l k = v := by
  obtain ⟨p, hp, h1, h2⟩ := mget_mem (l := l) (k := k) (by unfold mhas; rw [List.any_eq_true]; exact ⟨(k, v), h, by simp⟩)
  rw [← h2]
  exact hnd p hp (k, v) h h1

abbrev Segs := List (List UInt8 × List UInt8)
def dirGo : Nat → Segs → Names
  | _, [] => []
  | i, s :: r => (s.1, (i : Int)) :: dirGo (i + 1) r
theorem dirGo_app : ∀ (l r : Segs) (i : Nat), dirGo i (l ++ r) = dirGo i l ++ dirGo (i + l.length) r
  | [], r, i => rfl
  | s :: l, r, i => by
    rw [List.cons_append, dirGo, dirGo, dirGo_app l r (i + 1), List.cons_append, List.length_cons, Nat.add_right_comm, Nat.add_assoc]
theorem dirGo_mem : ∀ (l : Segs) (i j : Nat) (s : List UInt8 × List UInt8), l[j]? = some s → (s.1, ((i + j : Nat) : Int)) ∈ dirGo i l
  | [], i, j, s, h => by simp at h
  | x :: l, i, 0, s, h => by
    simp at h; subst h
    exact List.mem_cons_self
  | x :: l, i, j + 1, s, h => by
    have := dirGo_mem l (i + 1) j s (by simpa using h)
    rw [show i + (j + 1) = i + 1 + j by omega]
    exact List.mem_cons_of_mem _ this
theorem dirGo_inv : ∀ (l : Segs) (i : Nat) (p : List UInt8 × Int), p ∈ dirGo i l → ∃ j s, l[j]? = some s ∧ p = (s.1, ((i + j : Nat) : Int))
  | [], i, p, h => by simp [dirGo] at h
  | x :: l, i, p, h => by
    rw [dirGo] at h
    rcases List.mem_cons.1 h with h | h
    · exact ⟨0, x, rfl, h⟩
    · obtain ⟨j, s, h1, h2⟩ := dirGo_inv l (i + 1) p h
      exact ⟨j + 1, s, by simpa using h1, by rw [h2, show i + (j + 1) = i + 1 + j by omega]⟩
theorem dirGo_len : ∀ (l : Segs) (i : Nat), (dirGo i l).length = l.length
  | [], _ => rfl
  | s :: l, i => by rw [dirGo, List.length_cons, dirGo_len l, List.length_cons]
theorem dirGo_names : ∀ (l l' : Segs) (i : Nat), l.map (·.1) = l'.map (·.1) → dirGo i l = dirGo i l'
  | [], [], _, _ => rfl
  | [], x :: l, _, h => by simp at h
  | x :: l, [], _, h => by simp at h
  | x :: l, y :: l', i, h => by
    simp only [List.map_cons, List.cons.injEq] at h
    rw [dirGo, dirGo, h.1, dirGo_names l l' (i + 1) h.2]

/-- What the files hold, by their names, in the order in which they were made. -/
structure Rep (st : St) (segs : Segs) : Prop where
  calm : Calm st
  files : st.files.map (·.1) = segs.map (·.2)
  dir : st.dir.Perm (dirGo 0 segs)
  names : ∀ (i j : Nat) s t, segs[i]? = some s → segs[j]? = some t → s.1 = t.1 → i = j

section
variable {st : St} {segs : Segs}
theorem Rep.len (h : Rep st segs) : st.files.length = segs.length := by
  have := congrArg List.length h.files
  simpa using this
theorem Rep.dlen (h : Rep st segs) : st.dir.length = segs.length := by rw [h.dir.length_eq, dirGo_len]
theorem Rep.keys (h : Rep st segs) : ∀ p ∈ st.dir, ∀ q ∈ st.dir, p.1 = q.1 → p.2 = q.2 := by
  intro p hp q hq e
  obtain ⟨i, s, h1, rfl⟩ := dirGo_inv segs 0 p (h.dir.mem_iff.1 hp)
  obtain ⟨j, t, h2, rfl⟩ := dirGo_inv segs 0 q (h.dir.mem_iff.1 hq)
  have := h.names i j s t h1 h2 e
  subst this
  rfl
theorem Rep.has (h : Rep st segs) (n : List UInt8) : mhas st.dir n = segs.any (fun s => s.1 == n) := by
  rw [mhas_perm h.dir]
  unfold mhas
  rw [Bool.eq_iff_iff, List.any_eq_true, List.any_eq_true]
  constructor
  · rintro ⟨p, h1, h2⟩
    obtain ⟨j, s, h3, rfl⟩ := dirGo_inv segs 0 p h1
    exact ⟨s, List.mem_of_getElem? h3, h2⟩
  · rintro ⟨s, h1, h2⟩
    obtain ⟨j, h3⟩ := List.getElem?_of_mem h1
    exact ⟨_, dirGo_mem segs 0 j s h3, h2⟩
theorem Rep.get (h : Rep st segs) {i : Nat} {s : List UInt8 × List UInt8} (hi : segs[i]? = some s) : mget st.dir s.1 = i := by
  have := dirGo_mem segs 0 i s hi
  rw [Nat.zero_add] at this
  exact mget_of h.keys (h.dir.mem_iff.2 this)
theorem Rep.file (h : Rep st segs) {i : Nat} {s : List UInt8 × List UInt8} (hi : segs[i]? = some s) : ∃ f, st.files[i]? = some f ∧ f.1 = s.2 := by
  have h1 := congrArg (fun l => l[i]?) h.files
  simp only [List.getElem?_map, hi, Option.map_some] at h1
  cases hf : st.files[i]? with
  | none => rw [hf] at h1; cases h1
  | some f => rw [hf] at h1; exact ⟨f, rfl, by simpa using h1⟩
theorem Rep.at (h : Rep st segs) {i : Nat} {s : List UInt8 × List UInt8} (hi : segs[i]? = some s) : idx st s.1 = i ∧ fileAt st s.1 = s.2 ∧ (good s.1 = true → openE st s.1 = 0) := by
  have h1 : idx st s.1 = i := by unfold idx; rw [h.get hi]; rfl
  obtain ⟨f, h2, h3⟩ := h.file hi
  refine ⟨h1, ?_, fun hg => ?_⟩
  · unfold fileAt
    rw [h1, h2]
    exact h3
  · unfold openE
    rw [if_neg (by rw [hg]; simp), h.has, if_neg]
    rw [Bool.not_eq_false, List.any_eq_true]
    exact ⟨s, List.mem_of_getElem? hi, by simp⟩
theorem Rep.used (h : Rep st segs) : used st = (segs.map (·.2.length)).sum := by
  have hp : (st.dir.map fun p => lenAt st p.2).Perm ((dirGo 0 segs).map fun p => lenAt st p.2) := h.dir.map _
  have hs : (st.dir.map fun p => lenAt st p.2).sum = ((dirGo 0 segs).map fun p => lenAt st p.2).sum := hp.sum_nat
  show (st.dir.map fun p => lenAt st p.2).sum = _
  rw [hs]
  have : ∀ (r : Segs) (i : Nat), (∀ j s, r[j]? = some s → segs[i + j]? = some s) → ((dirGo i r).map fun p => lenAt st p.2) = r.map (·.2.length) := by
    intro r
    induction r with
    | nil => intro i _; rfl
    | cons x r ih =>
      intro i hr
      rw [dirGo, List.map_cons, List.map_cons, ih (i + 1) (fun j s hj => by
        have := hr (j + 1) s (by simpa using hj)
        rwa [show i + 1 + j = i + (j + 1) by omega])]
      obtain ⟨f, h1, h2⟩ := h.file (hr 0 x rfl)
      rw [Nat.add_zero] at h1
      congr 1
      show lenAt st (i : Int) = _
      unfold lenAt
      rw [Int.toNat_natCast, h1]
      show f.1.length = _
      rw [h2]
  rw [this segs 0 (fun j s hj => by rw [Nat.zero_add]; exact hj)]

theorem Rep.new (room : Int) : Rep (new room) [] := ⟨⟨rfl, rfl⟩, rfl, List.Perm.refl _, fun i j s t h => by simp at h⟩
/-- A new file. -/
theorem Rep.create (h : Rep st segs) {n : List UInt8} (hg : good n = true) (hn : ∀ s ∈ segs, s.1 ≠ n) (hl : segs.length < 64) :
    (create st n).2 = 0 ∧ Rep (create st n).1 (segs ++ [(n, [])]) ∧ (create st n).1.room = st.room ∧ (create st n).1.changes.length = st.changes.length + 1 := by
  have hhas : mhas st.dir n = false := by
    rw [h.has, List.any_eq_false]
    intro s hs
    simpa using hn s hs
  have he : Fs.create st n = ({ (step st).1 with files := st.files ++ [([], 0)], dir := mput st.dir n st.files.length, changes := st.changes ++ [[(n, (st.files.length : Int))]] }, 0) := by
    unfold Fs.create
    rw [if_neg (by rw [hg]; simp), if_neg (by rw [hhas]; simp), if_neg (by rw [h.dlen]; omega), if_neg (by rw [step_calm h.calm]; simp)]
  rw [he, step_calm h.calm]
  refine ⟨rfl, ⟨⟨h.calm.1, h.calm.2⟩, ?_, ?_, ?_⟩, rfl, by simp⟩
  · show (st.files ++ [(([] : List UInt8), (0 : Nat))]).map (fun f => f.1) = _
    rw [List.map_append, h.files, List.map_append]
    rfl
  · show (mput st.dir n st.files.length).Perm _
    refine (mput_new hhas _).trans ?_
    rw [dirGo_app, Nat.zero_add, h.len]
    refine (h.dir.cons _).trans ?_
    exact (List.perm_append_singleton _ _).symm
  · intro i j s t hi hj e
    rcases Nat.lt_or_ge i segs.length with hi2 | hi2
    · rw [List.getElem?_append_left hi2] at hi
      rcases Nat.lt_or_ge j segs.length with hj2 | hj2
      · rw [List.getElem?_append_left hj2] at hj
        exact h.names i j s t hi hj e
      · rw [List.getElem?_append_right hj2] at hj
        have : t = (n, []) := by
          have := (List.getElem?_eq_some_iff.1 hj).1
          have h0 : j - segs.length = 0 := by simpa using this
          rw [h0] at hj
          simpa using hj.symm
        subst this
        exact absurd e (hn s (List.mem_of_getElem? hi))
    · rw [List.getElem?_append_right hi2] at hi
      have h0 : i - segs.length = 0 := by have := (List.getElem?_eq_some_iff.1 hi).1; simpa using this
      have hs : s = (n, []) := by rw [h0] at hi; simpa using hi.symm
      subst hs
      rcases Nat.lt_or_ge j segs.length with hj2 | hj2
      · rw [List.getElem?_append_left hj2] at hj
        exact absurd e.symm (hn t (List.mem_of_getElem? hj))
      · rw [List.getElem?_append_right hj2] at hj
        have h1 : j - segs.length = 0 := by have := (List.getElem?_eq_some_iff.1 hj).1; simpa using this
        omega
/-- A file grows. -/
theorem Rep.append (h : Rep st segs) {i : Nat} {s : List UInt8 × List UInt8} (hi : segs[i]? = some s) (hg : good s.1 = true) (b : List UInt8) (hb : s.2.length + b.length ≤ 65536)
    (hr : (((segs.map (·.2.length)).sum : Nat) : Int) + b.length ≤ st.room) :
    (append st s.1 b).2 = 0 ∧ Rep (append st s.1 b).1 (segs.set i (s.1, s.2 ++ b)) ∧ (append st s.1 b).1.room = st.room ∧ (append st s.1 b).1.changes = st.changes := by
  obtain ⟨h1, h2, h3⟩ := h.at hi
  obtain ⟨f, hf1, hf2⟩ := h.file hi
  have he : Fs.append st s.1 b = ({ (step st).1 with files := grow st.files (idx st s.1) b }, 0) := by
    unfold Fs.append
    rw [if_neg (by rw [h3 hg]; simp), h2, if_neg (by omega), step_calm h.calm, if_neg (by simp), h.used, if_neg (by omega)]
  have hgr : grow st.files (idx st s.1) b = st.files.set i (f.1 ++ b, f.2) := by
    unfold grow
    rw [h1, hf1]
  rw [he, step_calm h.calm, hgr]
  refine ⟨rfl, ⟨⟨h.calm.1, h.calm.2⟩, ?_, ?_, ?_⟩, rfl, rfl⟩
  · show (st.files.set i (f.1 ++ b, f.2)).map (·.1) = _
    rw [List.map_set, List.map_set, h.files, hf2]
  · show st.dir.Perm _
    rw [dirGo_names (segs.set i (s.1, s.2 ++ b)) segs 0 (by
      rw [List.map_set]
      have hlt := (List.getElem?_eq_some_iff.1 hi).1
      have : (segs.map (·.1))[i]? = some s.1 := by rw [List.getElem?_map, hi]; rfl
      obtain ⟨h5, h6⟩ := List.getElem?_eq_some_iff.1 this
      rw [← h6]
      exact List.set_getElem_self h5)]
    exact h.dir
  · have key : ∀ (k : Nat) t, (segs.set i (s.1, s.2 ++ b))[k]? = some t → ∃ t', segs[k]? = some t' ∧ t'.1 = t.1 := by
      intro k t hk
      by_cases hik : i = k
      · subst hik
        rw [List.getElem?_set_self (List.getElem?_eq_some_iff.1 hi).1] at hk
        simp at hk; subst hk
        exact ⟨s, hi, rfl⟩
      · rw [List.getElem?_set_ne hik] at hk
        exact ⟨t, hk, rfl⟩
    intro a c x y ha hc e
    obtain ⟨x', hx1, hx2⟩ := key a x ha
    obtain ⟨y', hy1, hy2⟩ := key c y hc
    exact h.names a c x' y' hx1 hy1 (by rw [hx2, hy2, e])
theorem Rep.sync (h : Rep st segs) {i : Nat} {s : List UInt8 × List UInt8} (hi : segs[i]? = some s) (hg : good s.1 = true) :
    (sync st s.1).2 = 0 ∧ Rep (sync st s.1).1 segs ∧ (sync st s.1).1.room = st.room ∧ (sync st s.1).1.changes = st.changes := by
  obtain ⟨h1, h2, h3⟩ := h.at hi
  have he : Fs.sync st s.1 = ({ (step st).1 with files := flush st.files (idx st s.1) }, 0) := by
    unfold Fs.sync
    rw [if_neg (by rw [h3 hg]; simp), step_calm h.calm, if_neg (by simp)]
  rw [he, step_calm h.calm]
  refine ⟨rfl, ⟨⟨h.calm.1, h.calm.2⟩, ?_, h.dir, h.names⟩, rfl, rfl⟩
  show (flush st.files (idx st s.1)).map (·.1) = _
  rw [← h.files]
  unfold flush
  obtain ⟨f, hf1, hf2⟩ := h.file hi
  rw [h1, hf1]
  show (st.files.set i (f.1, f.1.length)).map (·.1) = _
  rw [List.map_set]
  have : (st.files.map (·.1))[i]? = some f.1 := by rw [List.getElem?_map, hf1]; rfl
  obtain ⟨h5, h6⟩ := List.getElem?_eq_some_iff.1 this
  rw [← h6]
  exact List.set_getElem_self h5
theorem Rep.syncDir (h : Rep st segs) : (syncDir st).2 = 0 ∧ Rep (syncDir st).1 segs ∧ (syncDir st).1.room = st.room ∧ (syncDir st).1.changes = [] := by
  have he : Fs.syncDir st = ({ (step st).1 with sure := st.dir, changes := [] }, 0) := by
    unfold Fs.syncDir
    rw [step_calm h.calm, if_neg (by simp)]
  rw [he, step_calm h.calm]
  exact ⟨rfl, ⟨⟨h.calm.1, h.calm.2⟩, h.files, h.dir, h.names⟩, rfl, rfl⟩
theorem Rep.how (h : Rep st segs) : (step st).2.1 ≤ 9223372036854775807 := by rw [step_calm h.calm]; show (0 : Int) ≤ 9223372036854775807; omega
end
end Fs
end Go.Proofs.YtcinagglbkbmkaaGreatDoor
namespace Go.Proofs.YtcinagglbkbmkaaGreatDoor
set_option linter.unusedSimpArgs false
set_option linter.unusedVariables false
open Go Go.RowKit
namespace Fs
theorem find_mins (x : List UInt8 × Int) (n : List UInt8) : ∀ l : Names, mhas l x.1 = false → (mins x l).find? (fun p => p.1 == n) = if x.1 = n then some x else l.find? (fun p => p.1 == n)
  | [], _ => by
    unfold mins
    by_cases h : x.1 = n
    · rw [if_pos h, List.find?_cons_of_pos (by simpa using h)]
    · rw [if_neg h, List.find?_cons_of_neg (by simpa using h)]
  | y :: r, hh => by
    have hh2 : mhas r x.1 = false := by unfold mhas at hh ⊢; rw [List.any_cons, Bool.or_eq_false_iff] at hh; exact hh.2
    have hy : y.1 ≠ x.1 := by unfold mhas at hh; rw [List.any_cons, Bool.or_eq_false_iff] at hh; simpa using hh.1
    unfold mins
    split
    · by_cases h : x.1 = n
      · rw [if_pos h, List.find?_cons_of_pos (by simpa using h)]
      · rw [if_neg h, List.find?_cons_of_neg (by simpa using h)]
    · by_cases h : y.1 = n
      · rw [List.find?_cons_of_pos (by simpa using h), if_neg (fun e => hy (by rw [h, e])), List.find?_cons_of_pos (by simpa using h)]
      · rw [List.find?_cons_of_neg (by simpa using h), find_mins x n r hh2, List.find?_cons_of_neg (by simpa using h)]
theorem mhas_find (l : Names) (n : List UInt8) : mhas l n = (l.find? (fun p => p.1 == n)).isSome := by
  unfold mhas
  rw [Bool.eq_iff_iff, List.any_eq_true]
  constructor
  · rintro ⟨p, h1, h2⟩; rw [List.find?_isSome]; exact ⟨p, h1, h2⟩
  · intro h; rw [List.find?_isSome] at h; obtain ⟨p, h1, h2⟩ := h; exact ⟨p, h1, h2⟩
theorem mdel_find (l : Names) (k n : List UInt8) : (mdel l k).find? (fun p => p.1 == n) = if n = k then none else l.find? (fun p => p.1 == n) := by
  unfold mdel
  induction l with
  | nil => simp
  | cons y r ih =>
    by_cases hk : y.1 = k
    · rw [List.filter_cons_of_neg (by simp [hk]), ih]
      by_cases h : n = k
      · rw [if_pos h, if_pos h]
      · rw [if_neg h, if_neg h, List.find?_cons_of_neg (by simp [hk]; exact fun e => h e.symm)]
    · rw [List.filter_cons_of_pos (by simp [hk])]
      by_cases h : y.1 = n
      · rw [List.find?_cons_of_pos (by simpa using h), if_neg (fun e => hk (h.trans e)), List.find?_cons_of_pos (by simpa using h)]
      · rw [List.find?_cons_of_neg (by simpa using h), ih, List.find?_cons_of_neg (by simpa using h)]
theorem mdel_hasnt (l : Names) (k : List UInt8) : mhas (mdel l k) k = false := by rw [mhas_find, mdel_find, if_pos rfl]; rfl
theorem mput_find (l : Names) (k n : List UInt8) (v : Int) : (mput l k v).find? (fun p => p.1 == n) = if k = n then some (k, v) else l.find? (fun p => p.1 == n) := by
  unfold mput
  rw [find_mins (k, v) n _ (mdel_hasnt l k)]
  by_cases h : k = n
  · rw [if_pos h, if_pos h]
  · rw [if_neg h, if_neg h, mdel_find, if_neg (fun e => h e.symm)]
theorem mhas_mput (l : Names) (k n : List UInt8) (v : Int) : mhas (mput l k v) n = (decide (k = n) || mhas l n) := by
  rw [mhas_find, mput_find, mhas_find]
  by_cases h : k = n
  · rw [if_pos h, decide_eq_true h]; rfl
  · rw [if_neg h, decide_eq_false h]; rfl
theorem mhas_mdel (l : Names) (k n : List UInt8) : mhas (mdel l k) n = (!decide (n = k) && mhas l n) := by
  rw [mhas_find, mdel_find, mhas_find]
  by_cases h : n = k
  · rw [if_pos h, decide_eq_true h]; rfl
  · rw [if_neg h, decide_eq_false h]; rfl
theorem mget_mput (l : Names) (k n : List UInt8) (v : Int) : mget (mput l k v) n = if k = n then v else mget l n := by
  unfold mget
  rw [mput_find]
  by_cases h : k = n
  · rw [if_pos h, if_pos h]
  · rw [if_neg h, if_neg h]
theorem mget_mdel (l : Names) (k n : List UInt8) (h : n ≠ k) : mget (mdel l k) n = mget l n := by
  unfold mget
  rw [mdel_find, if_neg h]
theorem mput_perm (l : Names) (k : List UInt8) (v : Int) : (mput l k v).Perm ((k, v) :: mdel l k) := mem_mins _ _
theorem mdel_mem {l : Names} {k : List UInt8} {p : List UInt8 × Int} : p ∈ mdel l k ↔ p ∈ l ∧ p.1 ≠ k := by
  unfold mdel
  rw [List.mem_filter]
  simp
theorem mput_mem {l : Names} {k : List UInt8} {v : Int} {p : List UInt8 × Int} : p ∈ mput l k v ↔ p = (k, v) ∨ (p ∈ l ∧ p.1 ≠ k) := by
  rw [(mput_perm l k v).mem_iff, List.mem_cons, mdel_mem]
theorem mhas_mem {l : Names} {k : List UInt8} : mhas l k = true ↔ ∃ p ∈ l, p.1 = k := by
  unfold mhas
  rw [List.any_eq_true]
  constructor
  · rintro ⟨p, h1, h2⟩; exact ⟨p, h1, by simpa using h2⟩
  · rintro ⟨p, h1, h2⟩; exact ⟨p, h1, by simpa using h2⟩
theorem mdel_len_has : ∀ {l : Names} {k : List UInt8}, mhas l k = true → (mdel l k).length + 1 ≤ l.length
  | [], k, h => by cases h
  | y :: r, k, h => by
    by_cases hy : y.1 = k
    · have := List.length_filter_le (fun p : List UInt8 × Int => !(p.1 == k)) r
      unfold mdel
      rw [List.filter_cons_of_neg (by simp [hy]), List.length_cons]
      omega
    · have hr : mhas r k = true := by
        unfold mhas at h ⊢
        rw [List.any_cons] at h
        simpa [hy] using h
      have := mdel_len_has hr
      unfold mdel at this ⊢
      rw [List.filter_cons_of_pos (by simp [hy]), List.length_cons, List.length_cons]
      omega
theorem mput_len2 (l : Names) (k : List UInt8) (v : Int) : (mput l k v).length = (mdel l k).length + 1 := mins_len _ _

/-- Names differ, files differ, each stands. -/
structure Inv (st : St) : Prop where
  nd : st.dir.Pairwise (fun p q => p.1 ≠ q.1)
  inj : ∀ p ∈ st.dir, ∀ q ∈ st.dir, p.2 = q.2 → p.1 = q.1
  known : ∀ p ∈ st.dir, 0 ≤ p.2 ∧ p.2 < st.files.length
  gd : ∀ p ∈ st.dir, good p.1 = true
/-- What a name's file holds. -/
def look (st : St) (n : List UInt8) : Option (List UInt8) := if mhas st.dir n then some (fileAt st n) else none
theorem pw_mdel {l : Names} {k : List UInt8} (h : l.Pairwise (fun p q => p.1 ≠ q.1)) : (mdel l k).Pairwise (fun p q => p.1 ≠ q.1) := h.sublist List.filter_sublist
theorem pw_mput {l : Names} {k : List UInt8} {v : Int} (h : l.Pairwise (fun p q => p.1 ≠ q.1)) : (mput l k v).Pairwise (fun p q => p.1 ≠ q.1) := by
  refine ((mput_perm l k v).pairwise_iff (fun {a b} h => h.symm)).2 ?_
  rw [List.pairwise_cons]
  exact ⟨fun p hp => (mdel_mem.1 hp).2.symm, pw_mdel h⟩
theorem look_some {st : St} {n b : List UInt8} (h : look st n = some b) : mhas st.dir n = true ∧ fileAt st n = b := by
  unfold look at h
  split at h
  · rename_i h2; exact ⟨h2, by simpa using h⟩
  · cases h
theorem look_none {st : St} {n : List UInt8} (h : look st n = none) : mhas st.dir n = false := by
  unfold look at h
  split at h
  · cases h
  · rename_i h2; simpa using h2
theorem Inv.new (room : Int) : Inv (new room) := ⟨List.Pairwise.nil, fun p hp => (by cases hp), fun p hp => (by cases hp), fun p hp => (by cases hp)⟩
theorem look_new (room : Int) (n : List UInt8) : look (new room) n = none := rfl
theorem Inv.idx {st : St} (h : Inv st) {n : List UInt8} (hn : mhas st.dir n = true) : ∃ f, st.files[Fs.idx st n]? = some f ∧ fileAt st n = f.1 ∧ (n, ((Fs.idx st n : Nat) : Int)) ∈ st.dir := by
  obtain ⟨p, h1, h2, h3⟩ := mget_mem hn
  have hk := h.known p h1
  have e : Fs.idx st n = p.2.toNat := by unfold Fs.idx; rw [h3]
  have hlt : Fs.idx st n < st.files.length := by omega
  refine ⟨_, List.getElem?_eq_getElem hlt, ?_, ?_⟩
  · unfold fileAt; rw [List.getElem?_eq_getElem hlt]
  · rw [e]
    have : p = (n, ((p.2.toNat : Nat) : Int)) := by rw [← h2]; exact Prod.ext rfl (by show p.2 = _; omega)
    rw [← this]; exact h1
theorem Inv.idx_ne {st : St} (h : Inv st) {n m : List UInt8} (hn : mhas st.dir n = true) (hm : mhas st.dir m = true) (hne : n ≠ m) : Fs.idx st n ≠ Fs.idx st m := by
  obtain ⟨_, _, _, h1⟩ := h.idx hn
  obtain ⟨_, _, _, h2⟩ := h.idx hm
  intro e
  exact hne (h.inj _ h1 _ h2 (by show ((Fs.idx st n : Nat) : Int) = ((Fs.idx st m : Nat) : Int); rw [e]))
theorem openE_of {st : St} {n : List UInt8} (hg : good n = true) (hn : mhas st.dir n = true) : openE st n = 0 := by
  unfold openE; rw [if_neg (by rw [hg]; simp), if_neg (by rw [hn]; simp)]

/-- What calm operations leave alone, and how they grow. -/
structure Next (st st' : St) (k : Nat) : Prop where
  calm : Calm st'
  inv : Inv st'
  room : st'.room = st.room
  files : st'.files.length ≤ st.files.length + k
  changes : st'.changes.length ≤ st.changes.length + k
theorem Next.trans {a b c : St} {i j : Nat} (h : Next a b i) (g : Next b c j) : Next a c (i + j) :=
  ⟨g.calm, g.inv, g.room.trans h.room, by have := h.files; have := g.files; omega, by have := h.changes; have := g.changes; omega⟩
theorem Next.refl {st : St} (hc : Calm st) (hi : Inv st) : Next st st 0 := ⟨hc, hi, rfl, Nat.le_refl _, Nat.le_refl _⟩
section
set_option linter.unusedSectionVars false
variable {st : St} {n : List UInt8} (hc : Calm st) (hi : Inv st)
include hc hi
theorem calm_create (hg : good n = true) (hn : mhas st.dir n = false) (hd : st.dir.length < 64) :
    (create st n).2 = 0 ∧ Next st (create st n).1 1 ∧ (create st n).1.dir.length = st.dir.length + 1 ∧ ∀ m, look (create st n).1 m = if m = n then some [] else look st m := by
  have he : create st n = ({ (step st).1 with files := st.files ++ [([], 0)], dir := mput st.dir n st.files.length, changes := st.changes ++ [[(n, (st.files.length : Int))]] }, 0) := by
    unfold create
    rw [if_neg (by rw [hg]; simp), if_neg (by rw [hn]; simp), if_neg (by omega), if_neg (by rw [step_calm hc]; simp)]
  rw [he, step_calm hc]
  refine ⟨rfl, ⟨⟨hc.1, hc.2⟩, ⟨pw_mput hi.nd, ?_, ?_, fun p hp => (mput_mem.1 hp).elim (fun e => by rw [e]; exact hg) (fun h => hi.gd p h.1)⟩, rfl, by simp, by simp⟩, ?_, fun m => ?_⟩
  · intro p hp q hq e
    rcases mput_mem.1 hp with rfl | ⟨hp1, _⟩ <;> rcases mput_mem.1 hq with rfl | ⟨hq1, _⟩
    · rfl
    · have := hi.known q hq1; simp only at e; omega
    · have := hi.known p hp1; simp only at e; omega
    · exact hi.inj p hp1 q hq1 e
  · intro p hp
    rcases mput_mem.1 hp with rfl | ⟨hp1, _⟩
    · simp; omega
    · have := hi.known p hp1; simp; omega
  · show (mput st.dir n st.files.length).length = _
    rw [mput_len2, mdel_none hn]
  · show (if mhas (mput st.dir n st.files.length) m then some (match (st.files ++ [(([] : List UInt8), 0)])[(mget (mput st.dir n st.files.length) m).toNat]? with | some f => f.1 | none => []) else none) = _
    rw [mhas_mput, mget_mput]
    by_cases hm : m = n
    · subst hm
      simp
    · have hm' : ¬ n = m := fun e => hm e.symm
      rw [if_neg hm, if_neg hm', decide_eq_false hm', Bool.false_or]
      cases hh : mhas st.dir m
      · unfold look; rw [hh]; rfl
      · obtain ⟨f, h1, h2, _⟩ := hi.idx hh
        have hlt : Fs.idx st m < st.files.length := (List.getElem?_eq_some_iff.1 h1).1
        unfold Fs.idx at h1 hlt
        rw [if_pos rfl, List.getElem?_append_left hlt, h1]
        unfold look; rw [hh, if_pos rfl, h2]
/-- A file turns. -/
theorem look_set {f' : List UInt8 × Nat} {st' : St} (hd : st'.dir = st.dir) (hf : st'.files = st.files.set (Fs.idx st n) f') (hn : mhas st.dir n = true) : Inv st' ∧ ∀ m, look st' m = if m = n then some f'.1 else look st m := by
  refine ⟨⟨by rw [hd]; exact hi.nd, by rw [hd]; exact hi.inj, by rw [hd, hf, List.length_set]; exact hi.known, by rw [hd]; exact hi.gd⟩, fun m => ?_⟩
  obtain ⟨f, h1, _, _⟩ := hi.idx hn
  have hlt : Fs.idx st n < st.files.length := (List.getElem?_eq_some_iff.1 h1).1
  have hix : Fs.idx st' m = Fs.idx st m := by unfold Fs.idx; rw [hd]
  unfold look fileAt
  rw [hd, hix, hf]
  by_cases hm : m = n
  · subst hm
    rw [hn, if_pos rfl, if_pos rfl, List.getElem?_set_self hlt]
  · rw [if_neg hm]
    cases hh : mhas st.dir m
    · rfl
    · rw [List.getElem?_set_ne (hi.idx_ne hn hh (fun e => hm e.symm))]
theorem calm_append {b old : List UInt8} (hg : good n = true) (hn : look st n = some old) (hl : old.length + b.length ≤ 65536) (hr : (used st : Int) + b.length ≤ st.room) :
    (append st n b).2 = 0 ∧ Next st (append st n b).1 0 ∧ (append st n b).1.dir = st.dir ∧ (∃ i, (append st n b).1.files = st.files.set i (old ++ b, ((st.files[i]?.map (·.2)).getD 0))) ∧ ∀ m, look (append st n b).1 m = if m = n then some (old ++ b) else look st m := by
  obtain ⟨hh, hfa⟩ := look_some hn
  obtain ⟨f, h1, h2, _⟩ := hi.idx hh
  have he : append st n b = ({ (step st).1 with files := grow st.files (Fs.idx st n) b }, 0) := by
    unfold append
    rw [if_neg (by rw [openE_of hg hh]; simp), hfa, if_neg (by omega), step_calm hc, if_neg (by simp), if_neg (by omega)]
  have hgr : grow st.files (Fs.idx st n) b = st.files.set (Fs.idx st n) (f.1 ++ b, f.2) := by unfold grow; rw [h1]
  have hfe : f.1 = old := by rw [← h2, hfa]
  rw [he, step_calm hc, hgr, hfe]
  obtain ⟨k1, k2⟩ := look_set (st' := { st with steps := wrap64 (st.steps + 1), files := st.files.set (Fs.idx st n) (old ++ b, f.2) }) (f' := (old ++ b, f.2)) hc hi rfl rfl hh
  exact ⟨rfl, ⟨⟨hc.1, hc.2⟩, k1, rfl, by simp, Nat.le_refl _⟩, rfl, ⟨Fs.idx st n, by rw [h1]; rfl⟩, k2⟩
theorem calm_sync (hg : good n = true) {old : List UInt8} (hn : look st n = some old) :
    (sync st n).2 = 0 ∧ Next st (sync st n).1 0 ∧ (sync st n).1.dir = st.dir ∧ (∃ i, (sync st n).1.files = st.files.set i (old, old.length)) ∧ ∀ m, look (sync st n).1 m = look st m := by
  obtain ⟨hh, hfa⟩ := look_some hn
  obtain ⟨f, h1, h2, _⟩ := hi.idx hh
  have he : sync st n = ({ (step st).1 with files := flush st.files (Fs.idx st n) }, 0) := by
    unfold sync
    rw [if_neg (by rw [openE_of hg hh]; simp), step_calm hc, if_neg (by simp)]
  have hfe : f.1 = old := by rw [← h2, hfa]
  have hgr : flush st.files (Fs.idx st n) = st.files.set (Fs.idx st n) (old, old.length) := by unfold flush; rw [h1]; simp only [hfe]
  rw [he, step_calm hc, hgr]
  obtain ⟨k1, k2⟩ := look_set (st' := { st with steps := wrap64 (st.steps + 1), files := st.files.set (Fs.idx st n) (old, old.length) }) (f' := (old, old.length)) hc hi rfl rfl hh
  refine ⟨rfl, ⟨⟨hc.1, hc.2⟩, k1, rfl, by simp, Nat.le_refl _⟩, rfl, ⟨_, rfl⟩, fun m => ?_⟩
  rw [k2 m]
  by_cases hm : m = n
  · rw [if_pos hm, hm, hn]
  · rw [if_neg hm]
theorem calm_syncDir : (syncDir st).2 = 0 ∧ Next st (syncDir st).1 0 ∧ (syncDir st).1.dir = st.dir ∧ (syncDir st).1.files = st.files ∧ ∀ m, look (syncDir st).1 m = look st m := by
  have he : syncDir st = ({ (step st).1 with sure := st.dir, changes := [] }, 0) := by
    unfold syncDir
    rw [step_calm hc, if_neg (by simp)]
  rw [he, step_calm hc]
  exact ⟨rfl, ⟨⟨hc.1, hc.2⟩, ⟨hi.nd, hi.inj, hi.known, hi.gd⟩, rfl, Nat.le_refl _, Nat.zero_le _⟩, rfl, rfl, fun m => rfl⟩
theorem calm_remove (hg : good n = true) (hn : mhas st.dir n = true) :
    (remove st n).2 = 0 ∧ Next st (remove st n).1 1 ∧ (remove st n).1.dir = mdel st.dir n ∧ (remove st n).1.files = st.files ∧ ∀ m, look (remove st n).1 m = if m = n then none else look st m := by
  have he : remove st n = (turned (step st).1 [(n, -1)], 0) := by
    unfold remove
    rw [if_neg (by rw [openE_of hg hn]; simp), step_calm hc, if_neg (by simp)]
  rw [he, step_calm hc]
  refine ⟨rfl, ⟨⟨hc.1, hc.2⟩, ⟨pw_mdel hi.nd, fun p hp q hq => hi.inj p (mdel_mem.1 hp).1 q (mdel_mem.1 hq).1, fun p hp => hi.known p (mdel_mem.1 hp).1, fun p hp => hi.gd p (mdel_mem.1 hp).1⟩, rfl, Nat.le_succ _, by simp [turned]⟩, rfl, rfl, fun m => ?_⟩
  show (if mhas (mdel st.dir n) m then some (match st.files[(mget (mdel st.dir n) m).toNat]? with | some f => f.1 | none => []) else none) = _
  rw [mhas_mdel]
  by_cases hm : m = n
  · rw [if_pos hm, decide_eq_true hm]; rfl
  · rw [if_neg hm, decide_eq_false hm, mget_mdel _ _ _ hm]; rfl
theorem calm_rename {nt old : List UInt8} (hg : good n = true) (hg2 : good nt = true) (hne : n ≠ nt) (hn : look st n = some old) :
    (rename st n nt).2 = 0 ∧ Next st (rename st n nt).1 1 ∧ (rename st n nt).1.dir.length ≤ st.dir.length ∧ (mhas st.dir nt = true → (rename st n nt).1.dir.length + 1 ≤ st.dir.length) ∧ (rename st n nt).1.files = st.files ∧
      ∀ m, look (rename st n nt).1 m = if m = nt then some old else if m = n then none else look st m := by
  obtain ⟨hh, hfa⟩ := look_some hn
  obtain ⟨f, h1, h2, hmem⟩ := hi.idx hh
  obtain ⟨p, hp1, hp2, hp3⟩ := mget_mem hh
  have hkn := hi.known p hp1
  have he : rename st n nt = (turned (step st).1 [(n, -1), (nt, mget st.dir n)], 0) := by
    unfold rename
    rw [if_neg (by rw [hg, hg2]; simp), if_neg (by rw [hh]; simp), step_calm hc, if_neg (by simp)]
  have hdir : doAll st.dir [(n, -1), (nt, mget st.dir n)] = mput (mdel st.dir n) nt (mget st.dir n) := by
    show doOne (doOne st.dir (n, -1)) (nt, mget st.dir n) = _
    have e1 : doOne st.dir (n, -1) = mdel st.dir n := by unfold doOne; exact if_pos (show (-1 : Int) < 0 by decide)
    rw [e1]
    unfold doOne
    rw [if_neg (show ¬ mget st.dir n < 0 by rw [← hp3]; omega)]
  have hl1 := mdel_len_has hh
  rw [he, step_calm hc]
  refine ⟨rfl, ⟨⟨hc.1, hc.2⟩, ⟨?_, ?_, ?_, ?_⟩, rfl, Nat.le_succ _, by simp [turned]⟩, ?_, fun ht => ?_, rfl, fun m => ?_⟩
  · show (doAll st.dir _).Pairwise _
    rw [hdir]; exact pw_mput (pw_mdel hi.nd)
  · show ∀ p ∈ doAll st.dir _, ∀ q ∈ doAll st.dir _, _
    rw [hdir]
    have key : ∀ q ∈ mdel st.dir n, q.2 ≠ mget st.dir n := fun q hq e => by
      obtain ⟨hq1, hq2⟩ := mdel_mem.1 hq
      exact hq2 (by rw [← hp2]; exact hi.inj q hq1 p hp1 (by rw [hp3]; exact e))
    intro a ha b hb e
    rcases mput_mem.1 ha with rfl | ⟨ha1, _⟩ <;> rcases mput_mem.1 hb with rfl | ⟨hb1, _⟩
    · rfl
    · exact absurd e.symm (key b hb1)
    · exact absurd e (key a ha1)
    · exact hi.inj a (mdel_mem.1 ha1).1 b (mdel_mem.1 hb1).1 e
  · show ∀ p ∈ doAll st.dir _, _
    rw [hdir]
    intro q hq
    rcases mput_mem.1 hq with rfl | ⟨hq1, _⟩
    · rw [hp3] at hkn; exact hkn
    · exact hi.known q (mdel_mem.1 hq1).1
  · show ∀ p ∈ doAll st.dir _, _
    rw [hdir]
    intro q hq
    rcases mput_mem.1 hq with rfl | ⟨hq1, _⟩
    · exact hg2
    · exact hi.gd q (mdel_mem.1 hq1).1
  · show (doAll st.dir _).length ≤ _
    rw [hdir, mput_len2]
    have := mdel_len (mdel st.dir n) nt
    omega
  · show (doAll st.dir _).length + 1 ≤ _
    rw [hdir, mput_len2]
    have : mhas (mdel st.dir n) nt = true := by rw [mhas_mdel, ht, decide_eq_false (fun e => hne e.symm)]; rfl
    have := mdel_len_has this
    omega
  · show (if mhas (doAll st.dir _) m then some (match st.files[(mget (doAll st.dir _) m).toNat]? with | some f => f.1 | none => []) else none) = _
    rw [hdir, mhas_mput, mget_mput, mhas_mdel]
    by_cases hm : m = nt
    · rw [if_pos hm, if_pos hm.symm, decide_eq_true hm.symm, Bool.true_or, if_pos rfl]
      have : st.files[(mget st.dir n).toNat]? = some f := h1
      rw [this, ← hfa, h2]
    · have hm' : ¬ nt = m := fun e => hm e.symm
      rw [if_neg hm, if_neg hm', decide_eq_false hm', Bool.false_or]
      by_cases hmn : m = n
      · rw [if_pos hmn, decide_eq_true hmn]; rfl
      · rw [if_neg hmn, decide_eq_false hmn, mget_mdel _ _ _ hmn]; rfl
end
/-- The bytes in use, by what the names' files hold. -/
theorem used_look {st : St} (hi : Inv st) {M : Nat} (hM : ∀ n b, look st n = some b → b.length ≤ M) : used st ≤ st.dir.length * M := by
  have : ∀ l : Names, (∀ p ∈ l, p ∈ st.dir) → usedL st l ≤ l.length * M := by
    intro l
    induction l with
    | nil => intro _; exact Nat.zero_le _
    | cons p l ih =>
      intro h
      have h1 := ih (fun q hq => h q (List.mem_cons_of_mem _ hq))
      have hp := h p List.mem_cons_self
      have hh : mhas st.dir p.1 = true := mhas_mem.2 ⟨p, hp, rfl⟩
      obtain ⟨f, f1, f2, f3⟩ := hi.idx hh
      have e : mget st.dir p.1 = p.2 := mget_of (fun a ha b hb e => by
        by_cases hab : a = b
        · rw [hab]
        · have := hi.nd
          rcases List.mem_iff_getElem.1 ha with ⟨i, hi1, rfl⟩
          rcases List.mem_iff_getElem.1 hb with ⟨j, hj1, rfl⟩
          rw [List.pairwise_iff_getElem] at this
          rcases Nat.lt_trichotomy i j with h | h | h
          · exact absurd e (this i j hi1 hj1 h)
          · subst h; rfl
          · exact absurd e.symm (this j i hj1 hi1 h)) (show (p.1, p.2) ∈ st.dir from hp)
      have h2 : lenAt st p.2 ≤ M := by
        have : lenAt st p.2 = f.1.length := by
          unfold lenAt
          unfold Fs.idx at f1
          rw [e] at f1
          rw [f1]
        rw [this, ← f2]
        exact hM p.1 _ (by unfold look; rw [if_pos hh])
      unfold usedL at h1 ⊢
      rw [List.map_cons, List.sum_cons, List.length_cons, Nat.succ_mul]
      omega
  exact this st.dir (fun _ h => h)
end Fs
end Go.Proofs.YtcinagglbkbmkaaGreatDoor
