/-
  Segments: the program's ID, walked; it is the document's. Segments: the program's ID is the document's (no program in sight). Segments: Create and Append, walked. Segments: Read, walked.
-/
import Derived.Test.YtcinagglbkbmkaaDoorZk7
namespace Go.Proofs.YtcinagglbkbmkaaDoor
set_option linter.unusedSimpArgs false
set_option linter.unusedVariables false
open Go Go.RowKit
open Go.Maps Go.WideMaps

theorem segStr : (⟨#[115, 101, 103, 45]⟩ : ByteArray).data.toList = Sg.seg := rfl
set_option maxHeartbeats 1000000 in
set_option maxRecDepth 100000 in
theorem id_any (s : ByteArray) (w : World) (B : Nat) (hE : SgEnv B w) (hB : B ≤ w.heap.size) (hs : s.size ≤ 1000000) :
    Calls Tryd.prog 13 #[.string s] w fun e w' => e = .returned (.tuple #[.int .i64 (Sg.idOf s.data.toList), .bool (decide (0 < Sg.idOf s.data.toList))]) ∧ Below w.heap.size w w' := by
  have HIO : Hid (Sg.idOf s.data.toList = match Lib.atoiAll (Lib.trimPrefix s.data.toList Sg.seg) with
    | .ok v => if Lib.hasPrefix s.data.toList Sg.seg = true ∧ Sg.nameE v = 0 ∧ Sg.nameB v = s.data.toList then v else 0
    | _ => 0) := Lib.hid rfl
  go_enter Tryd.func13, Tryd.ntmps13
  go_wp2_with fail
  refine (Tryd.strings_CutPrefix s ⟨#[115, 101, 103, 45]⟩ w).mono ?_
  rintro e w1 ⟨rfl, hw1⟩
  subst hw1
  rw [segStr]
  obtain ⟨d, hd⟩ : ∃ d : ByteArray, d = ⟨(Lib.trimPrefix s.data.toList Sg.seg).toArray⟩ := ⟨_, rfl⟩
  obtain ⟨ok, hok⟩ : ∃ ok, ok = Lib.hasPrefix s.data.toList Sg.seg := ⟨_, rfl⟩
  have hdl : d.data.toList = Lib.trimPrefix s.data.toList Sg.seg := by rw [hd]
  have hds : d.size ≤ 1000000 := by
    have h1 : (Lib.trimPrefix s.data.toList Sg.seg).length ≤ s.size := by
      unfold Lib.trimPrefix
      split <;> simp
    rw [← hdl] at h1
    have h2 : d.data.toList.length = d.size := by simp
    omega
  rw [← hd, ← hok]
  have HD := Lib.hid hdl
  have HOK := Lib.hid hok
  clear hd hok hdl
  go_wp2_with fail
  cases hat : Lib.atoiAll d.data.toList with
  | ok v =>
    have HAT := Lib.hid hat
    refine (Tryd.strconv_Atoi_ok d (by omega) v hat w1).mono ?_
    rintro e w2 ⟨rfl, hw2⟩
    have hb2 : Below w1.heap.size w1 w2 := by
      rcases hw2 with rfl | ⟨t, rfl⟩
      · exact Below.refl _ _
      · exact Joins.below_bytesWorld w1.heap.size w1 5 t (Nat.le_refl _)
    have HB2 := Lib.hid hb2
    have hE2 := hE.below (hb2.mono hB)
    clear hw2 hb2 hat
    cases ok with
    | false =>
      have HZ : Hid (Sg.idOf s.data.toList = 0) := by
        rw [HIO.out, ← HD.out, HAT.out]
        show Hid ((if _ then _ else _) = _)
        rw [← HOK.out, if_neg (by simp)]
        exact Lib.hid rfl
      go_wp2_with fail
      refine bodyPost_ret (v := .tuple #[.int .i64 0, .bool false]) (by simp [results, Tryd.results13, go_sem]) rfl ?_
      exact ⟨by rw [HZ.out]; rfl, HB2.out⟩
    | true =>
      go_wp2_with fail
      refine (name_any v w2 B hE2).mono ?_
      rintro e w3 ⟨rfl, hb3⟩
      have HB3 := Lib.hid (HB2.out.trans (hb3.mono HB2.out.size))
      obtain ⟨E, hEE⟩ : ∃ E, E = Sg.nameE v := ⟨_, rfl⟩
      obtain ⟨sn, hsn⟩ : ∃ t : ByteArray, t = ⟨(Sg.nameB v).toArray⟩ := ⟨_, rfl⟩
      rw [← hsn, ← hEE]
      have HSN := Lib.hid hsn
      have HEE := Lib.hid hEE
      clear hsn hEE hb3
      by_cases hE0 : E = 0
      · subst hE0
        by_cases heq : sn = s
        · have hv1 : 0 < v := by
            have := HEE.out
            unfold Sg.nameE at this
            split at this <;> omega
          have HZ : Hid (Sg.idOf s.data.toList = v) := by
            rw [HIO.out, ← HD.out, HAT.out]
            show Hid ((if _ then _ else _) = _)
            rw [← HOK.out, if_pos ⟨rfl, HEE.out.symm, by rw [← heq, HSN.out]⟩]
            exact Lib.hid rfl
          have hte : (sn.toList == s.toList) = true := by rw [heq]; simp
          clear heq
          go_wp2_with fail
          refine bodyPost_ret (v := .tuple #[.int .i64 v, .bool true]) (by simp [results, Tryd.results13, go_sem]) rfl ?_
          exact ⟨by rw [HZ.out]; simp [hv1], HB3.out⟩
        · have HZ : Hid (Sg.idOf s.data.toList = 0) := by
            rw [HIO.out, ← HD.out, HAT.out]
            show Hid ((if _ then _ else _) = _)
            rw [if_neg (fun h => heq (by rw [HSN.out, h.2.2]))]
            exact Lib.hid rfl
          have hte : (sn.toList == s.toList) = false := by
            rw [beq_eq_false_iff_ne, ByteArray.toList_eq, ByteArray.toList_eq]
            exact fun h => heq (ByteArray.ext (Array.toList_inj.1 h))
          clear heq
          go_wp2_with fail
          refine bodyPost_ret (v := .tuple #[.int .i64 0, .bool false]) (by simp [results, Tryd.results13, go_sem]) rfl ?_
          exact ⟨by rw [HZ.out]; rfl, HB3.out⟩
      · have HZ : Hid (Sg.idOf s.data.toList = 0) := by
          rw [HIO.out, ← HD.out, HAT.out]
          show Hid ((if _ then _ else _) = _)
          rw [if_neg (fun h => hE0 (by rw [HEE.out, h.2.1]))]
          exact Lib.hid rfl
        have hte : (E != 0) = true := by rw [bne_iff_ne]; exact hE0
        have hte2 : (E == 0) = false := by rw [beq_eq_false_iff_ne]; exact hE0
        clear hE0
        go_wp2_with fail
        refine bodyPost_ret (v := .tuple #[.int .i64 0, .bool false]) (by simp [results, Tryd.results13, go_sem]) rfl ?_
        exact ⟨by rw [HZ.out]; rfl, HB3.out⟩
  | range =>
    obtain ⟨tp, p, hv⟩ := hE.rng
    have HZ : Hid (Sg.idOf s.data.toList = 0) := by rw [HIO.out, ← HD.out, hat]; exact Lib.hid rfl
    refine (Tryd.strconv_Atoi_range_var d (by omega) hat tp p w1 hv).mono ?_
    rintro e w2 ⟨N, rfl, hN, _, hb2⟩
    have HB2 := Lib.hid hb2
    clear hb2 hat hv
    cases ok
    · go_wp2_with fail
      refine bodyPost_ret (v := .tuple #[.int .i64 0, .bool false]) (by simp [results, Tryd.results13, go_sem]) rfl ?_
      exact ⟨by rw [HZ.out]; rfl, HB2.out⟩
    · go_wp2_with fail
      refine bodyPost_ret (v := .tuple #[.int .i64 0, .bool false]) (by simp [results, Tryd.results13, go_sem]) rfl ?_
      exact ⟨by rw [HZ.out]; rfl, HB2.out⟩
  | _ =>
    obtain ⟨tp, p, hv⟩ := hE.syn
    have HZ : Hid (Sg.idOf s.data.toList = 0) := by rw [HIO.out, ← HD.out, hat]; exact Lib.hid rfl
    refine (Tryd.strconv_Atoi_syntax_var d (by omega) hat tp p w1 hv).mono ?_
    rintro e w2 ⟨N, rfl, hN, _, hb2⟩
    have HB2 := Lib.hid hb2
    clear hb2 hat hv
    cases ok
    · go_wp2_with fail
      refine bodyPost_ret (v := .tuple #[.int .i64 0, .bool false]) (by simp [results, Tryd.results13, go_sem]) rfl ?_
      exact ⟨by rw [HZ.out]; rfl, HB2.out⟩
    · go_wp2_with fail
      refine bodyPost_ret (v := .tuple #[.int .i64 0, .bool false]) (by simp [results, Tryd.results13, go_sem]) rfl ?_
      exact ⟨by rw [HZ.out]; rfl, HB2.out⟩
end Go.Proofs.YtcinagglbkbmkaaDoor
namespace Go.Proofs.YtcinagglbkbmkaaDoor
set_option linter.unusedSimpArgs false
set_option linter.unusedVariables false
open Go Go.RowKit

namespace Sg
theorem dig_ok (n : Nat) (h : n < 10) : (UInt8.ofNat (48 + n)).toNat = 48 + n := UInt8.toNat_ofNat_of_lt' (by show _ < 256; omega)
/-- Digits' value. -/
theorem dval_dec (n : Nat) : ∀ (a : Nat), (Lib.decDigits n).foldl (fun n c => n * 10 + (c.toNat - 48)) a = a * 10 ^ (Lib.decDigits n).length + n ∧ (Lib.decDigits n).all isDig = true := by
  induction n using Nat.strongRecOn with
  | _ n ih =>
    intro a
    by_cases h : n < 10
    · rw [Lib.decDigits_one h]
      refine ⟨?_, ?_⟩
      · simp only [List.foldl_cons, List.foldl_nil, List.length_singleton, Nat.pow_one, dig_ok n h]
        omega
      · simp only [List.all_cons, List.all_nil, isDig, dig_ok n h]
        simp
        omega
    · have he : Lib.decDigits n = Lib.decDigits (n / 10) ++ Lib.decDigits (n % 10) := by
        rw [Lib.decDigits, dif_neg h, Lib.decDigits_one (i := n % 10) (by omega)]
      obtain ⟨h1, h2⟩ := ih (n / 10) (by omega) a
      obtain ⟨h3, h4⟩ := ih (n % 10) (by omega) (a * 10 ^ (Lib.decDigits (n / 10)).length + n / 10)
      rw [he, List.foldl_append, h1, h3, List.all_append, h2, h4, List.length_append, Nat.pow_add]
      have hl : (Lib.decDigits (n % 10)).length = 1 := by rw [Lib.decDigits_one (by omega)]; rfl
      rw [hl, Nat.pow_one]
      refine ⟨?_, rfl⟩
      rw [Nat.add_mul, Nat.mul_assoc]
      omega
theorem dec_ne (n : Nat) : Lib.decDigits n ≠ [] := by
  intro h
  have := Lib.decDigits_length n
  have h2 := Lib.nDigits_pos n
  rw [h] at this
  simp at this
  omega
/-- What the library's parse makes of digits. -/
theorem parse_digits : ∀ (l : List UInt8) (a : Nat), l.all isDig = true → l.foldl (fun n c => n * 10 + (c.toNat - 48)) a < 18446744073709551616 →
    Lib.parseUint10 a l = .ok (l.foldl (fun n c => n * 10 + (c.toNat - 48)) a)
  | [], a, _, _ => rfl
  | c :: r, a, hd, hb => by
    simp only [List.all_cons, Bool.and_eq_true] at hd
    have hc := hd.1
    unfold isDig at hc
    simp only [Bool.and_eq_true, decide_eq_true_eq] at hc
    rw [List.foldl_cons] at hb ⊢
    have hge : ∀ (l : List UInt8) (b : Nat), b ≤ l.foldl (fun n c => n * 10 + (c.toNat - 48)) b := by
      intro l
      induction l with
      | nil => intro b; exact Nat.le_refl _
      | cons x l ih => intro b; rw [List.foldl_cons]; have := ih (b * 10 + (x.toNat - 48)); omega
    have h1 := hge r (a * 10 + (c.toNat - 48))
    unfold Lib.parseUint10
    rw [if_pos hc, if_neg (by omega), if_neg (by omega)]
    exact parse_digits r _ hd.2 hb
theorem atoi_dec (n : Nat) (h : n < 9223372036854775808) : Lib.atoiAll (Lib.decDigits n) = .ok (n : Int) := by
  obtain ⟨h1, h2⟩ := dval_dec n 0
  rw [Nat.zero_mul, Nat.zero_add] at h1
  have hp := parse_digits (Lib.decDigits n) 0 h2 (by rw [h1]; omega)
  rw [h1] at hp
  have hne := dec_ne n
  cases hl : Lib.decDigits n with
  | nil => exact absurd hl hne
  | cons c r =>
    have hc : isDig c = true := by
      rw [hl] at h2
      simp only [List.all_cons, Bool.and_eq_true] at h2
      exact h2.1
    unfold isDig at hc
    simp only [Bool.and_eq_true, decide_eq_true_eq] at hc
    unfold Lib.atoiAll
    rw [hl] at hp
    simp only
    rw [if_neg (by omega)]
    unfold Lib.parseMag
    rw [if_neg (by simp), hp]
    have hc45 : ¬ c.toNat = 45 := by omega
    simp only [hc45, not_false_eq_true, true_and, false_and, if_false]
    rw [if_neg (by omega)]
theorem name_of {id : Int} (h : nameE id = 0) : 1 ≤ id ∧ id ≤ 2147483647 ∧ nameB id = seg ++ Lib.decDigits id.toNat := by
  unfold nameE at h
  have hid : ¬ (id < 1 ∨ 2147483647 < id) := by
    intro hc
    rw [if_pos hc] at h
    cases h
  refine ⟨by omega, by omega, ?_⟩
  unfold nameB
  rw [if_neg hid]
  have : Lib.itoa id = Lib.decDigits id.toNat := by
    have := Lib.itoa_nonneg id.toNat
    rwa [show ((id.toNat : Nat) : Int) = id by omega] at this
  rw [this]
  rfl
theorem trim_seg (r : List UInt8) : Lib.trimPrefix (seg ++ r) seg = r ∧ Lib.hasPrefix (seg ++ r) seg = true := by
  have h : Lib.hasPrefix (seg ++ r) seg = true := by
    unfold Lib.hasPrefix
    rw [List.isPrefixOf_iff_prefix]
    exact List.prefix_append _ _
  refine ⟨?_, h⟩
  unfold Lib.trimPrefix
  rw [if_pos h]
  rfl
/-- A name's id is told by both. -/
theorem id_name {id : Int} (h : nameE id = 0) : idOf (nameB id) = id ∧ refId (nameB id) = id := by
  obtain ⟨h1, h2, h3⟩ := name_of h
  obtain ⟨n, rfl⟩ : ∃ n : Nat, id = n := ⟨id.toNat, by omega⟩
  rw [Int.toNat_natCast] at h3
  obtain ⟨t1, t2⟩ := trim_seg (Lib.decDigits n)
  obtain ⟨d1, d2⟩ := dval_dec n 0
  rw [Nat.zero_mul, Nat.zero_add] at d1
  have hlen : (Lib.decDigits n).length ≤ 10 := by
    rw [Lib.decDigits_length]
    have hn : n ≤ 2147483647 := by omega
    rcases Nat.lt_or_ge 10 (Lib.nDigits n) with hgt | hle
    · exfalso
      have : ∀ k u, Lib.nDigits u = k + 1 → 1 ≤ u → 10 ^ k ≤ u := by
        intro k
        induction k with
        | zero => intro u _ hu; simpa using hu
        | succ k ih =>
          intro u hu h1u
          by_cases hs : u < 10
          · rw [Lib.nDigits_small hs] at hu; omega
          · rw [Lib.nDigits_big hs] at hu
            have := ih (u / 10) (by omega) (by omega)
            rw [Nat.pow_succ]
            omega
      have h4 := this (Lib.nDigits n - 1) n (by omega) (by omega)
      have h5 : 10 ^ 10 ≤ 10 ^ (Lib.nDigits n - 1) := Nat.pow_le_pow_right (by omega) (by omega)
      omega
    · exact hle
  have hlen1 : 1 ≤ (Lib.decDigits n).length := by
    have := dec_ne n
    cases hx : Lib.decDigits n with
    | nil => exact absurd hx this
    | cons c r => simp
  have hdrop : (seg ++ Lib.decDigits n).drop 4 = Lib.decDigits n := rfl
  have htake : (seg ++ Lib.decDigits n).take 4 = seg := rfl
  have hl4 : (seg ++ Lib.decDigits n).length = 4 + (Lib.decDigits n).length := by rw [List.length_append]; rfl
  constructor
  · unfold idOf
    rw [h3, t1, atoi_dec n (by omega)]
    show (if _ then _ else _) = _
    rw [if_pos ⟨t2, h, h3⟩]
  · unfold refId
    have hdv : dval ((nameB (n : Int)).drop 4) = n := by rw [h3, hdrop]; exact d1
    rw [hdv]
    rw [if_neg (by rw [h3, hl4, htake]; simp; omega), if_neg (by rw [h3, hdrop, d2]; simp), if_neg (by rw [h]; simp)]
theorem id_of {l : List UInt8} {v : Int} (h : idOf l = v) (hv : v ≠ 0) : nameE v = 0 ∧ nameB v = l := by
  unfold idOf at h
  cases hat : Lib.atoiAll (Lib.trimPrefix l seg) with
  | ok u =>
    rw [hat] at h
    simp only at h
    by_cases hc : Lib.hasPrefix l seg = true ∧ nameE u = 0 ∧ nameB u = l
    · rw [if_pos hc] at h
      subst h
      exact hc.2
    · rw [if_neg hc] at h
      exact absurd h.symm hv
  | _ => rw [hat] at h; exact absurd h.symm hv
theorem ref_of {l : List UInt8} {v : Int} (h : refId l = v) (hv : v ≠ 0) : nameE v = 0 ∧ nameB v = l := by
  unfold refId at h
  by_cases h1 : l.length < 5 ∨ 14 < l.length ∨ l.take 4 ≠ seg
  · rw [if_pos h1] at h; exact absurd h.symm hv
  · rw [if_neg h1] at h
    by_cases h2 : (l.drop 4).all isDig = false
    · rw [if_pos h2] at h; exact absurd h.symm hv
    · rw [if_neg h2] at h
      by_cases h3 : nameE (dval (l.drop 4)) ≠ 0 ∨ nameB (dval (l.drop 4)) ≠ l
      · rw [if_pos h3] at h; exact absurd h.symm hv
      · rw [if_neg h3] at h
        subst h
        have h4 : nameE (dval (l.drop 4)) = 0 ∧ nameB (dval (l.drop 4)) = l := by
          constructor
          · rcases Classical.em (nameE (dval (l.drop 4)) = 0) with h | h
            · exact h
            · exact absurd (.inl h) h3
          · rcases Classical.em (nameB (dval (l.drop 4)) = l) with h | h
            · exact h
            · exact absurd (.inr h) h3
        exact h4
/-- ONE ID. -/
theorem id_ref (l : List UInt8) : idOf l = refId l := by
  by_cases h1 : idOf l = 0
  · by_cases h2 : refId l = 0
    · rw [h1, h2]
    · obtain ⟨a, b⟩ := ref_of rfl h2
      have := (id_name a).1
      rw [b] at this
      exact this
  · obtain ⟨a, b⟩ := id_of rfl h1
    have := (id_name a).2
    rw [b] at this
    exact this.symm
end Sg
end Go.Proofs.YtcinagglbkbmkaaDoor
namespace Go.Proofs.YtcinagglbkbmkaaDoor
set_option linter.unusedSimpArgs false
set_option linter.unusedVariables false
open Go Go.RowKit
open Go.Maps Go.WideMaps

theorem OpPost.refl {base B : Nat} {st : Fs.St} {V : FsV} {own : Nat → Tag} {w : World} (h : FsOK base B st V own w) : OpPost base B st own w w := ⟨V, own, h, fun _ _ => rfl, Kept.refl _ _ _⟩
theorem OpPost.of {base B : Nat} {st : Fs.St} {V : FsV} {own : Nat → Tag} {w w' : World} (h : FsOK base B st V own w) (hb : Below w.heap.size w w') : OpPost base B st own w w' := ⟨V, own, h.kept (kept_below hb), fun _ _ => rfl, kept_below hb⟩
theorem OpPost.step {base B : Nat} {st' : Fs.St} {own own' : Nat → Tag} {w w1 w2 : World} (hk1 : Kept own (· ≠ .other) w w1) (ho1 : ∀ k, k < w.heap.size → own' k = own k) (h2 : OpPost base B st' own' w1 w2) : OpPost base B st' own w w2 := by
  obtain ⟨V2, own2, h, ho2, hk2⟩ := h2
  refine ⟨V2, own2, h, fun k hk => (ho2 k (Nat.lt_of_lt_of_le hk hk1.size)).trans (ho1 k hk), hk2.os.trans hk1.os, hk2.tape.trans hk1.tape, hk2.output.trans hk1.output, Nat.le_trans hk1.size hk2.size, fun k hk ht => ?_⟩
  rw [hk2.block k (Nat.lt_of_lt_of_le hk hk1.size) (by rw [ho1 k hk]; exact ht)]
  exact hk1.block k hk ht
theorem OpPost.below0 {base B : Nat} {st st' : Fs.St} {V : FsV} {own : Nat → Tag} {w w' : World} (h : FsOK base B st V own w) (hp : OpPost base B st' own w w') (hbase : base ≤ w.heap.size) : Below base w w' := by
  obtain ⟨_, _, _, _, hk⟩ := hp
  exact ⟨hk.os, hk.tape, hk.output, hk.size, fun k hk2 => hk.block k (Nat.lt_of_lt_of_le hk2 hbase) (by rw [h.old k hk2]; simp)⟩

namespace Sg
def create (st : Fs.St) (id : Int) : Fs.St × Int :=
  if nameE id ≠ 0 then (st, nameE id) else if (Fs.create st (nameB id)).2 ≠ 0 then Fs.create st (nameB id) else Fs.syncDir (Fs.create st (nameB id)).1
def append (st : Fs.St) (id k : Int) (p : List UInt8) : Fs.St × Int :=
  if nameE id ≠ 0 then (st, nameE id) else if Fr.encE k p ≠ 0 then (st, Fr.encE k p)
  else if (Fs.append st (nameB id) (Fr.bytes k p)).2 ≠ 0 then Fs.append st (nameB id) (Fr.bytes k p) else Fs.sync (Fs.append st (nameB id) (Fr.bytes k p)).1 (nameB id)
end Sg
/-- Sizes within reach. -/
structure Fs.Small (st : Fs.St) : Prop where
  files : st.files.length ≤ 800000
  dir : st.dir.length ≤ 800000
  changes : st.changes.length ≤ 800000
  file : ∀ f ∈ st.files, f.1.length ≤ 65536
  room : 0 ≤ st.room ∧ st.room ≤ 1048576

theorem nameSz (id : Int) : (⟨(Sg.nameB id).toArray⟩ : ByteArray).size ≤ 25 := by
  have := Sg.nameB_len id
  show (Sg.nameB id).toArray.size ≤ 25
  simpa using this

set_option maxHeartbeats 1000000 in
set_option maxRecDepth 100000 in
theorem segCreate_any (base B : Nat) (st : Fs.St) (V : FsV) (own : Nat → Tag) (id : Int) (w : World) (h : FsOK base B st V own w) (hE : SgEnv base w) (hbase : base ≤ w.heap.size) (hS : Fs.Small st) :
    Calls Tryd.prog 6 #[.pointer (some ⟨B, 0, none⟩), .int .i64 id] w fun e w' => e = .returned (.int .i64 (Sg.create st id).2) ∧ OpPost base B (Sg.create st id).1 own w w' := by
  have H := Lib.hid h
  have hEE := Lib.hid hE
  have HS := Lib.hid hS
  clear h hE hS
  go_enter Tryd.func6, Tryd.ntmps6
  go_wp2_with fail
  refine (name_any id w base hEE.out).mono ?_
  rintro e w1 ⟨rfl, hb1⟩
  have H1 := Lib.hid (H.out.kept (kept_below hb1))
  have HB1 := Lib.hid hb1
  obtain ⟨E, hE⟩ : ∃ E, E = Sg.nameE id := ⟨_, rfl⟩
  obtain ⟨sn, hsn⟩ : ∃ t : ByteArray, t = ⟨(Sg.nameB id).toArray⟩ := ⟨_, rfl⟩
  rw [← hsn, ← hE]
  have HN : Hid (sn.data.toList = Sg.nameB id) := by rw [hsn]; exact Lib.hid rfl
  have hsz : sn.size ≤ 25 := by rw [hsn]; exact nameSz id
  have HE := Lib.hid hE
  clear hE hsn hb1
  by_cases hE0 : E = 0
  · subst hE0
    go_wp2_with fail
    refine (create_any base B st V own sn w1 H1.out (by omega) (by have := HS.out.files; omega) (by have := HS.out.changes; omega) (by have := HS.out.dir; omega)).mono ?_
    rintro e w2 ⟨rfl, hp2⟩
    rw [HN.out] at hp2 ⊢
    obtain ⟨V2, own2, h2, ho2, hk2⟩ := hp2
    have HK02 := Lib.hid ((kept_below (own := own) (T := (· ≠ .other)) HB1.out).trans hk2)
    have HO02 : Hid (∀ k, k < w.heap.size → own2 k = own k) := Lib.hid (fun k hk => ho2 k (Nat.lt_of_lt_of_le hk HB1.out.size))
    have H2 := Lib.hid h2
    clear h2 ho2 hk2
    obtain ⟨C, hC⟩ : ∃ C, C = (Fs.create st (Sg.nameB id)).2 := ⟨_, rfl⟩
    rw [← hC]
    have HC := Lib.hid hC
    clear hC
    by_cases hC0 : C = 0
    · subst hC0
      have HR : Hid (Sg.create st id = Fs.syncDir (Fs.create st (Sg.nameB id)).1) := by
        unfold Sg.create
        rw [if_neg (by rw [← HE.out]; simp), if_neg (by rw [← HC.out]; simp)]
        exact Lib.hid rfl
      go_wp2_with fail
      refine (syncDir_any base B _ V2 own2 w2 H2.out).mono ?_
      rintro e w3 ⟨rfl, hp3⟩
      rw [← HR.out] at hp3 ⊢
      have HP3 := Lib.hid hp3
      clear hp3
      go_wp2_with fail
      go_ret
      exact ⟨rfl, OpPost.step HK02.out HO02.out HP3.out⟩
    · have HR : Hid (Sg.create st id = Fs.create st (Sg.nameB id)) := by
        unfold Sg.create
        rw [if_neg (by rw [← HE.out]; simp), if_pos (by rw [← HC.out]; exact hC0)]
        exact Lib.hid rfl
      have hte : (C != 0) = true := by rw [bne_iff_ne]; exact hC0
      have hte2 : (C == 0) = false := by rw [beq_eq_false_iff_ne]; exact hC0
      clear hC0
      go_wp2_with fail
      go_ret
      rw [HR.out]
      exact ⟨by rw [← HC.out]; rfl, V2, own2, H2.out, HO02.out, HK02.out⟩
  · have HR : Hid (Sg.create st id = (st, Sg.nameE id)) := by
      unfold Sg.create
      rw [if_pos (by rw [← HE.out]; exact hE0)]
      exact Lib.hid rfl
    have hte : (E != 0) = true := by rw [bne_iff_ne]; exact hE0
    have hte2 : (E == 0) = false := by rw [beq_eq_false_iff_ne]; exact hE0
    clear hE0
    go_wp2_with fail
    go_ret
    rw [HR.out]
    exact ⟨by rw [← HE.out]; rfl, OpPost.of H.out HB1.out⟩

set_option maxHeartbeats 1000000 in
set_option maxRecDepth 100000 in
theorem segAppend_any (base B : Nat) (st : Fs.St) (V : FsV) (own : Nat → Tag) (id k : Int) (pv : Value) (ls : List (List UInt8)) (w : World) (h : FsOK base B st V own w) (hE : SgEnv base w) (hbase : base ≤ w.heap.size) (hS : Fs.Small st)
    (hP : Prts w pv ls) (hl : ls.length ≤ 1000000000) (hs : ∀ l ∈ ls, l.length ≤ 1000000000) (hhow : (Fs.step st).2.1 ≤ 9223372036854775807) :
    Calls Tryd.prog 9 #[.pointer (some ⟨B, 0, none⟩), .int .i64 id, .int .i64 k, pv] w fun e w' => e = .returned (.int .i64 (Sg.append st id k ls.flatten).2) ∧ OpPost base B (Sg.append st id k ls.flatten).1 own w w' := by
  have H := Lib.hid h
  have hEE := Lib.hid hE
  have HS := Lib.hid hS
  have HP := Lib.hid hP
  obtain ⟨pa, pc, hpv⟩ := hP.form
  subst hpv
  clear h hE hS hP
  go_enter Tryd.func9, Tryd.ntmps9
  go_wp2_with fail
  refine (name_any id w base hEE.out).mono ?_
  rintro e w1 ⟨rfl, hb1⟩
  have H1 := Lib.hid (H.out.kept (kept_below hb1))
  have HB1 := Lib.hid hb1
  have HP1 := Lib.hid (HP.out.below hb1)
  obtain ⟨E, hE⟩ : ∃ E, E = Sg.nameE id := ⟨_, rfl⟩
  obtain ⟨sn, hsn⟩ : ∃ t : ByteArray, t = ⟨(Sg.nameB id).toArray⟩ := ⟨_, rfl⟩
  rw [← hsn, ← hE]
  have HN : Hid (sn.data.toList = Sg.nameB id) := by rw [hsn]; exact Lib.hid rfl
  have hsz : sn.size ≤ 25 := by rw [hsn]; exact nameSz id
  have HE := Lib.hid hE
  clear hE hsn hb1
  by_cases hE0 : E = 0
  · subst hE0
    go_wp2_with fail
    refine (encode_any k _ ls w1 HP1.out hl hs).mono ?_
    rintro e w2 ⟨hb2, hres⟩
    have HB2 := Lib.hid (HB1.out.trans (hb2.mono HB1.out.size))
    have H2 := Lib.hid (H.out.kept (kept_below HB2.out))
    have HB12 := Lib.hid hb2
    clear hb2
    rcases hres with ⟨hc0, v2, rfl, ho⟩ | ⟨hc0, rfl⟩
    · obtain ⟨g, c, hv2⟩ := row_form ho (by rw [Fr.bytes_len]; omega)
      subst hv2
      have HBY : Hid (BytesIn w2 own (.slice (some ⟨g, 0, none⟩) (Fr.bytes k ls.flatten).length c) (Fr.bytes k ls.flatten)) := by
        have hlt := ho.lt g rfl
        obtain ⟨_, c9, e9, hc9⟩ := ho.byts.form
        have hcap : (Fr.bytes k ls.flatten).length ≤ c := by simp only [Value.slice.injEq] at e9; omega
        refine Lib.hid ⟨g, 0, c, rfl, hcap, hlt.2, H1.out.fresh g hlt.1, fun i x hx => ?_⟩
        obtain ⟨b, off, e1, e2, e3⟩ := ho.byts.at hx
        cases e1
        exact e3
      have HLL : Hid ((Fr.bytes k ls.flatten).length ≤ 1000000) := by
        have h1 := hc0
        unfold Fr.encE at h1
        rw [Fr.bytes_len]
        split at h1
        · cases h1
        · split at h1
          · cases h1
          · exact Lib.hid (by omega)
      have HC := Lib.hid hc0
      obtain ⟨N, hN⟩ : ∃ N, N = (Fr.bytes k ls.flatten).length := ⟨_, rfl⟩
      rw [← hN] at HBY ⊢
      have HNN := Lib.hid hN
      clear hc0 ho hN
      go_wp2_with fail
      refine (append_any base B st V own sn _ (Fr.bytes k ls.flatten) w2 H2.out HBY.out (by omega) HS.out.file HLL.out (by have := HS.out.dir; omega) (by have := HS.out.files; omega) HS.out.room hhow (by have := HB2.out.size; omega)).mono ?_
      rintro e w3 ⟨rfl, hp3⟩
      rw [HN.out] at hp3 ⊢
      obtain ⟨V3, own3, h3, ho3, hk3⟩ := hp3
      have HK03 := Lib.hid ((kept_below (own := own) (T := (· ≠ .other)) HB2.out).trans hk3)
      have HO03 : Hid (∀ k, k < w.heap.size → own3 k = own k) := Lib.hid (fun k hk => ho3 k (Nat.lt_of_lt_of_le hk HB2.out.size))
      have H3 := Lib.hid h3
      clear h3 ho3 hk3
      obtain ⟨C, hC⟩ : ∃ C, C = (Fs.append st (Sg.nameB id) (Fr.bytes k ls.flatten)).2 := ⟨_, rfl⟩
      rw [← hC]
      have HCC := Lib.hid hC
      clear hC
      by_cases hC0 : C = 0
      · subst hC0
        have HR : Hid (Sg.append st id k ls.flatten = Fs.sync (Fs.append st (Sg.nameB id) (Fr.bytes k ls.flatten)).1 (Sg.nameB id)) := by
          unfold Sg.append
          rw [if_neg (by rw [← HE.out]; simp), if_neg (by rw [HC.out]; simp), if_neg (by rw [← HCC.out]; simp)]
          exact Lib.hid rfl
        go_wp2_with fail
        refine (sync_any base B _ V3 own3 sn w3 H3.out (by omega)).mono ?_
        rintro e w4 ⟨rfl, hp4⟩
        rw [HN.out, ← HR.out] at hp4
        rw [HN.out, ← HR.out]
        have HP4 := Lib.hid hp4
        clear hp4
        go_wp2_with fail
        go_ret
        exact ⟨rfl, OpPost.step HK03.out HO03.out HP4.out⟩
      · have HR : Hid (Sg.append st id k ls.flatten = Fs.append st (Sg.nameB id) (Fr.bytes k ls.flatten)) := by
          unfold Sg.append
          rw [if_neg (by rw [← HE.out]; simp), if_neg (by rw [HC.out]; simp), if_pos (by rw [← HCC.out]; exact hC0)]
          exact Lib.hid rfl
        have hte : (C != 0) = true := by rw [bne_iff_ne]; exact hC0
        have hte2 : (C == 0) = false := by rw [beq_eq_false_iff_ne]; exact hC0
        clear hC0
        go_wp2_with fail
        go_ret
        rw [HR.out]
        exact ⟨by rw [← HCC.out]; rfl, V3, own3, H3.out, HO03.out, HK03.out⟩
    · have HR : Hid (Sg.append st id k ls.flatten = (st, Fr.encE k ls.flatten)) := by
        unfold Sg.append
        rw [if_neg (by rw [← HE.out]; simp), if_pos hc0]
        exact Lib.hid rfl
      obtain ⟨C, hC⟩ : ∃ C, C = Fr.encE k ls.flatten := ⟨_, rfl⟩
      rw [← hC] at hc0 ⊢
      have HC := Lib.hid hC
      have hte : (C != 0) = true := by rw [bne_iff_ne]; exact hc0
      have hte2 : (C == 0) = false := by rw [beq_eq_false_iff_ne]; exact hc0
      clear hc0 hC
      go_wp2_with fail
      go_ret
      rw [HR.out]
      exact ⟨by rw [← HC.out]; rfl, OpPost.of H.out HB2.out⟩
  · have HR : Hid (Sg.append st id k ls.flatten = (st, Sg.nameE id)) := by
      unfold Sg.append
      rw [if_pos (by rw [← HE.out]; exact hE0)]
      exact Lib.hid rfl
    have hte : (E != 0) = true := by rw [bne_iff_ne]; exact hE0
    have hte2 : (E == 0) = false := by rw [beq_eq_false_iff_ne]; exact hE0
    clear hE0
    go_wp2_with fail
    go_ret
    rw [HR.out]
    exact ⟨by rw [← HE.out]; rfl, OpPost.of H.out HB1.out⟩
end Go.Proofs.YtcinagglbkbmkaaDoor
namespace Go.Proofs.YtcinagglbkbmkaaDoor
set_option linter.unusedSimpArgs false
set_option linter.unusedVariables false
open Go Go.RowKit
open Go.Maps Go.WideMaps

namespace Sg
abbrev En := Int × Fr.F
def badE : List Int → Int
  | [] => 0
  | id :: r => if nameE id ≠ 0 then nameE id else badE r
theorem badE_cons (id : Int) (r : List Int) : badE (id :: r) = if nameE id ≠ 0 then nameE id else badE r := rfl
def readGo (st : Fs.St) : List Int → List En → Bool → List En × Bool × Int
  | [], out, wh => (out, wh, 0)
  | id :: r, out, wh =>
    if Fs.openE st (nameB id) ≠ 0 then ([], false, Fs.openE st (nameB id))
    else readGo st r (out ++ (Fr.scan (Fs.fileAt st (nameB id))).1.map (fun f => (id, f))) (decide ((Fr.scan (Fs.fileAt st (nameB id))).2 = (Fs.fileAt st (nameB id)).length))
def read (st : Fs.St) (ids : List Int) : List En × Bool × Int := if badE ids ≠ 0 then ([], false, badE ids) else readGo st ids [] true
theorem readGo_cons (st : Fs.St) (id : Int) (r : List Int) (out : List En) (wh : Bool) : readGo st (id :: r) out wh =
    if Fs.openE st (nameB id) ≠ 0 then ([], false, Fs.openE st (nameB id))
    else readGo st r (out ++ (Fr.scan (Fs.fileAt st (nameB id))).1.map (fun f => (id, f))) (decide ((Fr.scan (Fs.fileAt st (nameB id))).2 = (Fs.fileAt st (nameB id)).length)) := rfl
end Sg
theorem Fr.scanGo_len : ∀ (k : Nat) (l : List UInt8) (out : List Fr.F) (a : Nat), (Fr.scanGo k l out a).1.length ≤ out.length + k
  | 0, _, out, _ => Nat.le_refl _
  | k + 1, l, out, a => by
    unfold Fr.scanGo
    split
    · show out.length ≤ _; omega
    · have := Fr.scanGo_len k (l.drop (9 + Fr.num l)) (out ++ [Fr.first l]) (a + (9 + Fr.num l))
      simp at this
      omega
theorem Fr.scan_len (l : List UInt8) : (Fr.scan l).1.length ≤ l.length + 1 := by
  have := Fr.scanGo_len (l.length + 1) l [] 0
  simpa [Fr.scan] using this
theorem FrAt.keep2 {w w' : World} {base : Nat} {v : Value} {ps : List (Fr.F × Value)} (h : FrAt w base v ps) (hk : ∀ k, base ≤ k → k < w.heap.size → w'.heap[k]? = w.heap[k]?) : FrAt w' base v ps :=
  ⟨row_kept h.row (fun g hg => hk g (h.row.lt g hg).1 (h.row.lt g hg).2), fun p hp => row_kept (h.pay p hp) (fun g hg => hk g ((h.pay p hp).lt g hg).1 ((h.pay p hp).lt g hg).2), h.apart⟩
theorem frCells_get : ∀ (ps : List (Fr.F × Value)) (i : Nat) (p : Fr.F × Value), ps[i]? = some p → (frCells ps)[i * 2]? = some (.int .i64 p.1.1) ∧ (frCells ps)[i * 2 + 1]? = some p.2
  | [], i, p, h => by simp at h
  | q :: ps, 0, p, h => by
    simp at h; subst h
    exact ⟨rfl, rfl⟩
  | q :: ps, i + 1, p, h => by
    have := frCells_get ps i p (by simpa using h)
    rw [show (i + 1) * 2 = i * 2 + 1 + 1 by omega]
    exact this
theorem FrAt.at {w : World} {base g n cap : Nat} {ps : List (Fr.F × Value)} (h : FrAt w base (.slice (some ⟨g, 0, none⟩) n cap) ps) {i : Nat} {p : Fr.F × Value} (hi : ps[i]? = some p) :
    w.cell? ⟨g, i * 2, none⟩ = some (.int .i64 p.1.1) ∧ w.cell? ⟨g, i * 2 + 1, none⟩ = some p.2 := by
  obtain ⟨h1, h2⟩ := frCells_get ps i p hi
  have c1 := World.ownsRow.cells h.row (g := g) rfl _ _ h1
  have c2 := World.ownsRow.cells h.row (g := g) rfl _ _ h2
  rw [addr_add] at c1 c2
  exact ⟨c1, c2⟩
/-- A slice of ints. -/
def Ints (w : World) (v : Value) (l : List Int) : Prop :=
  ∃ a cap, v = .slice a l.length cap ∧ ∀ (i : Nat) x, l[i]? = some x → ∃ b off, a = some ⟨b, off, none⟩ ∧ b < w.heap.size ∧ w.cell? ⟨b, off + i, none⟩ = some (.int .i64 x)
theorem Ints.form {w : World} {v : Value} {l : List Int} (h : Ints w v l) : ∃ a cap, v = .slice a l.length cap := by
  obtain ⟨a, cap, h1, _⟩ := h
  exact ⟨a, cap, h1⟩
theorem Ints.at {w : World} {a : Option Addr} {n cap : Nat} {l : List Int} (h : Ints w (.slice a n cap) l) {i : Nat} {x : Int} (hi : l[i]? = some x) :
    ∃ b off, a = some ⟨b, off, none⟩ ∧ b < w.heap.size ∧ w.cell? ⟨b, off + i, none⟩ = some (.int .i64 x) := by
  obtain ⟨a', cap', h1, h2⟩ := h
  obtain ⟨b, off, e, h3, h4⟩ := h2 i x hi
  simp only [Value.slice.injEq] at h1
  exact ⟨b, off, by rw [h1.1, e], h3, h4⟩
theorem Ints.below {w w' : World} {v : Value} {l : List Int} (h : Ints w v l) (hb : Below w.heap.size w w') : Ints w' v l := by
  obtain ⟨a, cap, h1, h3⟩ := h
  refine ⟨a, cap, h1, fun i x hi => ?_⟩
  obtain ⟨b, off, e, h4, h5⟩ := h3 i x hi
  exact ⟨b, off, e, Nat.lt_of_lt_of_le h4 hb.size, by rw [World.cell?_of_block (hb.block b h4)]; exact h5⟩

def enCells (ps : List (Sg.En × Value)) : List Value := ps.flatMap fun p => [.int .i64 p.1.1, .int .i64 p.1.2.1, p.2]
/-- Entries in memory of the call's own. -/
structure EnAt (w : World) (base : Nat) (v : Value) (ps : List (Sg.En × Value)) : Prop where
  row : w.ownsRow base 51 3 v ps.length (enCells ps)
  pay : ∀ p ∈ ps, OwnB w base p.2 p.1.2.2
  apart : ∀ p ∈ ps, ∀ g, p.2.ownBlock = some g → v.ownBlock ≠ some g
theorem EnAt.keep {w w' : World} {base : Nat} {v : Value} {ps : List (Sg.En × Value)} (h : EnAt w base v ps) (hb : Below w.heap.size w w') : EnAt w' base v ps :=
  ⟨row_kept h.row (fun g hg => hb.block g (h.row.lt g hg).2), fun p hp => (h.pay p hp).keep hb, h.apart⟩
theorem EnAt.nil (w : World) (base : Nat) : EnAt w base (.slice none 0 0) [] := ⟨World.ownsRow_nil _ _ _ _, fun p h => by simp at h, fun p h => by simp at h⟩
theorem infoE : (Tryd.prog.info? 51).map (fun i => (i.zero, i.size, i.bytes)) = some (some (.agg #[.int .i64 0, .int .i64 0, .slice none 0 0]), 3, 40) := by kernel_rfl
/-- One entry more. -/
theorem EnAt.more {w w5 : World} {base : Nat} {v v' x : Value} {ps : List (Sg.En × Value)} {f : Sg.En} (h : EnAt w base v ps) (hx : OwnB w base x f.2.2) (hne : ∀ g, x.ownBlock = some g → v.ownBlock ≠ some g)
    (hrow : w5.ownsRow base 51 3 v' (ps.length + 1) (enCells ps ++ [.int .i64 f.1, .int .i64 f.2.1, x])) (hg : w.grownBy w5 v.ownBlock) (hloc : v'.ownBlock = v.ownBlock ∨ v'.ownBlock = some w.heap.size) :
    EnAt w5 base v' (ps ++ [(f, x)]) := by
  have hk : ∀ (y : Value) (l : List UInt8), OwnB w base y l → (∀ g, y.ownBlock = some g → v.ownBlock ≠ some g) → OwnB w5 base y l ∧ (∀ g, y.ownBlock = some g → v'.ownBlock ≠ some g) := fun y l hy hn =>
    ⟨row_kept hy (fun g hg2 => hg.block g (hy.lt g hg2).2 (fun e => hn g hg2 e.symm)), fun g hg2 => by
      rcases hloc with e | e
      · rw [e]; exact hn g hg2
      · rw [e]
        intro e2
        have := (hy.lt g hg2).2
        simp at e2
        omega⟩
  refine ⟨?_, fun p hp => ?_, fun p hp => ?_⟩
  · rw [List.length_append]
    unfold enCells at hrow ⊢
    rw [List.flatMap_append]
    exact hrow
  · rcases List.mem_append.1 hp with hp | hp
    · exact (hk p.2 p.1.2.2 (h.pay p hp) (h.apart p hp)).1
    · simp at hp; subst hp; exact (hk x f.2.2 hx hne).1
  · rcases List.mem_append.1 hp with hp | hp
    · exact (hk p.2 p.1.2.2 (h.pay p hp) (h.apart p hp)).2
    · simp at hp; subst hp; exact (hk x f.2.2 hx hne).2
/-- What 'Read' leaves. -/
def SegReadPost (st : Fs.St) (ids : List Int) (w : World) (e : Ending) (w' : World) : Prop :=
  Below w.heap.size w w' ∧ ∃ v ps, e = .returned (.tuple #[v, .bool (Sg.read st ids).2.1, .int .i64 (Sg.read st ids).2.2]) ∧ EnAt w' w.heap.size v ps ∧ ps.map (·.1) = (Sg.read st ids).1

set_option maxHeartbeats 1000000 in
set_option maxRecDepth 100000 in
theorem segRead_any (base B : Nat) (st : Fs.St) (V : FsV) (own : Nat → Tag) (iv : Value) (ids : List Int) (w : World) (h : FsOK base B st V own w) (hE : SgEnv base w) (hbase : base ≤ w.heap.size) (hS : Fs.Small st)
    (hI : Ints w iv ids) (hn : ids.length ≤ 1000) :
    Calls Tryd.prog 11 #[.pointer (some ⟨B, 0, none⟩), iv] w (SegReadPost st ids w) := by
  obtain ⟨ia, ic, rfl⟩ := hI.form
  have H := Lib.hid h
  have hEE := Lib.hid hE
  have HS := Lib.hid hS
  have HI := Lib.hid hI
  clear h hE hS hI
  go_enter Tryd.func11, Tryd.ntmps11
  go_wp2_with fail
  go_loopg [25] ids.length (fun k s25 wr => ∃ j : Nat, j ≤ ids.length ∧ k = ids.length - j ∧ s25 = .int .i64 (j : Nat) ∧ Below w.heap.size w wr ∧ Sg.badE (ids.drop j) = Sg.badE ids)
  case atStart => exact ⟨0, Nat.zero_le _, rfl, rfl, Below.refl _ _, rfl⟩
  case round =>
    obtain ⟨j, hj, hk, rfl, hB, hbad⟩ := hrel
    have HK := Lib.hid hk
    have HB := Lib.hid hB
    have HBAD := Lib.hid hbad
    clear hk hB hbad
    have hj0 : (0 : Int) ≤ (j : Int) := Int.natCast_nonneg _
    by_cases hjn : j < ids.length
    · have hjn1 : (j : Int) < (ids.length : Int) := by omega
      obtain ⟨id, hid⟩ : ∃ x, ids[j]? = some x := ⟨_, List.getElem?_eq_getElem hjn⟩
      obtain ⟨g, o, rfl, hg, hc⟩ := (HI.out.below HB.out).at hid
      have HD : Hid (ids.drop j = id :: ids.drop (j + 1)) := by
        obtain ⟨h1, h2⟩ := List.getElem?_eq_some_iff.1 hid
        rw [List.drop_eq_getElem_cons h1, h2]
        exact Lib.hid rfl
      clear hid
      go_wp2_with fail
      refine (name_any id wr base (hEE.out.below (HB.out.mono hbase))).mono ?_
      rintro e w1 ⟨rfl, hb1⟩
      have HB1 := Lib.hid (HB.out.trans (hb1.mono HB.out.size))
      obtain ⟨E, hE⟩ : ∃ E, E = Sg.nameE id := ⟨_, rfl⟩
      obtain ⟨sn, hsn⟩ : ∃ t : ByteArray, t = ⟨(Sg.nameB id).toArray⟩ := ⟨_, rfl⟩
      rw [← hsn, ← hE]
      have HE := Lib.hid hE
      clear hE hsn hb1
      by_cases hE0 : E = 0
      · subst hE0
        go_wp2_with fail
        go_roundg (ids.length - (j + 1))
        case measure => rw [HK.out]; omega
        case rel => exact ⟨j + 1, by omega, rfl, by simp, HB1.out, by rw [← HBAD.out, HD.out]; rw [Sg.badE_cons, if_neg (by rw [← HE.out]; simp)]⟩
      · have HR : Hid (Sg.read st ids = ([], false, E)) := by
          have h1 : Sg.badE ids = E := by
            rw [← HBAD.out, HD.out]
            rw [Sg.badE_cons, if_pos (by rw [← HE.out]; exact hE0), HE.out]
          unfold Sg.read
          rw [h1, if_pos hE0]
          exact Lib.hid rfl
        have hte : (E != 0) = true := by rw [bne_iff_ne]; exact hE0
        have hte2 : (E == 0) = false := by rw [beq_eq_false_iff_ne]; exact hE0
        clear hE0
        go_wp2_with fail
        refine bodyPost_ret (v := .tuple #[.slice none 0 0, .bool false, .int .i64 E]) (by simp [results, Tryd.results11, go_sem]) rfl ?_
        exact ⟨HB1.out, _, [], by rw [HR.out], EnAt.nil _ _, by rw [HR.out]; rfl⟩
    · have hjn1 : (ids.length : Int) ≤ (j : Int) := by omega
      have HOK : Hid (Sg.badE ids = 0) := by
        rw [← HBAD.out, List.drop_eq_nil_of_le (by omega)]
        exact Lib.hid rfl
      have HRD : Hid (Sg.read st ids = Sg.readGo st ids [] true) := by
        unfold Sg.read
        rw [if_neg (by rw [HOK.out]; simp)]
        exact Lib.hid rfl
      go_wp2_with fail
      go_loopg [11, 12, 40] ids.length (fun k s11 s12 s40 wq => ∃ (i : Nat) (ps : List (Sg.En × Value)) (wh : Bool), i ≤ ids.length ∧ k = ids.length - i ∧ s40 = .int .i64 (i : Nat) ∧ s12 = .bool wh ∧ EnAt wq w.heap.size s11 ps ∧ Sg.readGo st (ids.drop i) (ps.map (·.1)) wh = Sg.read st ids ∧ Below w.heap.size w wq ∧ ps.length ≤ i * 70000)
      case atStart => exact ⟨0, [], true, Nat.zero_le _, rfl, rfl, rfl, EnAt.nil _ _, by rw [HRD.out]; rfl, HB.out, Nat.le_refl _⟩
      case round =>
        obtain ⟨i, ps, wh, hi, hk, rfl, rfl, hEN, hgo, hbq, hpl⟩ := hrel
        have HK2 := Lib.hid hk
        have HEN := Lib.hid hEN
        have HGO := Lib.hid hgo
        have HBQ := Lib.hid hbq
        have HPL := Lib.hid hpl
        clear hk hEN hgo hbq hpl
        have hi0 : (0 : Int) ≤ (i : Int) := Int.natCast_nonneg _
        by_cases hin : i < ids.length
        · have hin1 : (i : Int) < (ids.length : Int) := by omega
          obtain ⟨id, hid⟩ : ∃ x, ids[i]? = some x := ⟨_, List.getElem?_eq_getElem hin⟩
          obtain ⟨g, o, rfl, hg, hc⟩ := (HI.out.below HBQ.out).at hid
          have HD : Hid (ids.drop i = id :: ids.drop (i + 1)) := by
            obtain ⟨h1, h2⟩ := List.getElem?_eq_some_iff.1 hid
            rw [List.drop_eq_getElem_cons h1, h2]
            exact Lib.hid rfl
          have HCO : Hid (Sg.read st ids = if Fs.openE st (Sg.nameB id) ≠ 0 then ([], false, Fs.openE st (Sg.nameB id))
              else Sg.readGo st (ids.drop (i + 1)) (ps.map (·.1) ++ (Fr.scan (Fs.fileAt st (Sg.nameB id))).1.map (fun f => (id, f))) (decide ((Fr.scan (Fs.fileAt st (Sg.nameB id))).2 = (Fs.fileAt st (Sg.nameB id)).length))) := by
            rw [← HGO.out, HD.out, Sg.readGo_cons]
            exact Lib.hid rfl
          clear hid
          go_wp2_with fail
          refine (name_any id wr base (hEE.out.below (HBQ.out.mono hbase))).mono ?_
          rintro e w1 ⟨rfl, hb1⟩
          have HB1 := Lib.hid (HBQ.out.trans (hb1.mono HBQ.out.size))
          have HEN1 := Lib.hid (HEN.out.keep hb1)
          obtain ⟨sn, hsn⟩ : ∃ t : ByteArray, t = ⟨(Sg.nameB id).toArray⟩ := ⟨_, rfl⟩
          rw [← hsn]
          have HN : Hid (sn.data.toList = Sg.nameB id) := by rw [hsn]; exact Lib.hid rfl
          have hsz : sn.size ≤ 25 := by rw [hsn]; exact nameSz id
          clear hsn hb1
          go_wp2_with fail
          refine (read_any base B st V own sn w1 (H.out.kept (kept_below HB1.out)) (by omega) (fun f hf => by have := HS.out.file f hf; omega)).mono ?_
          rintro e w2 ⟨hb2, hres⟩
          have HB2 := Lib.hid (HB1.out.trans (hb2.mono HB1.out.size))
          have HEN2 := Lib.hid (HEN1.out.keep hb2)
          have hsz12 := hb2.size
          rw [HN.out] at hres
          clear hb2
          rcases hres with ⟨h0, f, v2, hf, rfl, ho2⟩ | ⟨h0, rfl⟩
          · have HFA : Hid (Fs.fileAt st (Sg.nameB id) = f.1) := by unfold Fs.fileAt; rw [hf]; exact Lib.hid rfl
            have hfl := HS.out.file f (List.mem_of_getElem? hf)
            have HBY := Lib.hid ho2.byts
            have HO2 := Lib.hid ho2
            have HO0 := Lib.hid h0
            obtain ⟨da, dn, dc, hv2, HDN⟩ := OwnB.form3 ho2
            subst hv2
            clear hf h0 ho2
            go_wp2_with fail
            refine (scan_any _ f.1 w2 HBY.out (by omega)).mono ?_
            rintro e w3 ⟨hb3, lv, qs, rfl, hF, hqs⟩
            have HB3 := Lib.hid (HB2.out.trans (hb3.mono HB2.out.size))
            have HEN3 := Lib.hid (HEN2.out.keep hb3)
            have HF := Lib.hid hF
            have HQS := Lib.hid hqs
            have hsz23 := hb3.size
            have hql : qs.length ≤ 65537 := by
              have h1 := congrArg List.length hqs
              rw [List.length_map] at h1
              have h2 := Fr.scan_len f.1
              omega
            obtain ⟨NN, hNN⟩ : ∃ NN, NN = (Fr.scan f.1).2 := ⟨_, rfl⟩
            rw [← hNN]
            have HNN := Lib.hid hNN
            obtain ⟨lva, lvc, hlv⟩ := row_any hF.row
            subst hlv
            have HBL : Hid (∀ g, u11.ownBlock = some g → g < w2.heap.size) := Lib.hid (fun g hg => (HEN2.out.row.lt g hg).2)
            clear hb3 hF hqs hNN
            go_wp2_with fail
            go_loopg [11, 65] qs.length (fun k s11 s65 wi => ∃ (m : Nat) (ps' : List (Sg.En × Value)), m ≤ qs.length ∧ k = qs.length - m ∧ s65 = .int .i64 (m : Nat) ∧ EnAt wi w.heap.size s11 ps' ∧ ps'.map (·.1) = ps.map (·.1) ++ (qs.take m).map (fun q => (id, q.1)) ∧ ps'.length = ps.length + m ∧
              (∀ g, s11.ownBlock = some g → g < w2.heap.size ∨ w3.heap.size ≤ g) ∧ (∀ k, w2.heap.size ≤ k → k < w3.heap.size → wi.heap[k]? = w3.heap[k]?) ∧ w3.heap.size ≤ wi.heap.size ∧ Below w.heap.size w wi)
            case atStart => exact ⟨0, ps, Nat.zero_le _, rfl, rfl, HEN3.out, by simp, rfl, fun g hg => .inl (HBL.out g hg), fun _ _ _ => rfl, Nat.le_refl _, HB3.out⟩
            case round =>
              obtain ⟨m, ps', hm, hk, rfl, hEN', hmap, hlen', hblk, hmid, hsz3, hbi⟩ := hrel
              have HK3 := Lib.hid hk
              have HEN' := Lib.hid hEN'
              have HMAP := Lib.hid hmap
              have HLEN' := Lib.hid hlen'
              have HBLK := Lib.hid hblk
              have HMID := Lib.hid hmid
              have HBI := Lib.hid hbi
              clear hk hEN' hmap hlen' hblk hmid hbi
              have hm0 : (0 : Int) ≤ (m : Int) := Int.natCast_nonneg _
              by_cases hmn : m < qs.length
              · have hmn1 : (m : Int) < (qs.length : Int) := by omega
                obtain ⟨⟨⟨kd, pl⟩, pv⟩, hq⟩ : ∃ q, qs[m]? = some q := ⟨_, List.getElem?_eq_getElem hmn⟩
                obtain ⟨g2, c2, hlv⟩ := row_form HF.out.row (by omega)
                simp only [Value.slice.injEq] at hlv
                obtain ⟨hlv1, _, hlv2⟩ := hlv
                subst hlv1 hlv2
                have HFI := Lib.hid (HF.out.keep2 HMID.out)
                obtain ⟨hc0, hc1⟩ := HFI.out.at hq
                have hpay := HFI.out.pay _ (List.mem_of_getElem? hq)
                have hpay3 := HF.out.pay _ (List.mem_of_getElem? hq)
                obtain ⟨pa, pn, pc, hpv, HPN⟩ := OwnB.form3 hpay
                simp only at hpv hc0 hc1 hpay hpay3
                subst hpv
                have HPAY := Lib.hid hpay
                have HPAY3 := Lib.hid hpay3
                have HTK : Hid ((qs.take (m + 1)).map (fun q => (id, q.1)) = (qs.take m).map (fun q => (id, q.1)) ++ [(id, kd, pl)]) := by
                  rw [List.take_add_one, hq, List.map_append]
                  exact Lib.hid rfl
                have hg2 : g2 < wr.heap.size := by have := (HF.out.row.lt g2 rfl).2; omega
                obtain ⟨i0, hi', hz0, hz1, hz2⟩ := info_parts infoE
                have hpl : ps'.length ≤ 1000000000 := by have := HLEN'.out; have := HPL.out; omega
                have hbW : Below wr.heap.size wr ((wr.alloc (.cells #[.int .i64 kd, .slice pa pn pc] 49)).alloc (.cells #[.int .i64 id, .int .i64 kd, .slice pa pn pc] 51)) := ((Below.refl _ _).alloc (Nat.le_refl _) _).alloc (by simp) _
                have HENW := Lib.hid (HEN'.out.keep hbW)
                have HPW := Lib.hid ((HPAY.out.keep hbW).mono HB2.out.size)
                have HBW := Lib.hid (HBI.out.trans (hbW.mono HBI.out.size))
                have hbase' := HBW.out.size
                have HCN : Hid (∀ (j : Nat) u, [Value.int .i64 id, Value.int .i64 kd, Value.slice pa pn pc][j]? = some u → ((wr.alloc (.cells #[.int .i64 kd, .slice pa pn pc] 49)).alloc (.cells #[.int .i64 id, .int .i64 kd, .slice pa pn pc] 51)).cell? ((⟨wr.heap.size + 1, 0, none⟩ : Addr).add j) = some u) := by
                  refine Lib.hid fun j u hj => ?_
                  rw [addr_add]
                  have := cell_new (wr.alloc (.cells #[.int .i64 kd, .slice pa pn pc] 49)) #[.int .i64 id, .int .i64 kd, .slice pa pn pc] 51 j u (by simpa using hj)
                  rw [show (wr.alloc (.cells #[.int .i64 kd, .slice pa pn pc] 49)).heap.size = wr.heap.size + 1 by simp] at this
                  exact this
                have HONE : Hid (∀ u ∈ [Value.int .i64 id, Value.int .i64 kd, Value.slice pa pn pc], u.oneCell' = true) := Lib.hid (fun u hu => by simp at hu; rcases hu with rfl | rfl | rfl <;> rfl)
                have HAP : Hid (∀ g, (Value.slice pa pn pc).ownBlock = some g → u11.ownBlock ≠ some g) := Lib.hid (fun g hg e => by
                  have h1 := HPAY3.out.lt g hg
                  have h2 := HBLK.out g e
                  omega)
                have HSZ : Hid (∀ k, k < w3.heap.size → ((wr.alloc (.cells #[.int .i64 kd, .slice pa pn pc] 49)).alloc (.cells #[.int .i64 id, .int .i64 kd, .slice pa pn pc] 51)).heap[k]? = wr.heap[k]?) := Lib.hid (fun k hk => hbW.block k (by omega))
                have HWS : Hid (wr.heap.size + 2 = ((wr.alloc (.cells #[.int .i64 kd, .slice pa pn pc] 49)).alloc (.cells #[.int .i64 id, .int .i64 kd, .slice pa pn pc] 51)).heap.size) := Lib.hid (by simp)
                clear hbW hpay hpay3 hq
                go_wp2_with (first | (at_builtin; refine wpList_append_own_at _ rfl _ _ 45 rfl w.heap.size 51 i0 _ 3 40 Tryd.underlying45 hi' hz0 hz1 hz2 rfl (by decide) u11 ps'.length (enCells ps') rfl HENW.out.row ⟨wr.heap.size + 1, 0, none⟩ 1 1 [.int .i64 id, .int .i64 kd, .slice pa pn pc] rfl rfl HCN.out HONE.out (by unfold maxLen; omega) (by omega) hbase' ?_; intro d' w5 hown5 hgrow5 hnil5 hloc5; clear hnil5; have HNEW := Lib.hid (EnAt.more (f := (id, kd, pl)) HENW.out HPW.out HAP.out hown5 hgrow5 hloc5); have HB5 := Lib.hid (below_grown HBW.out hbase' HENW.out.row hgrow5); have HG5 := Lib.hid hgrow5; have HL5 := Lib.hid hloc5; clear hloc5 hown5 hgrow5) | fail)
                go_roundg (qs.length - (m + 1))
                case measure => rw [HK3.out]; omega
                case rel =>
                  have hws := HWS.out
                  have hg5s := HG5.out.size
                  refine ⟨m + 1, _, by omega, rfl, by simp, HNEW.out, by rw [List.map_append, HMAP.out, HTK.out, List.append_assoc]; rfl, by rw [List.length_append, HLEN'.out]; simp; omega, fun g hg => ?_, fun k hk1 hk2 => ?_, by omega, HB5.out⟩
                  · rcases HL5.out with e | e
                    · rw [e] at hg; exact HBLK.out g hg
                    · rw [e] at hg
                      simp only [Option.some.injEq] at hg
                      omega
                  · rw [HG5.out.block k (by omega) (fun e => by have := HBLK.out k e.symm; omega), HSZ.out k hk2]
                    exact HMID.out k hk1 hk2
              · have hmn1 : (qs.length : Int) ≤ (m : Int) := by omega
                have HTK : Hid (qs.take m = qs) := Lib.hid (List.take_of_length_le (by omega))
                go_wp2_with fail
                go_roundg (ids.length - (i + 1))
                case measure => rw [HK2.out]; omega
                case rel =>
                  refine ⟨i + 1, ps', decide ((Fr.scan (Fs.fileAt st (Sg.nameB id))).2 = (Fs.fileAt st (Sg.nameB id)).length), by omega, rfl, by simp, ?_, HEN'.out, ?_, HBI.out, by have := HLEN'.out; have := HPL.out; omega⟩
                  · rw [HFA.out, ← HNN.out, ← HDN.out]
                    congr 1
                    rw [Bool.eq_iff_iff, beq_iff_eq, decide_eq_true_iff]
                    omega
                  · rw [HCO.out, if_neg (by rw [HO0.out]; simp), HMAP.out, HTK.out, HFA.out, ← HQS.out, List.map_map]
                    rfl
          · have HR : Hid (Sg.read st ids = ([], false, Fs.openE st (Sg.nameB id))) := by
              rw [HCO.out, if_pos h0]
              exact Lib.hid rfl
            obtain ⟨C, hC⟩ : ∃ C, C = Fs.openE st (Sg.nameB id) := ⟨_, rfl⟩
            rw [← hC] at h0 ⊢
            have HC := Lib.hid hC
            have hte : (C != 0) = true := by rw [bne_iff_ne]; exact h0
            have hte2 : (C == 0) = false := by rw [beq_eq_false_iff_ne]; exact h0
            clear h0 hC
            go_wp2_with fail
            refine bodyPost_ret (v := .tuple #[.slice none 0 0, .bool false, .int .i64 C]) (by simp [results, Tryd.results11, go_sem]) rfl ?_
            exact ⟨HB2.out, _, [], by rw [HR.out, ← HC.out], EnAt.nil _ _, by rw [HR.out]; rfl⟩
        · have hin1 : (ids.length : Int) ≤ (i : Int) := by omega
          have HEND : Hid (Sg.read st ids = (ps.map (·.1), wh, 0)) := by
            rw [← HGO.out, List.drop_eq_nil_of_le (by omega)]
            exact Lib.hid rfl
          go_wp2_with fail
          refine bodyPost_ret (v := .tuple #[u11, .bool wh, .int .i64 0]) (by simp [results, Tryd.results11, go_sem]) rfl ?_
          exact ⟨HBQ.out, u11, ps, by rw [HEND.out], HEN.out, by rw [HEND.out]⟩
end Go.Proofs.YtcinagglbkbmkaaDoor
