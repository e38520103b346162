/-
  The file system: List, by the library's contracts on sorted keys. Manifests: steps one behind the other ('first'), walked. Manifests: Save, walked. Manifests: Save, walked (whole). 'ManifestLast': what holds from round to round (plain).
-/
import Derived.Shelf.SlIter.Nil
import Derived.Shelf.SortM.Plain
import Derived.Shelf.SortM.SortNone
import Derived.Sort.KeysCollected
import Derived.Test.YtcinagglbkbmkaaGreatDoorZl9
import Derived.Lib.SlicesS
namespace Go.Proofs.YtcinagglbkbmkaaGreatDoor
set_option linter.unusedSimpArgs false
set_option linter.unusedVariables false
open Go Go.RowKit
open Go.Maps Go.Sort Go.Shelf

def keysM_ren : Go.Shelf.Ren := ⟨fun | 7 => 87 | 10 => 135 | n => n, fun | 23 => 56 | 26 => 9 | 3 => 3 | 28 => 168 | 0 => 0 | 27 => 167 | 33 => 226 | 4 => 4 | n => n, fun n => n⟩
theorem keysM_lays : Go.Proofs.SlLaysZ.n7 Tryz.prog keysM_ren := {
  mixed := by kernel_rfl
  f7 := ⟨Tryz.f87.name, by decide, Tryz.func87.trans (congrArg some (by kernel_rfl))⟩
  f10 := ⟨Tryz.f135.name, by decide, Tryz.func135.trans (congrArg some (by kernel_rfl))⟩
  t0 := Tryz.underlying0
  a0 := Tryz.isAgg0
  z0 := Tryz.sizeOf0
  v0 := Tryz.zeroValue0
  t4 := Tryz.underlying4
  a4 := Tryz.isAgg4
  z4 := Tryz.sizeOf4
  v4 := Tryz.zeroValue4
  t23 := Tryz.underlying56
  a23 := Tryz.isAgg56
  z23 := Tryz.sizeOf56
  v23 := Tryz.zeroValue56
  t26 := Tryz.underlying9
  a26 := Tryz.isAgg9
  z26 := Tryz.sizeOf9
  v26 := Tryz.zeroValue9
  t27 := Tryz.underlying167
  a27 := Tryz.isAgg167
  z27 := Tryz.sizeOf167
  v27 := Tryz.zeroValue167
  t28 := Tryz.underlying168
  a28 := Tryz.isAgg168
  z28 := Tryz.sizeOf168
  v28 := Tryz.zeroValue168
  t33 := Tryz.underlying226
  a33 := Tryz.isAgg226
  z33 := Tryz.sizeOf226
  v33 := Tryz.zeroValue226 }
def sortedS_ren : Go.Shelf.Ren := ⟨fun | 6 => 86 | 8 => 133 | 9 => 134 | 11 => 165 | 13 => 167 | 12 => 166 | 23 => 193 | 24 => 194 | 14 => 184 | 15 => 185 | 16 => 186 | 17 => 187 | 18 => 188 | 19 => 189 | 20 => 190 | 21 => 191 | 22 => 192 | 25 => 210 | 26 => 211 | 27 => 212 | 28 => 213 | 29 => 214 | 30 => 215 | 31 => 228 | n => n, fun | 26 => 9 | 28 => 168 | 24 => 42 | 0 => 0 | 3 => 3 | 37 => 61 | 48 => 214 | 50 => 270 | 4 => 4 | 40 => 286 | 39 => 285 | 45 => 150 | 5 => 5 | 9 => 9 | 51 => 304 | 55 => 308 | 57 => 321 | 58 => 233 | 33 => 226 | n => n, fun n => n⟩
theorem sortedS_lays : Go.Proofs.SlLaysZ.n6 Tryz.prog sortedS_ren := {
  mixed := by kernel_rfl
  f6 := ⟨Tryz.f86.name, by decide, Tryz.func86.trans (congrArg some (by kernel_rfl))⟩
  f8 := ⟨Tryz.f133.name, by decide, Tryz.func133.trans (congrArg some (by kernel_rfl))⟩
  f11 := ⟨Tryz.f165.name, by decide, Tryz.func165.trans (congrArg some (by kernel_rfl))⟩
  t0 := Tryz.underlying0
  a0 := Tryz.isAgg0
  z0 := Tryz.sizeOf0
  v0 := Tryz.zeroValue0
  t24 := Tryz.underlying42
  a24 := Tryz.isAgg42
  z24 := Tryz.sizeOf42
  v24 := Tryz.zeroValue42
  t26 := Tryz.underlying9
  a26 := Tryz.isAgg9
  z26 := Tryz.sizeOf9
  v26 := Tryz.zeroValue9
  t28 := Tryz.underlying168
  a28 := Tryz.isAgg168
  z28 := Tryz.sizeOf168
  v28 := Tryz.zeroValue168
  i26 := by kernel_rfl }
def sortS_ren : Go.Shelf.Ren := ⟨fun | 6 => 134 | 8 => 167 | 9 => 166 | 19 => 193 | 20 => 194 | 21 => 184 | 22 => 185 | 23 => 186 | 24 => 187 | 25 => 188 | 26 => 189 | 27 => 190 | 28 => 191 | 29 => 192 | 36 => 210 | 31 => 211 | 32 => 212 | 37 => 213 | 38 => 214 | 39 => 215 | 41 => 228 | n => n, fun | 27 => 42 | 29 => 9 | 3 => 3 | 32 => 61 | 26 => 42 | 0 => 0 | 44 => 214 | 46 => 270 | 4 => 4 | 36 => 286 | 35 => 285 | 41 => 150 | 5 => 5 | 9 => 9 | 53 => 304 | 57 => 308 | 63 => 321 | 64 => 233 | n => n, fun n => n⟩
theorem sortS_lays : Go.Proofs.SlLaysM.n6 Tryz.prog sortS_ren := {
  mixed := by kernel_rfl
  f6 := ⟨Tryz.f134.name, by decide, Tryz.func134.trans (congrArg some (by kernel_rfl))⟩
  f8 := Tryz.func167.trans (congrArg some (by kernel_rfl))
  f9 := ⟨Tryz.f166.name, by decide, Tryz.func166.trans (congrArg some (by kernel_rfl))⟩
  f19 := Tryz.func193.trans (congrArg some (by kernel_rfl))
  f20 := Tryz.func194.trans (congrArg some (by kernel_rfl))
  f21 := ⟨Tryz.f184.name, by decide, Tryz.func184.trans (congrArg some (by kernel_rfl))⟩
  f22 := ⟨Tryz.f185.name, by decide, Tryz.func185.trans (congrArg some (by kernel_rfl))⟩
  f23 := ⟨Tryz.f186.name, by decide, Tryz.func186.trans (congrArg some (by kernel_rfl))⟩
  f24 := ⟨Tryz.f187.name, by decide, Tryz.func187.trans (congrArg some (by kernel_rfl))⟩
  f25 := ⟨Tryz.f188.name, by decide, Tryz.func188.trans (congrArg some (by kernel_rfl))⟩
  f26 := ⟨Tryz.f189.name, by decide, Tryz.func189.trans (congrArg some (by kernel_rfl))⟩
  f27 := ⟨Tryz.f190.name, by decide, Tryz.func190.trans (congrArg some (by kernel_rfl))⟩
  f28 := ⟨Tryz.f191.name, by decide, Tryz.func191.trans (congrArg some (by kernel_rfl))⟩
  f29 := ⟨Tryz.f192.name, by decide, Tryz.func192.trans (congrArg some (by kernel_rfl))⟩
  f31 := Tryz.func211.trans (congrArg some (by kernel_rfl))
  f32 := Tryz.func212.trans (congrArg some (by kernel_rfl))
  f36 := ⟨Tryz.f210.name, by decide, Tryz.func210.trans (congrArg some (by kernel_rfl))⟩
  f37 := ⟨Tryz.f213.name, by decide, Tryz.func213.trans (congrArg some (by kernel_rfl))⟩
  f38 := ⟨Tryz.f214.name, by decide, Tryz.func214.trans (congrArg some (by kernel_rfl))⟩
  f39 := ⟨Tryz.f215.name, by decide, Tryz.func215.trans (congrArg some (by kernel_rfl))⟩
  f41 := ⟨Tryz.f228.name, by decide, Tryz.func228.trans (congrArg some (by kernel_rfl))⟩
  t0 := Tryz.underlying0
  a0 := Tryz.isAgg0
  z0 := Tryz.sizeOf0
  v0 := Tryz.zeroValue0
  t3 := Tryz.underlying3
  a3 := Tryz.isAgg3
  z3 := Tryz.sizeOf3
  v3 := Tryz.zeroValue3
  t4 := Tryz.underlying4
  a4 := Tryz.isAgg4
  z4 := Tryz.sizeOf4
  v4 := Tryz.zeroValue4
  t5 := Tryz.underlying5
  a5 := Tryz.isAgg5
  z5 := Tryz.sizeOf5
  v5 := Tryz.zeroValue5
  t9 := Tryz.underlying9
  a9 := Tryz.isAgg9
  z9 := Tryz.sizeOf9
  v9 := Tryz.zeroValue9
  t26 := Tryz.underlying42
  a26 := Tryz.isAgg42
  z26 := Tryz.sizeOf42
  v26 := Tryz.zeroValue42
  t27 := Tryz.underlying42
  a27 := Tryz.isAgg42
  z27 := Tryz.sizeOf42
  v27 := Tryz.zeroValue42
  t29 := Tryz.underlying9
  a29 := Tryz.isAgg9
  z29 := Tryz.sizeOf9
  v29 := Tryz.zeroValue9
  t32 := Tryz.underlying61
  a32 := Tryz.isAgg61
  z32 := Tryz.sizeOf61
  v32 := Tryz.zeroValue61
  t35 := Tryz.underlying285
  a35 := Tryz.isAgg285
  z35 := Tryz.sizeOf285
  v35 := Tryz.zeroValue285
  t36 := Tryz.underlying286
  a36 := Tryz.isAgg286
  z36 := Tryz.sizeOf286
  v36 := Tryz.zeroValue286
  t41 := Tryz.underlying150
  a41 := Tryz.isAgg150
  z41 := Tryz.sizeOf150
  v41 := Tryz.zeroValue150
  t44 := Tryz.underlying214
  a44 := Tryz.isAgg214
  z44 := Tryz.sizeOf214
  v44 := Tryz.zeroValue214
  t46 := Tryz.underlying270
  a46 := Tryz.isAgg270
  z46 := Tryz.sizeOf270
  v46 := Tryz.zeroValue270
  t53 := Tryz.underlying304
  a53 := Tryz.isAgg304
  z53 := Tryz.sizeOf304
  v53 := Tryz.zeroValue304
  t57 := Tryz.underlying308
  a57 := Tryz.isAgg308
  z57 := Tryz.sizeOf308
  v57 := Tryz.zeroValue308
  t63 := Tryz.underlying321
  a63 := Tryz.isAgg321
  z63 := Tryz.sizeOf321
  v63 := Tryz.zeroValue321
  t64 := Tryz.underlying233
  a64 := Tryz.isAgg233
  z64 := Tryz.sizeOf233
  v64 := Tryz.zeroValue233 }
theorem sortsIn_any (m : Nat) : AnyZ.SortsIn Tryz.prog sortedS_ren Fence.wide m :=
  ⟨fun blk off cap ss W hH hblk hsz => callsIn_wide.2 (AnyM.slices_Sort_string sortS_lays blk off cap ss W hH hblk hsz),
   fun p cap W => callsIn_wide.2 (AnyM.slices_Sort_string_none sortS_lays p cap W)⟩
theorem mapsKeys_any (mb : Option Nat) (W : World) : CallsIn Fence.wide 5 Tryz.prog 87 #[.map mb] W fun e w' => e = .returned (.func (.func 135) #[] #[.pointer (some ⟨W.heap.size, 0, none⟩)]) ∧ w' = W.alloc (.cells #[.map mb] 56) :=
  AnyZ.keys_in keysM_lays Fence.wide 5 trivial rfl mb W
set_option maxHeartbeats 1000000 in
theorem sortedKeys_any (b nn : Nat) (D0 : DataW Unit) (R : Value → Option (DataW Unit × List MemPlace)) (w : World) (hown : w.ownsMap Tryz.prog 9 R b nn D0) (hmax : Maps.size D0 ≤ maxLen) (hbytes : Maps.size D0 * 16 ≤ 140737488355328) :
    CallsIn Fence.wide 5 Tryz.prog 86 #[.func (.func 135) #[] #[.pointer (some ⟨w.heap.size, 0, none⟩)]] (w.alloc (.cells #[.map (some b)] 56)) fun e w' => ∃ (v : Value) (ss : List (List UInt8)), e = .returned v ∧ ss.Perm (strKeys D0) ∧
      w'.ownsRow (w.alloc (.cells #[.map (some b)] 56)).heap.size 9 1 v ss.length ((ss.mergeSort (fun x y => decide (x ≤ y))).map encStr) ∧ (v = .slice none 0 0 ↔ ss = []) ∧ Below (w.alloc (.cells #[.map (some b)] 56)).heap.size (w.alloc (.cells #[.map (some b)] 56)) w' := by
  have hbl := hown.lt
  have hseq : SeqGives Fence.wide 2 Tryz.prog 135 #[.pointer (some ⟨w.heap.size, 0, none⟩)] encStr (fun ss => ss.Perm (strKeys D0)) (Maps.size D0) (w.alloc (.cells #[.map (some b)] 56)) :=
    AnyZ.keys_gives (ρ := keysM_ren) { keysM_lays with } Fence.wide _ trivial rfl (by omega) w.heap.size b nn D0 _ (by simp) (by simp) (by
      obtain ⟨es, clock, hb, Ft, hs, hD⟩ := hown
      exact ⟨es, clock, (Below.heap_alloc _ _ b hbl).trans hb, Ft, hs, hD⟩)
  exact AnyZ.sorted_in sortedS_lays Fence.wide 5 trivial trivial trivial trivial rfl (by omega) (sortsIn_any _) (enters_of Tryz.func134 (by kernel_rfl) rfl) 135 #[.pointer (some ⟨w.heap.size, 0, none⟩)] trivial (enters_of Tryz.func135 (by kernel_rfl) rfl) _ _ hmax hbytes _ hseq
theorem keys_strKeys (d : Fs.Names) : strKeys (Fs.datum d) = d.map (·.1) := by
  show ((d.map Fs.ent).map fun p => strOf p.1) = _
  rw [List.map_map]
  rfl
/-- The names of a directory, as texts. -/
def strsOf (l : List (List UInt8)) : List ByteArray := l.map fun x => ⟨x.toArray⟩
theorem sortedKeys_strs {w : World} {base : Nat} {v : Value} {ss : List (List UInt8)} {d : Fs.Names} (hp : ss.Perm (strKeys (Fs.datum d))) (hrow : w.ownsRow base 9 1 v ss.length ((ss.mergeSort (fun x y => decide (x ≤ y))).map encStr)) :
    Strs w v (strsOf (Fs.keys d)) ∧ (∀ k, v.ownBlock = some k → base ≤ k ∧ k < w.heap.size) := by
  have he : ss.mergeSort (fun x y => decide (x ≤ y)) = Fs.keys d := by
    rw [keys_strKeys] at hp
    exact mergeSort_of_perm hp
  rw [he] at hrow
  have hl : (strsOf (Fs.keys d)).length = ss.length := by
    unfold strsOf
    rw [← he, List.length_map, List.length_mergeSort]
  refine ⟨?_, fun k hk => hrow.lt k hk⟩
  rcases hrow.2 with ⟨h1, h2⟩ | ⟨g, cap, cur, h1, hg, hb, hc, hm⟩
  · exact ⟨none, 0, by rw [h1, hl, h2], fun i s hi => by
      have := (List.getElem?_eq_some_iff.1 hi).1
      omega⟩
  · refine ⟨some ⟨g, 0, none⟩, cap, by rw [hl]; exact h1, fun i s hi => ⟨g, 0, rfl, heap_lt hb, ?_⟩⟩
    unfold strsOf at hi
    rw [List.getElem?_map] at hi
    cases hx : (Fs.keys d)[i]? with
    | none => rw [hx] at hi; cases hi
    | some x =>
      rw [hx] at hi
      simp at hi; subst hi
      have := World.ownsRow.cells hrow (g := g) (by rw [h1]; rfl) i (encStr x) (by rw [List.getElem?_map, hx]; rfl)
      rw [addr_add] at this
      rw [Nat.zero_add]
      exact this
set_option maxHeartbeats 1000000 in
set_option maxRecDepth 100000 in
theorem list_any (base B : Nat) (st : Fs.St) (V : FsV) (own : Nat → Tag) (w : World) (h : FsOK base B st V own w) (hd : st.dir.length ≤ 900000) :
    Calls Tryz.prog 31 #[.pointer (some ⟨B, 0, none⟩)] w fun e w' => ∃ v, e = .returned v ∧ Strs w' v (strsOf (Fs.keys st.dir)) ∧ (∀ k, v.ownBlock = some k → w.heap.size ≤ k) ∧ Below w.heap.size w w' := by
  have x5 : w.cell? ⟨B, 5, none⟩ = some (.map (some V.md)) := root_cell h.at_.root 5 _ rfl
  have HM := Lib.hid h.at_.dir
  have hsz : Maps.size (Fs.datum st.dir) = st.dir.length := Fs.datum_size _
  have hmax : Maps.size (Fs.datum st.dir) ≤ maxLen := by rw [hsz]; unfold maxLen; omega
  have hbytes : Maps.size (Fs.datum st.dir) * 16 ≤ 140737488355328 := by rw [hsz]; omega
  clear h hsz
  refine (callsIn_wide (n := 6)).1 ?_
  have hfK : Fence.wide.fn 87 := trivial
  have hfS : Fence.wide.fn 86 := trivial
  refine callsIn_of_wp Tryz.func31 rfl trivial ?_ rfl
  simp only [Tryz.ntmps31, List.size_toArray, List.length_cons, List.length_nil, Nat.reduceAdd, Nat.reduceSub, Array.replicate_succ, Array.replicate_zero, List.push_toArray, List.append_toArray, List.nil_append, List.cons_append]
  gi_wp2_with (first
    | (gi_at_call 87; refine (mapsKeys_any _ _).mono ?_; rintro e w' ⟨rfl, rfl⟩)
    | (gi_at_call 86; refine (sortedKeys_any V.md _ (Fs.datum st.dir) _ w HM.out hmax hbytes).mono ?_; rintro e w' ⟨v, ss, rfl, hS, hrow, hnil, hb⟩))
  go_ret
  obtain ⟨h1, h2⟩ := sortedKeys_strs hS hrow
  exact ⟨v, rfl, h1, fun k hk => by have := (h2 k hk).1; simp at this; omega, ((Below.refl _ w).alloc (Nat.le_refl _) _).trans (hb.mono (by simp))⟩
end Go.Proofs.YtcinagglbkbmkaaGreatDoor
namespace Go.Proofs.YtcinagglbkbmkaaGreatDoor
set_option linter.unusedSimpArgs false
set_option linter.unusedVariables false
open Go Go.RowKit
open Go.Maps Go.WideMaps

/-- A function's value, and what is called for it. -/
structure FnV where
  val : Value
  k : FuncId
  fst : Array Value
  cap : Array Value
/-- No one's blocks stand. -/
def Others (own0 own : Nat → Tag) (w0 w : World) : Prop := w0.heap.size ≤ w.heap.size ∧ ∀ b, b < w0.heap.size → own0 b = .other → own b = .other ∧ w.heap[b]? = w0.heap[b]?
theorem Others.refl (own : Nat → Tag) (w : World) : Others own own w w := ⟨Nat.le_refl _, fun _ _ h => ⟨h, rfl⟩⟩
theorem OpPost.others {base B : Nat} {st : Fs.St} {own : Nat → Tag} {w w' : World} (h : OpPost base B st own w w') : ∃ V' own', FsOK base B st V' own' w' ∧ (∀ k, k < w.heap.size → own' k = own k) ∧ Kept own (· ≠ .other) w w' := h
theorem Others.next {own0 own own' : Nat → Tag} {w0 w w' : World} (h : Others own0 own w0 w) (ho : ∀ k, k < w.heap.size → own' k = own k) (hk : Kept own (· ≠ .other) w w') : Others own0 own' w0 w' :=
  ⟨Nat.le_trans h.1 hk.size, fun b hb h0 => by
    obtain ⟨h1, h2⟩ := h.2 b hb h0
    have hb2 := Nat.lt_of_lt_of_le hb h.1
    exact ⟨(ho b hb2).trans h1, (hk.block b hb2 (by rw [h1]; simp)).trans h2⟩⟩
set_option maxHeartbeats 1000000 in
set_option maxRecDepth 100000 in
theorem first_any (base B : Nat) (fs : List (Fs.St → Fs.St × Int)) (ks : List FnV) (gs : Nat) (J : Nat → Fs.St → Prop) (st0 : Fs.St) (V0 : FsV) (own0 : Nat → Tag) (w0 : World) (h0 : FsOK base B st0 V0 own0 w0) (hJ0 : J 0 st0)
    (hn : ks.length = fs.length) (hn2 : fs.length ≤ 1000) (hgs : gs < w0.heap.size) (hgo : own0 gs = .other) (hcell : ∀ (j : Nat) x, ks[j]? = some x → w0.cell? ⟨gs, j, none⟩ = some x.val ∧ x.val = .func (.func x.k) x.fst x.cap ∧ ∀ w, Sem.run Tryz.prog (callFunc x.k (x.fst ++ x.cap)) w = .ok (.enter x.k (x.fst ++ x.cap)) w)
    (hcall : ∀ (j : Nat) f x, fs[j]? = some f → ks[j]? = some x → ∀ st V own w, FsOK base B st V own w → J j st → Others own0 own w0 w → Calls Tryz.prog x.k (x.fst ++ x.cap) w fun e w' => e = .returned (.int .i64 (f st).2) ∧ OpPost base B (f st).1 own w w')
    (hJ : ∀ (j : Nat) f st, fs[j]? = some f → J j st → (f st).2 = 0 → J (j + 1) (f st).1) :
    Calls Tryz.prog 69 #[.slice (some ⟨gs, 0, none⟩) fs.length fs.length] w0 fun e w' => e = .returned (.int .i64 (Fs.first fs st0).2) ∧ OpPost base B (Fs.first fs st0).1 own0 w0 w' := by
  have HCELL := Lib.hid hcell
  have HCALL := Lib.hid hcall
  have HJ := Lib.hid hJ
  have H0 := Lib.hid h0
  have HJ0 := Lib.hid hJ0
  clear hcell hcall hJ h0 hJ0
  go_enter Tryz.func69, Tryz.ntmps69
  go_wp2_with fail
  go_loopg [8] fs.length (fun k s8 wr => ∃ (j : Nat) (st : Fs.St) (V : FsV) (own : Nat → Tag), j ≤ fs.length ∧ k = fs.length - j ∧ s8 = .int .i64 (j : Nat) ∧ FsOK base B st V own wr ∧ J j st ∧ (∀ k, k < w0.heap.size → own k = own0 k) ∧ Kept own0 (· ≠ .other) w0 wr ∧ Fs.first (fs.drop j) st = Fs.first fs st0)
  case atStart => exact ⟨0, st0, V0, own0, Nat.zero_le _, rfl, rfl, H0.out, HJ0.out, fun _ _ => rfl, Kept.refl _ _ _, rfl⟩
  case round =>
    obtain ⟨j, st, V, own, hj, hk, rfl, hok, hJj, hown, hkept, hfst⟩ := hrel
    have HK := Lib.hid hk
    have HOK := Lib.hid hok
    have HJJ := Lib.hid hJj
    have HOWN := Lib.hid hown
    have HKEPT := Lib.hid hkept
    have HFST := Lib.hid hfst
    clear hk hok hJj hown hkept hfst
    have hj0 : (0 : Int) ≤ (j : Int) := Int.natCast_nonneg _
    by_cases hjn : j < fs.length
    · have hjn1 : (j : Int) < (fs.length : Int) := by omega
      obtain ⟨f, hf⟩ : ∃ f, fs[j]? = some f := ⟨_, List.getElem?_eq_getElem hjn⟩
      obtain ⟨x, hx⟩ : ∃ x, ks[j]? = some x := ⟨_, List.getElem?_eq_getElem (by rw [hn]; exact hjn)⟩
      obtain ⟨c1, c2, c3⟩ := HCELL.out j x hx
      have hOth : Others own0 own w0 wr := ⟨HKEPT.out.size, fun b hb h1 => ⟨(HOWN.out b hb).trans h1, HKEPT.out.block b hb (by rw [h1]; simp)⟩⟩
      have hcr : wr.cell? ⟨gs, j, none⟩ = some (.func (.func x.k) x.fst x.cap) := by
        rw [World.cell?_of_block (hOth.2 gs hgs hgo).2, c1, c2]
      have HC := Lib.hid (HCALL.out j f x hf hx st V own wr HOK.out HJJ.out hOth)
      have HD : Hid (Fs.first fs st0 = if (f st).2 ≠ 0 then f st else Fs.first (fs.drop (j + 1)) (f st).1) := by
        rw [← HFST.out]
        obtain ⟨h1, h2⟩ := List.getElem?_eq_some_iff.1 hf
        rw [List.drop_eq_getElem_cons h1, h2, Fs.first]
        exact Lib.hid rfl
      have HF := Lib.hid hf
      obtain ⟨k, fst, cap, hkfc⟩ : ∃ k fst cap, x.k = k ∧ x.fst = fst ∧ x.cap = cap := ⟨_, _, _, rfl, rfl, rfl⟩
      obtain ⟨e1, e2, e3⟩ := hkfc
      rw [e1, e2, e3] at hcr c3 HC
      clear e1 e2 e3 hx hf c1 c2 hOth
      go_wp2_with fail
      refine HC.out.mono ?_
      rintro e w1 ⟨rfl, hp⟩
      obtain ⟨V1, own1, h1, ho1, hk1⟩ := hp
      have HOWN1 : Hid (∀ k, k < w0.heap.size → own1 k = own0 k) := Lib.hid fun k hk => (ho1 k (Nat.lt_of_lt_of_le hk HKEPT.out.size)).trans (HOWN.out k hk)
      have HK1 : Hid (Kept own0 (· ≠ .other) w0 w1) := by
        refine Lib.hid ⟨hk1.os.trans HKEPT.out.os, hk1.tape.trans HKEPT.out.tape, hk1.output.trans HKEPT.out.output, Nat.le_trans HKEPT.out.size hk1.size, fun b hb ht => ?_⟩
        rw [hk1.block b (Nat.lt_of_lt_of_le hb HKEPT.out.size) (by rw [HOWN.out b hb]; exact ht)]
        exact HKEPT.out.block b hb ht
      have H1 := Lib.hid h1
      obtain ⟨C, hC⟩ : ∃ C, C = (f st).2 := ⟨_, rfl⟩
      rw [← hC]
      have HCC := Lib.hid hC
      clear hC h1 ho1 hk1
      by_cases hC0 : C = 0
      · subst hC0
        have HN := Lib.hid (HJ.out j f st HF.out HJJ.out HCC.out.symm)
        go_wp2_with fail
        go_roundg (fs.length - (j + 1))
        case measure => rw [HK.out]; omega
        case rel => exact ⟨j + 1, (f st).1, V1, own1, by omega, rfl, by simp, H1.out, HN.out, HOWN1.out, HK1.out, by rw [HD.out, if_neg (by rw [← HCC.out]; simp)]⟩
      · have hte : (C != 0) = true := by rw [bne_iff_ne]; exact hC0
        have hte2 : (C == 0) = false := by rw [beq_eq_false_iff_ne]; exact hC0
        have HE : Hid (Fs.first fs st0 = f st) := by rw [HD.out, if_pos (by rw [← HCC.out]; exact hC0)]; exact Lib.hid rfl
        clear hC0
        go_wp2_with fail
        go_ret
        rw [HE.out]
        exact ⟨by rw [← HCC.out]; rfl, V1, own1, H1.out, HOWN1.out, HK1.out⟩
    · have hjn1 : (fs.length : Int) ≤ (j : Int) := by omega
      have HE : Hid (Fs.first fs st0 = (st, 0)) := by rw [← HFST.out, List.drop_of_length_le (by omega), Fs.first]; exact Lib.hid rfl
      go_wp2_with fail
      go_ret
      rw [HE.out]
      exact ⟨rfl, V, own, HOK.out, HOWN.out, HKEPT.out⟩
end Go.Proofs.YtcinagglbkbmkaaGreatDoor
namespace Go.Proofs.YtcinagglbkbmkaaGreatDoor
set_option linter.unusedSimpArgs false
set_option linter.unusedVariables false
open Go Go.RowKit
open Go.Maps Go.WideMaps

namespace Fs
/-- What is planned are numbers of the machine's. -/
def PlanOK (st : St) : Prop := ∀ z ∈ st.plan, z ≤ 9223372036854775807
section
variable {st : St} (h : PlanOK st)
include h
theorem PlanOK.of {st' : St} (e : st'.plan = st.plan ∨ st'.plan = st.plan.tail) : PlanOK st' := fun z hz => by
  rcases e with e | e
  · rw [e] at hz; exact h z hz
  · rw [e] at hz; exact h z (List.mem_of_mem_tail hz)
theorem PlanOK.how : (step st).2.1 ≤ 9223372036854775807 := by
  unfold step
  split
  · show (0 : Int) ≤ _; omega
  · show st.plan.headD 0 ≤ _
    cases hp : st.plan with
    | nil => show (0 : Int) ≤ _; omega
    | cons z r => exact h z (by rw [hp]; exact List.mem_cons_self)
end
theorem plan_step (st : St) : (step st).1.plan = st.plan ∨ (step st).1.plan = st.plan.tail := by
  unfold step
  split
  · exact .inl rfl
  · exact .inr rfl
theorem plan_create (st : St) (n : List UInt8) : (create st n).1.plan = st.plan ∨ (create st n).1.plan = st.plan.tail := by
  unfold create
  split
  · exact .inl rfl
  split
  · exact .inl rfl
  split
  · exact .inl rfl
  split
  · exact plan_step st
  · exact plan_step st
theorem plan_append (st : St) (n b : List UInt8) : (append st n b).1.plan = st.plan ∨ (append st n b).1.plan = st.plan.tail := by
  unfold append
  split
  · exact .inl rfl
  split
  · exact .inl rfl
  split
  · split
    · exact plan_step st
    · exact plan_step st
  split
  · exact plan_step st
  · exact plan_step st
theorem plan_sync (st : St) (n : List UInt8) : (sync st n).1.plan = st.plan ∨ (sync st n).1.plan = st.plan.tail := by
  unfold sync
  split
  · exact .inl rfl
  split
  · exact plan_step st
  · exact plan_step st
theorem plan_syncDir (st : St) : (syncDir st).1.plan = st.plan ∨ (syncDir st).1.plan = st.plan.tail := by
  unfold syncDir
  split
  · exact plan_step st
  · exact plan_step st
theorem plan_remove (st : St) (n : List UInt8) : (remove st n).1.plan = st.plan ∨ (remove st n).1.plan = st.plan.tail := by
  unfold remove
  split
  · exact .inl rfl
  split
  · exact plan_step st
  · exact plan_step st
theorem plan_rename (st : St) (a b : List UInt8) : (rename st a b).1.plan = st.plan ∨ (rename st a b).1.plan = st.plan.tail := by
  unfold rename
  split
  · exact .inl rfl
  split
  · exact .inl rfl
  split
  · exact plan_step st
  · exact plan_step st
end Fs
/-- Is a text among texts? -/
theorem contains_strs {w : World} {a : Option Addr} {n c : Nat} {ls : List ByteArray} (h : Strs w (.slice a n c) ls) (hn : n ≤ 1000000) (x : ByteArray) :
    Calls Tryz.prog 71 #[.slice a n c, .string x] w fun e w' => e = .returned (.bool (Lib.containsS ls x)) ∧ w' = w := by
  obtain ⟨a', c', h1, h2⟩ := h
  simp only [Value.slice.injEq] at h1
  obtain ⟨rfl, rfl, rfl⟩ := h1
  cases ls with
  | nil => exact (Tryz.slices_Contains_string_empty a c x w).mono (by rintro e w' ⟨rfl, rfl⟩; exact ⟨rfl, rfl⟩)
  | cons y r =>
    obtain ⟨b, off, e0, _, _⟩ := h2 0 y rfl
    subst e0
    refine (Tryz.slices_Contains_string b off (y :: r).length c (y :: r) x w (Nat.le_refl _) (by omega) ?_).mono ?_
    · intro j hj
      obtain ⟨b', off', e1, _, e3⟩ := h2 j (y :: r)[j] (List.getElem?_eq_getElem hj)
      simp only [Option.some.injEq, Addr.mk.injEq, and_true] at e1
      obtain ⟨rfl, rfl⟩ := e1
      rw [e3, List.getD_eq_getElem?_getD, List.getElem?_eq_getElem hj]
      rfl
    · rintro e w' ⟨rfl, rfl⟩
      refine ⟨congrArg (fun b => Ending.returned (.bool b)) ?_, rfl⟩
      rw [List.take_of_length_le (Nat.le_refl _)]
theorem mem_keys {d : Fs.Names} {n : List UInt8} : Lib.containsS (strsOf (Fs.keys d)) (⟨n.toArray⟩ : ByteArray) = Fs.mhas d n := by
  rw [Bool.eq_iff_iff, Lib.containsS_iff, ← Fs.keys_mem]
  unfold strsOf
  rw [List.mem_map]
  constructor
  · rintro ⟨x, hx, e⟩
    have : x = n := by
      have := congrArg (fun b : ByteArray => b.data.toList) e
      simpa using this
    rw [← this]; exact hx
  · exact fun h => ⟨n, h, rfl⟩
def draftB : ByteArray := ⟨#[109, 97, 110, 105, 102, 101, 115, 116, 46, 116, 109, 112]⟩
def finalB : ByteArray := ⟨#[109, 97, 110, 105, 102, 101, 115, 116]⟩
theorem Strs.len {w : World} {a : Option Addr} {n c : Nat} {ls : List ByteArray} (h : Strs w (.slice a n c) ls) : n = ls.length := by
  obtain ⟨a', c', h1, h2⟩ := h
  simp only [Value.slice.injEq] at h1
  exact h1.2.1
theorem strsOf_len (d : Fs.Names) : (strsOf (Fs.keys d)).length = d.length := by unfold strsOf; rw [List.length_map, Fs.keys_len]

section
variable (base B : Nat) (st : Fs.St) (V : FsV) (own : Nat → Tag) (w : World) (h : FsOK base B st V own w) (hbase : base ≤ w.heap.size) (k : Nat) (hS : Fs.Sound st k) (hk : k ≤ 700000) (fb : Nat) (hf : w.cell? ⟨fb, 0, none⟩ = some (.pointer (some ⟨B, 0, none⟩)))
include h hbase hS hk hf
set_option linter.unusedSectionVars false
set_option maxHeartbeats 1000000
set_option maxRecDepth 100000
theorem save1_any : Calls Tryz.prog 70 #[.pointer (some ⟨fb, 0, none⟩)] w fun e w' => e = .returned (.int .i64 (Mf.clear st).2) ∧ OpPost base B (Mf.clear st).1 own w w' := by
  have H := Lib.hid h
  have hnd := hS.ndir
  have hnf := hS.nf
  have hnc := hS.nc
  have hfl := cellLt hf
  clear h
  go_enter Tryz.func70, Tryz.ntmps70
  go_wp2_with fail
  refine (list_any base B st V own w H.out (by omega)).mono ?_
  rintro e w1 ⟨v, rfl, hStr, _, hb1⟩
  obtain ⟨a, c, hv⟩ := hStr.form
  subst hv
  have H1 := Lib.hid (H.out.kept (kept_below hb1))
  have HB1 := Lib.hid hb1
  have hf1 : w1.cell? ⟨fb, 0, none⟩ = some (.pointer (some ⟨B, 0, none⟩)) := by rw [hb1.cell hfl]; exact hf
  have hz1 := hb1.size
  have HST := Lib.hid hStr
  obtain ⟨N, hN⟩ : ∃ N, N = (strsOf (Fs.keys st.dir)).length := ⟨_, rfl⟩
  have hNk : N ≤ 1000000 := by rw [hN, strsOf_len]; omega
  rw [← hN] at HST ⊢
  clear hb1 hN hStr
  go_wp2_with fail
  refine (contains_strs HST.out hNk _).mono ?_
  rintro e w2 ⟨rfl, hw2⟩
  subst hw2
  rw [show (⟨#[109, 97, 110, 105, 102, 101, 115, 116, 46, 116, 109, 112]⟩ : ByteArray) = ⟨Mf.draft.toArray⟩ from rfl, mem_keys]
  cases hh : Fs.mhas st.dir Mf.draft
  · have HE : Hid (Mf.clear st = (st, 0)) := by unfold Mf.clear; rw [hh]; exact Lib.hid rfl
    clear hh
    go_wp2_with fail
    go_ret
    rw [HE.out]
    exact ⟨rfl, OpPost.of H.out HB1.out⟩
  · have HE : Hid (Mf.clear st = Fs.remove st Mf.draft) := by unfold Mf.clear; rw [if_pos hh]; exact Lib.hid rfl
    clear hh
    go_wp2_with fail
    refine (remove_any base B st V own draftB w2 H1.out (by omega) (by decide) (by omega) (by omega) (by omega)).mono ?_
    rintro e w3 ⟨rfl, hp⟩
    have HP := Lib.hid hp
    clear hp
    go_wp2_with fail
    go_ret
    rw [HE.out]
    exact ⟨rfl, OpPost.step (kept_below HB1.out) (fun _ _ => rfl) HP.out⟩
theorem save2_any : Calls Tryz.prog 72 #[.pointer (some ⟨fb, 0, none⟩)] w fun e w' => e = .returned (.int .i64 (Fs.create st Mf.draft).2) ∧ OpPost base B (Fs.create st Mf.draft).1 own w w' := by
  have hnd := hS.ndir
  have hnf := hS.nf
  have hnc := hS.nc
  go_enter Tryz.func72, Tryz.ntmps72
  go_wp2_with fail
  refine (create_any base B st V own draftB w h (by decide) (by omega) (by omega) (by omega)).mono ?_
  rintro e w3 ⟨rfl, hp⟩
  have HP := Lib.hid hp
  clear hp
  go_wp2_with fail
  go_ret
  exact ⟨rfl, HP.out⟩
theorem save4_any : Calls Tryz.prog 74 #[.pointer (some ⟨fb, 0, none⟩)] w fun e w' => e = .returned (.int .i64 (Fs.sync st Mf.draft).2) ∧ OpPost base B (Fs.sync st Mf.draft).1 own w w' := by
  go_enter Tryz.func74, Tryz.ntmps74
  go_wp2_with fail
  refine (sync_any base B st V own draftB w h (by decide)).mono ?_
  rintro e w3 ⟨rfl, hp⟩
  have HP := Lib.hid hp
  clear hp
  go_wp2_with fail
  go_ret
  exact ⟨rfl, HP.out⟩
theorem save5_any : Calls Tryz.prog 76 #[.pointer (some ⟨fb, 0, none⟩)] w fun e w' => e = .returned (.int .i64 (Fs.rename st Mf.draft Mf.final).2) ∧ OpPost base B (Fs.rename st Mf.draft Mf.final).1 own w w' := by
  have hnd := hS.ndir
  have hnf := hS.nf
  have hnc := hS.nc
  go_enter Tryz.func76, Tryz.ntmps76
  go_wp2_with fail
  refine (rename_any base B st V own draftB finalB w h hbase (by decide) (by decide) (by omega) (by omega) (by omega)).mono ?_
  rintro e w3 ⟨rfl, hp⟩
  have HP := Lib.hid hp
  clear hp
  go_wp2_with fail
  go_ret
  exact ⟨rfl, HP.out⟩
theorem save3_any (bb : Nat) (bv : Value) (b : List UInt8) (hbv : BytesIn w own bv b) (hc : w.cell? ⟨bb, 0, none⟩ = some bv) (hl : b.length ≤ 1000000) (hp : Fs.PlanOK st) :
    Calls Tryz.prog 73 #[.pointer (some ⟨fb, 0, none⟩), .pointer (some ⟨bb, 0, none⟩)] w fun e w' => e = .returned (.int .i64 (Fs.append st Mf.draft b).2) ∧ OpPost base B (Fs.append st Mf.draft b).1 own w w' := by
  have hnd := hS.ndir
  have hnf := hS.nf
  have hnc := hS.nc
  have HBV := Lib.hid hbv
  obtain ⟨g, o, c, rfl, _⟩ := hbv
  go_enter Tryz.func73, Tryz.ntmps73
  go_wp2_with fail
  refine (append_any base B st V own draftB _ b w h HBV.out (by decide) (fun f hf => (hS.full f hf).2) hl (by omega) (by omega) hS.room hp.how hbase).mono ?_
  rintro e w3 ⟨rfl, hp⟩
  have HP := Lib.hid hp
  clear hp
  go_wp2_with fail
  go_ret
  exact ⟨rfl, HP.out⟩
end
end Go.Proofs.YtcinagglbkbmkaaGreatDoor
namespace Go.Proofs.YtcinagglbkbmkaaGreatDoor
set_option linter.unusedSimpArgs false
set_option linter.unusedVariables false
open Go Go.RowKit
open Go.Maps Go.WideMaps

theorem OwnB.bytesIn {w : World} {base : Nat} {own : Nat → Tag} {v : Value} {l : List UInt8} (h : OwnB w base v l) (hl : 0 < l.length) (ho : ∀ k, base ≤ k → own k = .other) : BytesIn w own v l := by
  obtain ⟨g, c, hv⟩ := row_form h hl
  subst hv
  have hlt := h.lt g rfl
  obtain ⟨_, c9, e9, hc9⟩ := h.byts.form
  have hcap : l.length ≤ c := by simp only [Value.slice.injEq] at e9; omega
  refine ⟨g, 0, c, rfl, hcap, hlt.2, ho g hlt.1, fun i x hx => ?_⟩
  obtain ⟨b, off, e1, e2, e3⟩ := h.byts.at hx
  cases e1
  exact e3
theorem BytesIn.others {w w' : World} {own own' : Nat → Tag} {v : Value} {l : List UInt8} (h : BytesIn w own v l) (ho : Others own own' w w') : BytesIn w' own' v l := by
  obtain ⟨g, o, c, h1, hc, h2, h3, h4⟩ := h
  obtain ⟨k1, k2⟩ := ho.2 g h2 h3
  exact ⟨g, o, c, h1, hc, Nat.lt_of_lt_of_le h2 ho.1, k1, fun i x hi => by rw [World.cell?_of_block k2]; exact h4 i x hi⟩
theorem enters_S1 (cap : Array Value) (w : World) : Sem.run Tryz.prog (callFunc 70 cap) w = .ok (.enter 70 cap) w := by kernel_rfl
theorem enters_S2 (cap : Array Value) (w : World) : Sem.run Tryz.prog (callFunc 72 cap) w = .ok (.enter 72 cap) w := by kernel_rfl
theorem enters_S3 (cap : Array Value) (w : World) : Sem.run Tryz.prog (callFunc 73 cap) w = .ok (.enter 73 cap) w := by kernel_rfl
theorem enters_S4 (cap : Array Value) (w : World) : Sem.run Tryz.prog (callFunc 74 cap) w = .ok (.enter 74 cap) w := by kernel_rfl
theorem enters_S5 (cap : Array Value) (w : World) : Sem.run Tryz.prog (callFunc 76 cap) w = .ok (.enter 76 cap) w := by kernel_rfl
theorem enters_S6 (cap : Array Value) (w : World) : Sem.run Tryz.prog (callFunc 78 cap) w = .ok (.enter 78 cap) w := by kernel_rfl
def saveVs (B fb bb : Nat) : List FnV :=
  [⟨.func (.func 70) #[] #[.pointer (some ⟨fb, 0, none⟩)], 70, #[], #[.pointer (some ⟨fb, 0, none⟩)]⟩,
   ⟨.func (.func 72) #[] #[.pointer (some ⟨fb, 0, none⟩)], 72, #[], #[.pointer (some ⟨fb, 0, none⟩)]⟩,
   ⟨.func (.func 73) #[] #[.pointer (some ⟨fb, 0, none⟩), .pointer (some ⟨bb, 0, none⟩)], 73, #[], #[.pointer (some ⟨fb, 0, none⟩), .pointer (some ⟨bb, 0, none⟩)]⟩,
   ⟨.func (.func 74) #[] #[.pointer (some ⟨fb, 0, none⟩)], 74, #[], #[.pointer (some ⟨fb, 0, none⟩)]⟩,
   ⟨.func (.func 76) #[] #[.pointer (some ⟨fb, 0, none⟩)], 76, #[], #[.pointer (some ⟨fb, 0, none⟩)]⟩,
   ⟨.func (.func 78) #[.pointer (some ⟨B, 0, none⟩)] #[], 78, #[.pointer (some ⟨B, 0, none⟩)], #[]⟩]
theorem saveVs_run (B fb bb : Nat) : ∀ (j : Nat) x, (saveVs B fb bb)[j]? = some x → x.val = .func (.func x.k) x.fst x.cap ∧ ∀ w, Sem.run Tryz.prog (callFunc x.k (x.fst ++ x.cap)) w = .ok (.enter x.k (x.fst ++ x.cap)) w
  | 0, x, h => by simp [saveVs] at h; subst h; exact ⟨rfl, fun w => enters_S1 _ w⟩
  | 1, x, h => by simp [saveVs] at h; subst h; exact ⟨rfl, fun w => enters_S2 _ w⟩
  | 2, x, h => by simp [saveVs] at h; subst h; exact ⟨rfl, fun w => enters_S3 _ w⟩
  | 3, x, h => by simp [saveVs] at h; subst h; exact ⟨rfl, fun w => enters_S4 _ w⟩
  | 4, x, h => by simp [saveVs] at h; subst h; exact ⟨rfl, fun w => enters_S5 _ w⟩
  | 5, x, h => by simp [saveVs] at h; subst h; exact ⟨rfl, fun w => enters_S6 _ w⟩
  | j + 6, x, h => by simp [saveVs] at h
/-- What stands between the steps. -/
def SaveJ (k j : Nat) (st : Fs.St) : Prop := Fs.Sound st (k + 2 * j) ∧ Fs.PlanOK st
theorem saveJ_next (k : Nat) (b : List UInt8) : ∀ (j : Nat) f st, (Mf.steps b)[j]? = some f → SaveJ k j st → SaveJ k (j + 1) (f st).1
  | 0, f, st, h, hj => by
    simp [Mf.steps] at h; subst h
    unfold Mf.clear
    split
    · exact ⟨hj.1.remove _, hj.2.of (Fs.plan_remove _ _)⟩
    · exact ⟨hj.1.mono (by omega), hj.2⟩
  | 1, f, st, h, hj => by simp [Mf.steps] at h; subst h; exact ⟨hj.1.create _, hj.2.of (Fs.plan_create _ _)⟩
  | 2, f, st, h, hj => by simp [Mf.steps] at h; subst h; exact ⟨(hj.1.append _ _).mono (by omega), hj.2.of (Fs.plan_append _ _ _)⟩
  | 3, f, st, h, hj => by simp [Mf.steps] at h; subst h; exact ⟨(hj.1.sync _).mono (by omega), hj.2.of (Fs.plan_sync _ _)⟩
  | 4, f, st, h, hj => by simp [Mf.steps] at h; subst h; exact ⟨hj.1.rename _ _, hj.2.of (Fs.plan_rename _ _ _)⟩
  | 5, f, st, h, hj => by simp [Mf.steps] at h; subst h; exact ⟨hj.1.syncDir.mono (by omega), hj.2.of (Fs.plan_syncDir _)⟩
  | j + 6, f, st, h, hj => by simp [Mf.steps] at h
theorem first_sound {k n : Nat} : ∀ (fs : List (Fs.St → Fs.St × Int)) (j : Nat) (st : Fs.St), (∀ (i : Nat) f st, fs[i]? = some f → SaveJ k (j + i) st → SaveJ k (j + i + 1) (f st).1) → j + fs.length ≤ n → SaveJ k j st → SaveJ k n (Fs.first fs st).1
  | [], j, st, _, hn, h => ⟨h.1.mono (by simp at hn; omega), h.2⟩
  | f :: r, j, st, hf, hn, h => by
    have h1 := hf 0 f st rfl h
    rw [Fs.first]
    rw [List.length_cons] at hn
    split
    · exact ⟨h1.1.mono (by omega), h1.2⟩
    · exact first_sound r (j + 1) _ (fun i g s hg hs => by
        have := hf (i + 1) g s (by simpa using hg) (by rw [show j + (i + 1) = j + 1 + i by omega]; exact hs)
        rw [show j + (i + 1) + 1 = j + 1 + i + 1 by omega] at this
        exact this) (by omega) h1
theorem save_sound {st : Fs.St} {k : Nat} (hS : Fs.Sound st k) (hP : Fs.PlanOK st) (v : Int) (l : List Int) : Fs.Sound (Mf.save st v l).1 (k + 12) ∧ Fs.PlanOK (Mf.save st v l).1 := by
  unfold Mf.save
  split
  · exact ⟨hS.mono (by omega), hP⟩
  · exact first_sound (n := 6) _ 0 st (fun i f s hf hs => by
      rw [Nat.zero_add] at hs ⊢
      exact saveJ_next k _ i f s hf hs) (by simp [Mf.steps]) ⟨hS, hP⟩
theorem enc_pos (v : Int) (l : List Int) : 0 < (Mf.enc v l).length := by unfold Mf.enc; rw [Fr.bytes_len]; omega
set_option maxHeartbeats 1000000 in
set_option maxRecDepth 100000 in
theorem save_any (base B : Nat) (st : Fs.St) (V : FsV) (own : Nat → Tag) (ver : Int) (sv : Value) (l : List Int) (w : World) (h : FsOK base B st V own w) (hE : SgEnv base w) (hbase : base ≤ w.heap.size) (k : Nat) (hS : Fs.Sound st k) (hk : k ≤ 600000) (hP : Fs.PlanOK st)
    (hN : Nums w sv l) (hl : l.length ≤ 1000000000) :
    Calls Tryz.prog 23 #[.pointer (some ⟨B, 0, none⟩), .agg #[.int .i64 ver, sv]] w fun e w' => e = .returned (.int .i64 (Mf.save st ver l).2) ∧ OpPost base B (Mf.save st ver l).1 own w w' := by
  obtain ⟨sa, sc, rfl⟩ := hN.form
  have e1 : (w.alloc (.cells #[.pointer (some ⟨B, 0, none⟩)] 43)).heap.size = w.heap.size + 1 := by simp
  have hb0 : Below w.heap.size w ((w.alloc (.cells #[.pointer (some ⟨B, 0, none⟩)] 43)).alloc (.cells #[.int .i64 ver, .slice sa l.length sc] 24)) := ((Below.refl _ _).alloc (Nat.le_refl _) _).alloc (by simp) _
  have hr0 := heap_new (w.alloc (.cells #[.pointer (some ⟨B, 0, none⟩)] 43)) (.cells #[.int .i64 ver, .slice sa l.length sc] 24)
  rw [e1] at hr0
  have hf0 : ((w.alloc (.cells #[.pointer (some ⟨B, 0, none⟩)] 43)).alloc (.cells #[.int .i64 ver, .slice sa l.length sc] 24)).cell? ⟨w.heap.size, 0, none⟩ = some (.pointer (some ⟨B, 0, none⟩)) := by
    rw [World.cell?_of_block (Lib.alloc_old _ _ _ (by simp))]
    exact cell_new w _ _ 0 _ rfl
  have y0 : ((w.alloc (.cells #[.pointer (some ⟨B, 0, none⟩)] 43)).alloc (.cells #[.int .i64 ver, .slice sa l.length sc] 24)).cell? ⟨w.heap.size + 1, 0, none⟩ = some (.int .i64 ver) := root_cell hr0 0 _ rfl
  have y1 : ((w.alloc (.cells #[.pointer (some ⟨B, 0, none⟩)] 43)).alloc (.cells #[.int .i64 ver, .slice sa l.length sc] 24)).cell? ⟨w.heap.size + 1, 1, none⟩ = some (.slice sa l.length sc) := root_cell hr0 1 _ rfl
  have H := Lib.hid h
  have HE := Lib.hid hE
  have HN := Lib.hid hN
  have HB0 := Lib.hid hb0
  have HF0 := Lib.hid hf0
  clear h hE hN hb0 hr0 e1 hf0
  go_enter Tryz.func23, Tryz.ntmps23
  go_wp2_with fail
  refine (mencode_any ver _ l _ base (HE.out.below (HB0.out.mono hbase)) (Nat.le_trans hbase HB0.out.size) (HN.out.below HB0.out) hl).mono ?_
  rintro e w1 ⟨hb1, hres⟩
  have HB1 := Lib.hid (HB0.out.trans (hb1.mono HB0.out.size))
  have H1 := Lib.hid (H.out.kept (kept_below HB1.out))
  have hf1 : w1.cell? ⟨w.heap.size, 0, none⟩ = some (.pointer (some ⟨B, 0, none⟩)) := by rw [hb1.cell (cellLt HF0.out)]; exact HF0.out
  have hz1 : w.heap.size + 2 ≤ w1.heap.size := by have := hb1.size; simp at this; omega
  clear hb1 y0 y1
  rcases hres with ⟨hg, b, rfl, hob⟩ | ⟨hg, rfl⟩
  · obtain ⟨ba, bn, bc, hbv, HBN⟩ := OwnB.form3 hob
    subst hbv
    have HOB := Lib.hid hob
    have HG := Lib.hid hg
    clear hg hob
    have hf2 : (w1.alloc (.cells #[.slice ba bn bc] 25)).cell? ⟨w.heap.size, 0, none⟩ = some (.pointer (some ⟨B, 0, none⟩)) := by rw [World.cell?_of_block (Lib.alloc_old _ _ _ (show w.heap.size < w1.heap.size by omega))]; exact hf1
    have hbb2 : (w1.alloc (.cells #[.slice ba bn bc] 25)).cell? ⟨w1.heap.size, 0, none⟩ = some (.slice ba bn bc) := cell_new _ _ _ 0 _ rfl
    have hb12 : Below w1.heap.size w1 ((w1.alloc (.cells #[.slice ba bn bc] 25)).alloc (.cells ((saveVs B w.heap.size w1.heap.size).map (·.val)).toArray 33)) := ((Below.refl _ _).alloc (Nat.le_refl _) _).alloc (by simp) _
    have HK12 := Lib.hid (H1.out.kept (kept_below hb12))
    have hcell : ∀ (j : Nat) x, (saveVs B w.heap.size w1.heap.size)[j]? = some x → ((w1.alloc (.cells #[.slice ba bn bc] 25)).alloc (.cells ((saveVs B w.heap.size w1.heap.size).map (·.val)).toArray 33)).cell? ⟨w1.heap.size + 1, j, none⟩ = some x.val ∧ x.val = .func (.func x.k) x.fst x.cap ∧ ∀ w, Sem.run Tryz.prog (callFunc x.k (x.fst ++ x.cap)) w = .ok (.enter x.k (x.fst ++ x.cap)) w := fun j x hx => by
      refine ⟨?_, saveVs_run B _ _ j x hx⟩
      have e2 : (w1.alloc (.cells #[.slice ba bn bc] 25)).heap.size = w1.heap.size + 1 := by simp
      rw [← e2]
      exact cell_new _ _ _ j _ (by simp [hx])
    have HBY : Hid (BytesIn ((w1.alloc (.cells #[.slice ba bn bc] 25)).alloc (.cells ((saveVs B w.heap.size w1.heap.size).map (·.val)).toArray 33)) own (.slice ba bn bc) (Mf.enc ver l)) :=
      Lib.hid (((HOB.out.bytesIn (enc_pos ver l) (fun k hk => H.out.fresh k (by simp at hk; omega))).kept (kept_below (T := (· ≠ .other)) hb12) (by simp)))
    have HFB : Hid (((w1.alloc (.cells #[.slice ba bn bc] 25)).alloc (.cells ((saveVs B w.heap.size w1.heap.size).map (·.val)).toArray 33)).cell? ⟨w.heap.size, 0, none⟩ = some (.pointer (some ⟨B, 0, none⟩))) := by
      rw [World.cell?_of_block (Lib.alloc_old _ _ _ (by simp; omega))]; exact Lib.hid hf2
    have HBB : Hid (((w1.alloc (.cells #[.slice ba bn bc] 25)).alloc (.cells ((saveVs B w.heap.size w1.heap.size).map (·.val)).toArray 33)).cell? ⟨w1.heap.size, 0, none⟩ = some (.slice ba bn bc)) := by
      rw [World.cell?_of_block (Lib.alloc_old _ _ _ (by simp))]; exact Lib.hid hbb2
    have HFIRST := Lib.hid (first_any base B (Mf.steps (Mf.enc ver l)) (saveVs B w.heap.size w1.heap.size) (w1.heap.size + 1) (SaveJ k) st V own _ HK12.out ⟨hS, hP⟩ rfl (by simp [Mf.steps]) (by simp; try omega) (H.out.fresh _ (by omega)) hcell
      (by
        intro j f x hf hx st' V' own' w' hok hJ hO
        have hfb : w'.cell? ⟨w.heap.size, 0, none⟩ = some (.pointer (some ⟨B, 0, none⟩)) := by
          rw [World.cell?_of_block (hO.2 w.heap.size (by simp; omega) (H.out.fresh _ (Nat.le_refl _))).2]; exact HFB.out
        have hbb : w'.cell? ⟨w1.heap.size, 0, none⟩ = some (.slice ba bn bc) := by
          rw [World.cell?_of_block (hO.2 w1.heap.size (by simp; omega) (H.out.fresh _ (by omega))).2]; exact HBB.out
        have hbw : base ≤ w'.heap.size := by have := hO.1; simp at this; omega
        match j, hf, hx with
        | 0, hf, hx => simp [Mf.steps] at hf; simp [saveVs] at hx; subst hf hx; exact save1_any base B st' V' own' w' hok hbw _ hJ.1 (by omega) _ hfb
        | 1, hf, hx => simp [Mf.steps] at hf; simp [saveVs] at hx; subst hf hx; exact save2_any base B st' V' own' w' hok hbw _ hJ.1 (by omega) _ hfb
        | 2, hf, hx =>
          simp [Mf.steps] at hf; simp [saveVs] at hx; subst hf hx
          exact save3_any base B st' V' own' w' hok hbw _ hJ.1 (by omega) _ hfb _ _ _ (HBY.out.others hO) hbb (by have := Mf.enc_len HG.out; omega) hJ.2
        | 3, hf, hx => simp [Mf.steps] at hf; simp [saveVs] at hx; subst hf hx; exact save4_any base B st' V' own' w' hok hbw _ hJ.1 (by omega) _ hfb
        | 4, hf, hx => simp [Mf.steps] at hf; simp [saveVs] at hx; subst hf hx; exact save5_any base B st' V' own' w' hok hbw _ hJ.1 (by omega) _ hfb
        | 5, hf, hx => simp [Mf.steps] at hf; simp [saveVs] at hx; subst hf hx; exact syncDir_any base B st' V' own' w' hok
        | j + 6, hf, hx => simp [Mf.steps] at hf)
      (fun j f s hf hs _ => saveJ_next k _ j f s hf hs))
    have HB12 := Lib.hid (HB1.out.trans (hb12.mono HB1.out.size))
    have HSV : Hid (Mf.save st ver l = Fs.first (Mf.steps (Mf.enc ver l)) st) := by unfold Mf.save; rw [if_neg (by rw [HG.out]; simp)]; exact Lib.hid rfl
    clear hcell hb12 hbb2
    go_wp2_with fail
    refine HFIRST.out.mono ?_
    rintro e w3 ⟨rfl, hp⟩
    have HP := Lib.hid hp
    clear hp
    go_wp2_with fail
    go_ret
    rw [HSV.out]
    exact ⟨rfl, OpPost.step (kept_below HB12.out) (fun _ _ => rfl) HP.out⟩
  · have HSV : Hid (Mf.save st ver l = (st, 1)) := by unfold Mf.save; rw [if_pos hg]; exact Lib.hid rfl
    clear hg
    go_wp2_with fail
    go_ret
    rw [HSV.out]
    exact ⟨rfl, OpPost.of H.out (HB1.out.trans (((Below.refl _ _).alloc (Nat.le_refl _) _).mono HB1.out.size))⟩
end Go.Proofs.YtcinagglbkbmkaaGreatDoor
namespace Go.Proofs.YtcinagglbkbmkaaGreatDoor
set_option linter.unusedSimpArgs false
set_option linter.unusedVariables false
open Go Go.RowKit
namespace Fs
/-- What holds ahead of round i. -/
structure LastInv (i : Nat) (st : St) (last : Int × List Int) : Prop where
  calm : Calm st
  inv : Inv st
  sound : Sound st (20 * i)
  room : st.room = 60000
  len : ∀ n b, look st n = some b → b.length ≤ 800 + i
  dir : st.dir.length ≤ i + (if mhas st.dir Mf.final then 1 else 0)
  zero : last.1 = 0 → look st Mf.final = none
  cur : last.1 ≠ 0 → Mf.good last.1 last.2 = true ∧ look st Mf.final = some (Mf.enc last.1 last.2)
theorem LastInv.new : LastInv 0 (Fs.new 60000) (0, []) :=
  ⟨⟨rfl, rfl⟩, Inv.new _, Sound.new ⟨by decide, by decide⟩ _, rfl, fun n b h => (by rw [look_new] at h; cases h), Nat.zero_le _, fun _ => rfl, fun h => absurd rfl h⟩
theorem LastInv.next {i : Nat} {st : St} {last : Int × List Int} (h : LastInv i st last) : LastInv (i + 1) st last :=
  ⟨h.calm, h.inv, h.sound.mono (by omega), h.room, fun n b hb => by have := h.len n b hb; omega, by have := h.dir; omega, h.zero, h.cur⟩
theorem LastInv.plan {i : Nat} {st : St} {last : Int × List Int} (h : LastInv i st last) : PlanOK st := fun z hz => by rw [h.calm.2] at hz; cases hz
theorem has_look {st : St} {n : List UInt8} : mhas st.dir n = (look st n).isSome := by
  unfold look
  cases mhas st.dir n <;> rfl
/-- A Mf.save. -/
theorem LastInv.save {i : Nat} {st : St} {last : Int × List Int} (h : LastInv i st last) (hi : i < 20) (v : Int) (l : List Int) :
    (Mf.good v l = true ∧ (Mf.save st v l).2 = 0 ∧ LastInv i { st with } last ∧ ∀ k, k = i → (Calm (Mf.save st v l).1 ∧ Inv (Mf.save st v l).1 ∧ Sound (Mf.save st v l).1 (20 * i + 12) ∧ (Mf.save st v l).1.room = 60000 ∧ (∀ n b, look (Mf.save st v l).1 n = some b → b.length ≤ 800 + i) ∧
      (Mf.save st v l).1.dir.length ≤ i + 1 ∧ look (Mf.save st v l).1 Mf.final = some (Mf.enc v l))) ∨ (Mf.good v l = false ∧ Mf.save st v l = (st, 1)) := by
  cases hg : Mf.good v l
  · exact .inr ⟨rfl, by unfold Mf.save; rw [if_pos hg]⟩
  · have hd : st.dir.length ≤ i + 1 := by have := h.dir; split at this <;> omega
    have hm : (st.dir.length + 1) * (800 + i) ≤ 22 * 820 := Nat.mul_le_mul (by omega) (by omega)
    obtain ⟨h1, h2, h3, h4, h5, h6⟩ := Mf.save_calm h.calm h.inv hg (by omega) (M := 800 + i) h.len (by rw [h.room]; omega) (fun f hf => (h.sound.full f hf).2)
    obtain ⟨s1, s2⟩ := save_sound h.sound h.plan v l
    refine .inl ⟨rfl, h1, h, fun k _ => ⟨h2.calm, h2.inv, s1, h2.room.trans h.room, fun n b hb => ?_, ?_, by rw [h6, if_pos rfl]⟩⟩
    · rw [h6] at hb
      by_cases hn : n = Mf.final
      · rw [if_pos hn] at hb
        have := Mf.enc_len hg
        have e : Mf.enc v l = b := Option.some.inj hb
        rw [← e]; omega
      · rw [if_neg hn] at hb
        by_cases hn2 : n = Mf.draft
        · rw [if_pos hn2] at hb; cases hb
        · rw [if_neg hn2] at hb; exact h.len n b hb
    · cases hf : mhas st.dir Mf.final
      · have := h.dir
        rw [hf] at this
        simp at this
        omega
      · have h7 := h4 hf
        have := h.dir
        rw [hf] at this
        simp at this
        omega
/-- Behind the Mf.save. -/
structure LastMid (i : Nat) (st : St) (last : Int × List Int) : Prop where
  calm : Calm st
  inv : Inv st
  sound : Sound st (20 * i + 12)
  room : st.room = 60000
  len : ∀ n b, look st n = some b → b.length ≤ 800 + i
  dir : st.dir.length ≤ i + (if mhas st.dir Mf.final then 1 else 0)
  zero : last.1 = 0 → look st Mf.final = none
  cur : last.1 ≠ 0 → Mf.good last.1 last.2 = true ∧ look st Mf.final = some (Mf.enc last.1 last.2)
theorem LastInv.mid {i : Nat} {st : St} {last : Int × List Int} (h : LastInv i st last) (hi : i < 20) (v : Int) (l : List Int) :
    ((Mf.save st v l).2 = 0 ∧ LastMid i (Mf.save st v l).1 (v, l)) ∨ ((Mf.save st v l).2 ≠ 0 ∧ LastMid i (Mf.save st v l).1 last) := by
  rcases h.save hi v l with ⟨hg, h1, _, h2⟩ | ⟨hg, h1⟩
  · obtain ⟨a1, a2, a3, a4, a5, a6, a7⟩ := h2 i rfl
    have hv := (Mf.good_out hg).1
    refine .inl ⟨h1, a1, a2, a3, a4, a5, ?_, fun e => ?_, fun _ => ⟨hg, a7⟩⟩
    · rw [has_look, a7]; exact a6
    · have e : v = 0 := e
      omega
  · refine .inr ⟨by rw [h1]; show (1 : Int) ≠ 0; decide, ?_⟩
    rw [h1]
    exact ⟨h.calm, h.inv, h.sound.mono (by omega), h.room, h.len, h.dir, h.zero, h.cur⟩
theorem LastMid.next {i : Nat} {st : St} {last : Int × List Int} (h : LastMid i st last) : LastInv (i + 1) st last :=
  ⟨h.calm, h.inv, h.sound.mono (by omega), h.room, fun n b hb => by have := h.len n b hb; omega, by have := h.dir; omega, h.zero, h.cur⟩
theorem LastMid.plan {i : Nat} {st : St} {last : Int × List Int} (h : LastMid i st last) : PlanOK st := fun z hz => by rw [h.calm.2] at hz; cases hz
/-- Another file: created, written to, perhaps removed. -/
def other (st : St) (s : List UInt8) (rm : Bool) : St :=
  if rm then (remove (append (create st s).1 s [1]).1 s).1 else (append (create st s).1 s [1]).1
theorem other_bad {st : St} {s : List UInt8} (hg : Fs.good s = false) (rm : Bool) : other st s rm = st := by

  have h1 : (create st s).1 = st := by unfold create; rw [if_pos hg]
  have h2 : openE st s ≠ 0 := by unfold openE; rw [if_pos hg]; decide
  have h3 : (append st s [1]).1 = st := by unfold append; rw [if_pos h2]
  have h4 : (remove st s).1 = st := by unfold remove; rw [if_pos h2]
  unfold other
  rw [h1, h3, h4]
  split <;> rfl
theorem LastMid.other {i : Nat} {st : St} {last : Int × List Int} (h : LastMid i st last) (hi : i < 20) {s : List UInt8} (hs : s ≠ Mf.final) (rm : Bool) : LastInv (i + 1) (other st s rm) last ∧ Sound (create st s).1 (20 * i + 14) ∧ PlanOK (create st s).1 ∧ Sound (append (create st s).1 s [1]).1 (20 * i + 14) := by
  have hs1 := h.sound.create s
  have hs2 := hs1.append s [1]
  have hp1 := h.plan.of (plan_create st s)
  refine ⟨?_, hs1, hp1, hs2⟩
  cases hg : Fs.good s
  · rw [other_bad hg]; exact h.next
  have hd : st.dir.length ≤ i + 1 := by have := h.dir; split at this <;> omega
  -- the file is there
  obtain ⟨s1, e1, c1, i1, r1, l1, d1, ⟨old, o1, o2⟩, k1⟩ : ∃ s1, (create st s).1 = s1 ∧ Calm s1 ∧ Inv s1 ∧ s1.room = 60000 ∧ (∀ n b, look s1 n = some b → b.length ≤ 800 + i) ∧ s1.dir.length ≤ st.dir.length + 1 ∧
      (∃ old, look s1 s = some old ∧ old.length ≤ 800 + i) ∧ ∀ m, m ≠ s → look s1 m = look st m := by
    cases hh : mhas st.dir s
    · obtain ⟨a1, a2, a3, a4⟩ := calm_create h.calm h.inv hg hh (by omega)
      refine ⟨_, rfl, a2.calm, a2.inv, a2.room.trans h.room, fun n b hb => ?_, by omega, ⟨[], by rw [a4, if_pos rfl], by simp⟩, fun m hm => by rw [a4, if_neg hm]⟩
      rw [a4] at hb
      by_cases hn : n = s
      · rw [if_pos hn] at hb; have e : [] = b := Option.some.inj hb; rw [← e]; simp
      · rw [if_neg hn] at hb; exact h.len n b hb
    · have e : (create st s).1 = st := by unfold create; rw [if_neg (by rw [hg]; simp), if_pos hh]
      refine ⟨st, e, h.calm, h.inv, h.room, h.len, Nat.le_succ _, ?_, fun m _ => rfl⟩
      have : look st s = some (fileAt st s) := by unfold look; rw [if_pos hh]
      exact ⟨_, this, h.len s _ this⟩
  have hu : used s1 ≤ s1.dir.length * (800 + i) := used_look i1 l1
  have hu2 : s1.dir.length * (800 + i) ≤ 22 * 820 := Nat.mul_le_mul (by omega) (by omega)
  obtain ⟨b1, b2, b3, _, b4⟩ := calm_append (b := [1]) c1 i1 hg o1 (by simp; omega) (by rw [r1]; simp; omega)
  have hdir : ∀ (s' : St), s'.dir.length ≤ s1.dir.length → (mhas s'.dir Mf.final = mhas st.dir Mf.final) → s'.dir.length ≤ (i + 1) + (if mhas s'.dir Mf.final then 1 else 0) := by
    intro s' h1 h2
    rw [h2]
    have := h.dir
    omega
  have hfin : mhas (append s1 s [1]).1.dir Mf.final = mhas st.dir Mf.final := by
    rw [has_look, b4, if_neg (fun e => hs e.symm), k1 Mf.final (fun e => hs e.symm), ← has_look]
  have hlk : look (append s1 s [1]).1 Mf.final = look st Mf.final := by rw [b4, if_neg (fun e => hs e.symm), k1 Mf.final (fun e => hs e.symm)]
  have hlen : ∀ n b, look (append s1 s [1]).1 n = some b → b.length ≤ 800 + (i + 1) := by
    intro n b hb
    rw [b4] at hb
    by_cases hn : n = s
    · rw [if_pos hn] at hb; have e : old ++ [1] = b := Option.some.inj hb; rw [← e]; simp; omega
    · rw [if_neg hn] at hb; have := l1 n b hb; omega
  unfold Fs.other
  rw [e1] at hs2 ⊢
  cases rm
  · rw [if_neg (by simp)]
    refine ⟨b2.calm, b2.inv, hs2.mono (by omega), b2.room.trans r1, hlen, hdir _ (by rw [b3]; exact Nat.le_refl _) hfin, fun e => by rw [hlk]; exact h.zero e, fun e => by rw [hlk]; exact h.cur e⟩
  · rw [if_pos rfl]
    have hh2 : mhas (append s1 s [1]).1.dir s = true := by rw [has_look, b4, if_pos rfl]; rfl
    obtain ⟨g1, g2, g3, _, g5⟩ := calm_remove b2.calm b2.inv hg hh2
    have hfin2 : mhas (remove (append s1 s [1]).1 s).1.dir Mf.final = mhas st.dir Mf.final := by
      rw [has_look, g5, if_neg (fun e => hs e.symm), ← has_look]; exact hfin
    have hlk2 : look (remove (append s1 s [1]).1 s).1 Mf.final = look st Mf.final := by rw [g5, if_neg (fun e => hs e.symm)]; exact hlk
    refine ⟨g2.calm, g2.inv, (hs2.remove s).mono (by omega), g2.room.trans (b2.room.trans r1), fun n b hb => ?_, hdir _ (by rw [g3, b3]; exact mdel_len _ _) hfin2, fun e => ?_, fun e => ?_⟩
    · rw [g5] at hb
      by_cases hn : n = s
      · rw [if_pos hn] at hb; cases hb
      · rw [if_neg hn] at hb; exact hlen n b hb
    · show look (remove (append s1 s [1]).1 s).1 Mf.final = none
      rw [hlk2]; exact h.zero e
    · show _ ∧ look (remove (append s1 s [1]).1 s).1 Mf.final = _
      rw [hlk2]; exact h.cur e
theorem LastInv.load {i : Nat} {st : St} {last : Int × List Int} (h : LastInv i st last) : (last.1 = 0 → Mf.load st = ((0, []), 3)) ∧ (last.1 ≠ 0 → Mf.load st = (last, 0)) :=
  ⟨fun e => Mf.load_none (h.zero e), fun e => Mf.load_look (h.cur e).1 (h.cur e).2⟩
end Fs
end Go.Proofs.YtcinagglbkbmkaaGreatDoor
