/-
  The texts of 'SdlStrings', walked.
-/
import Derived.Test.YtabcaljnpahgpaaGreatDoorSdt
namespace Go.Proofs.YtabcaljnpahgpaaGreatDoor
set_option linter.unusedSimpArgs false
set_option linter.unusedVariables false
open Go Go.RowKit

/-- The texts, as the program joins them. -/
def tx0 (T0 T1 T2 T3 T4 nm : ByteArray) : ByteArray := T0 ++ ⟨#[116, 121, 112, 101, 32]⟩ ++ nm ++ ⟨#[123]⟩ ++ T1 ++ ⟨#[97, 40]⟩ ++ T2 ++ ⟨#[98, 58, 73, 110, 116, 32]⟩ ++ T3 ++ ⟨#[99, 58, 73, 110, 116, 61, 49, 41, 58, 84, 32]⟩ ++ T4 ++ ⟨#[100, 58, 84, 125]⟩
def tx1 (T0 T1 T2 nm : ByteArray) : ByteArray := T0 ++ ⟨#[101, 110, 117, 109, 32]⟩ ++ nm ++ ⟨#[123]⟩ ++ T1 ++ ⟨#[65, 32]⟩ ++ T2 ++ ⟨#[66, 125]⟩
def tx2 (T0 T1 T2 nm : ByteArray) : ByteArray := T0 ++ ⟨#[105, 110, 112, 117, 116, 32]⟩ ++ nm ++ ⟨#[123]⟩ ++ T1 ++ ⟨#[97, 58, 73, 110, 116, 32]⟩ ++ T2 ++ ⟨#[98, 58, 73, 110, 116, 125]⟩

set_option maxHeartbeats 1000000 in
set_option maxRecDepth 100000 in
theorem text0_any (k : FuncId) (cap : Array Value) (hk : ∀ (v : Value) w, Sem.run Tryz.prog (callFunc k (#[v] ++ cap)) w = .ok (.enter k (#[v] ++ cap)) w) (g3 g2 : Nat) (kd : Int) (nm T0 T1 T2 T3 T4 : ByteArray) (w : World)
    (c1 : w.cell? ⟨g3, 0, none⟩ = some (.int .i64 kd)) (c2 : w.cell? ⟨g2, 0, none⟩ = some (.string nm)) (hn : nm.size ≤ 50)
    (s0 : T0.size ≤ 12) (s1 : T1.size ≤ 12) (s2 : T2.size ≤ 12) (s3 : T3.size ≤ 12) (s4 : T4.size ≤ 12)
    (h0 : ∀ x : Later w, Calls Tryz.prog k (#[.int .i64 0] ++ cap) x.1 fun e w' => e = .returned (.string T0) ∧ w' = x.1)
    (h1 : ∀ x : Later w, Calls Tryz.prog k (#[.int .i64 1] ++ cap) x.1 fun e w' => e = .returned (.string T1) ∧ w' = x.1)
    (h2 : ∀ x : Later w, Calls Tryz.prog k (#[.int .i64 2] ++ cap) x.1 fun e w' => e = .returned (.string T2) ∧ w' = x.1)
    (h3 : ∀ x : Later w, Calls Tryz.prog k (#[.int .i64 3] ++ cap) x.1 fun e w' => e = .returned (.string T3) ∧ w' = x.1)
    (h4 : ∀ x : Later w, Calls Tryz.prog k (#[.int .i64 4] ++ cap) x.1 fun e w' => e = .returned (.string T4) ∧ w' = x.1)
    (q0 : (wrap64 ((IntKind.u64.wrap kd).tmod 3) == 0) = true) :
    Calls Tryz.prog 16 #[.func (.func k) #[] cap, .pointer (some ⟨g3, 0, none⟩), .pointer (some ⟨g2, 0, none⟩)] w fun e w' => e = .returned (.string (tx0 T0 T1 T2 T3 T4 nm)) ∧ ∃ x : Later w, w' = x.1 := by
  have CC2 : ∀ x : Later w, x.1.cell? ⟨g2, 0, none⟩ = some (.string nm) := fun x => Later.cell c2 x
  have H0 := Lib.hid h0
  have H1 := Lib.hid h1
  have H2 := Lib.hid h2
  have H3 := Lib.hid h3
  have H4 := Lib.hid h4
  clear h0 h1 h2 h3 h4
  go_enter Tryz.func16, Tryz.ntmps16
  go_wp2_with fail
  refine wp_region_later (by kernel_rfl) (by kernel_rfl) ?_
  repeat (go_big_quiet_step ((first | (exact Later.call_same (v := .string T0) (H0.out _)) | (exact Later.call_same (v := .string T1) (H1.out _)) | (exact Later.call_same (v := .string T2) (H2.out _)) | (exact Later.call_same (v := .string T3) (H3.out _)) | (exact Later.call_same (v := .string T4) (H4.out _)))))
  refine wpQuiet_nil ?_
  rintro w6 ⟨x, rfl⟩
  go_wp2_with fail
  go_ret
  exact ⟨rfl, x, rfl⟩
set_option maxHeartbeats 1000000 in
set_option maxRecDepth 100000 in
theorem text1_any (k : FuncId) (cap : Array Value) (hk : ∀ (v : Value) w, Sem.run Tryz.prog (callFunc k (#[v] ++ cap)) w = .ok (.enter k (#[v] ++ cap)) w) (g3 g2 : Nat) (kd : Int) (nm T0 T1 T2 : ByteArray) (w : World)
    (c1 : w.cell? ⟨g3, 0, none⟩ = some (.int .i64 kd)) (c2 : w.cell? ⟨g2, 0, none⟩ = some (.string nm)) (hn : nm.size ≤ 50)
    (s0 : T0.size ≤ 12) (s1 : T1.size ≤ 12) (s2 : T2.size ≤ 12)
    (h0 : ∀ x : Later w, Calls Tryz.prog k (#[.int .i64 0] ++ cap) x.1 fun e w' => e = .returned (.string T0) ∧ w' = x.1)
    (h1 : ∀ x : Later w, Calls Tryz.prog k (#[.int .i64 1] ++ cap) x.1 fun e w' => e = .returned (.string T1) ∧ w' = x.1)
    (h2 : ∀ x : Later w, Calls Tryz.prog k (#[.int .i64 2] ++ cap) x.1 fun e w' => e = .returned (.string T2) ∧ w' = x.1)
    (q0 : (wrap64 ((IntKind.u64.wrap kd).tmod 3) == 0) = false) (q1 : (wrap64 ((IntKind.u64.wrap kd).tmod 3) == 1) = true) :
    Calls Tryz.prog 16 #[.func (.func k) #[] cap, .pointer (some ⟨g3, 0, none⟩), .pointer (some ⟨g2, 0, none⟩)] w fun e w' => e = .returned (.string (tx1 T0 T1 T2 nm)) ∧ ∃ x : Later w, w' = x.1 := by
  have CC2 : ∀ x : Later w, x.1.cell? ⟨g2, 0, none⟩ = some (.string nm) := fun x => Later.cell c2 x
  have H0 := Lib.hid h0
  have H1 := Lib.hid h1
  have H2 := Lib.hid h2
  clear h0 h1 h2
  go_enter Tryz.func16, Tryz.ntmps16
  go_wp2_with fail
  refine wp_region_later (by kernel_rfl) (by kernel_rfl) ?_
  repeat (go_big_quiet_step ((first | (exact Later.call_same (v := .string T0) (H0.out _)) | (exact Later.call_same (v := .string T1) (H1.out _)) | (exact Later.call_same (v := .string T2) (H2.out _)))))
  refine wpQuiet_nil ?_
  rintro w6 ⟨x, rfl⟩
  go_wp2_with fail
  go_ret
  exact ⟨rfl, x, rfl⟩
set_option maxHeartbeats 1000000 in
set_option maxRecDepth 100000 in
theorem text2_any (k : FuncId) (cap : Array Value) (hk : ∀ (v : Value) w, Sem.run Tryz.prog (callFunc k (#[v] ++ cap)) w = .ok (.enter k (#[v] ++ cap)) w) (g3 g2 : Nat) (kd : Int) (nm T0 T1 T2 : ByteArray) (w : World)
    (c1 : w.cell? ⟨g3, 0, none⟩ = some (.int .i64 kd)) (c2 : w.cell? ⟨g2, 0, none⟩ = some (.string nm)) (hn : nm.size ≤ 50)
    (s0 : T0.size ≤ 12) (s1 : T1.size ≤ 12) (s2 : T2.size ≤ 12)
    (h0 : ∀ x : Later w, Calls Tryz.prog k (#[.int .i64 0] ++ cap) x.1 fun e w' => e = .returned (.string T0) ∧ w' = x.1)
    (h1 : ∀ x : Later w, Calls Tryz.prog k (#[.int .i64 1] ++ cap) x.1 fun e w' => e = .returned (.string T1) ∧ w' = x.1)
    (h2 : ∀ x : Later w, Calls Tryz.prog k (#[.int .i64 2] ++ cap) x.1 fun e w' => e = .returned (.string T2) ∧ w' = x.1)
    (q0 : (wrap64 ((IntKind.u64.wrap kd).tmod 3) == 0) = false) (q1 : (wrap64 ((IntKind.u64.wrap kd).tmod 3) == 1) = false) :
    Calls Tryz.prog 16 #[.func (.func k) #[] cap, .pointer (some ⟨g3, 0, none⟩), .pointer (some ⟨g2, 0, none⟩)] w fun e w' => e = .returned (.string (tx2 T0 T1 T2 nm)) ∧ ∃ x : Later w, w' = x.1 := by
  have CC2 : ∀ x : Later w, x.1.cell? ⟨g2, 0, none⟩ = some (.string nm) := fun x => Later.cell c2 x
  have H0 := Lib.hid h0
  have H1 := Lib.hid h1
  have H2 := Lib.hid h2
  clear h0 h1 h2
  go_enter Tryz.func16, Tryz.ntmps16
  go_wp2_with fail
  refine wp_region_later (by kernel_rfl) (by kernel_rfl) ?_
  repeat (go_big_quiet_step ((first | (exact Later.call_same (v := .string T0) (H0.out _)) | (exact Later.call_same (v := .string T1) (H1.out _)) | (exact Later.call_same (v := .string T2) (H2.out _)))))
  refine wpQuiet_nil ?_
  rintro w6 ⟨x, rfl⟩
  go_wp2_with fail
  go_ret
  exact ⟨rfl, x, rfl⟩
end Go.Proofs.YtabcaljnpahgpaaGreatDoor
