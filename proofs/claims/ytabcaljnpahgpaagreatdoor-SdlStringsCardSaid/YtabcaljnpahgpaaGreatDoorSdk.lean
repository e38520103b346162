/-
  'Parse' of types on the two texts of 'awake'.
-/
import Derived.Test.YtabcaljnpahgpaaGreatDoorK16b
import Derived.Test.YtabcaljnpahgpaaGreatDoorK19
namespace Go.Proofs.YtabcaljnpahgpaaGreatDoor
set_option linter.unusedSimpArgs false
set_option linter.unusedVariables false
open Go Go.RowKit

def sdT1 : List Lx.Tok := [⟨1, [116, 121, 112, 101], 0⟩, ⟨1, [81, 117, 101, 114, 121], 5⟩, ⟨1, [105, 109, 112, 108, 101, 109, 101, 110, 116, 115], 11⟩, ⟨1, [78], 22⟩, ⟨5, [38], 24⟩, ⟨1, [77], 26⟩, ⟨5, [123], 28⟩, ⟨1, [97], 29⟩, ⟨5, [40], 30⟩, ⟨1, [98], 31⟩, ⟨5, [58], 32⟩, ⟨1, [73, 110, 116], 34⟩, ⟨5, [61], 38⟩, ⟨2, [49], 40⟩, ⟨5, [41], 41⟩, ⟨5, [58], 42⟩, ⟨5, [91], 44⟩, ⟨1, [84], 45⟩, ⟨5, [33], 46⟩, ⟨5, [93], 47⟩, ⟨5, [33], 48⟩, ⟨5, [125], 49⟩, ⟨0, [], 50⟩]
def sdT2 : List Lx.Tok := [⟨1, [117, 110, 105, 111, 110], 0⟩, ⟨1, [85], 6⟩, ⟨5, [61], 8⟩, ⟨0, [], 9⟩]
set_option maxRecDepth 100000 in
theorem lex_sd1 : Lx.lex [116, 121, 112, 101, 32, 81, 117, 101, 114, 121, 32, 105, 109, 112, 108, 101, 109, 101, 110, 116, 115, 32, 78, 32, 38, 32, 77, 32, 123, 97, 40, 98, 58, 32, 73, 110, 116, 32, 61, 32, 49, 41, 58, 32, 91, 84, 33, 93, 33, 125] = .ok sdT1 := by
  simp (decide := true) [Lx.lex, Lx.lexGo, Lx.gap, Lx.token, sdT1, Lx.isBlank, Lx.bom, Lx.isLetter, Lx.isDigit, Lx.isWord, Lx.number, Lx.hd, Lx.digits, Lx.numFrac, Lx.numExp, Lx.numEnd, Lx.quotes3, Lx.dots3, Lx.signs]
theorem lex_sd2 : Lx.lex [117, 110, 105, 111, 110, 32, 85, 32, 61] = .ok sdT2 := by
  simp (decide := true) [Lx.lex, Lx.lexGo, Lx.gap, Lx.token, sdT2, Lx.isBlank, Lx.bom, Lx.isLetter, Lx.isDigit, Lx.isWord, Lx.number, Lx.hd, Lx.digits, Lx.numFrac, Lx.numExp, Lx.numEnd, Lx.quotes3, Lx.dots3, Lx.signs]
def sdD1 : Sd.Td := ⟨2, [81, 117, 101, 114, 121], [[78], [77]], [⟨[97], [⟨[98], [73, 110, 116], true, .mk 2 [49] [] [] 40, 31⟩], [91, 84, 33, 93, 33], 29⟩], [], [], 0⟩
theorem parse_sd1 : (Sd.parse [116, 121, 112, 101, 32, 81, 117, 101, 114, 121, 32, 105, 109, 112, 108, 101, 109, 101, 110, 116, 115, 32, 78, 32, 38, 32, 77, 32, 123, 97, 40, 98, 58, 32, 73, 110, 116, 32, 61, 32, 49, 41, 58, 32, 91, 84, 33, 93, 33, 125]).1.err = 0 ∧ (Sd.parse [116, 121, 112, 101, 32, 81, 117, 101, 114, 121, 32, 105, 109, 112, 108, 101, 109, 101, 110, 116, 115, 32, 78, 32, 38, 32, 77, 32, 123, 97, 40, 98, 58, 32, 73, 110, 116, 32, 61, 32, 49, 41, 58, 32, 91, 84, 33, 93, 33, 125]).2 = [sdD1] := by
  have e : Rd.begin_ [116, 121, 112, 101, 32, 81, 117, 101, 114, 121, 32, 105, 109, 112, 108, 101, 109, 101, 110, 116, 115, 32, 78, 32, 38, 32, 77, 32, 123, 97, 40, 98, 58, 32, 73, 110, 116, 32, 61, 32, 49, 41, 58, 32, 91, 84, 33, 93, 33, 125] = ⟨sdT1, 0, 0, 0⟩ := by unfold Rd.begin_; rw [lex_sd1]
  unfold Sd.parse
  rw [e]
  exact ⟨rfl, rfl⟩
theorem parse_sd2 : (Sd.parse [117, 110, 105, 111, 110, 32, 85, 32, 61]).1.err = 41 ∧ (Sd.parse [117, 110, 105, 111, 110, 32, 85, 32, 61]).1.at_ = 9 := by
  have e : Rd.begin_ [117, 110, 105, 111, 110, 32, 85, 32, 61] = ⟨sdT2, 0, 0, 0⟩ := by unfold Rd.begin_; rw [lex_sd2]
  unfold Sd.parse
  rw [e]
  exact ⟨rfl, rfl⟩

set_option maxHeartbeats 1000000 in
set_option maxRecDepth 100000 in
theorem sdAwake_any (w : World) (hE : Env w) (h3 : 3 ≤ w.heap.size) :
    Calls Tryz.prog 11 #[] w (fun e w' => e = .returned (.bool true) ∧ Below w.heap.size w w' ∧ Env w') := by
  have HE := Lib.hid hE
  clear hE
  go_enter Tryz.func11, Tryz.ntmps11
  go_wp2_with fail
  refine (sparse_any _ w (by decide) HE.out h3).mono ?_
  rintro e w1 ⟨hb1, -, hres⟩
  rcases hres with ⟨a, c, he, rfl, hrd⟩ | ⟨he, -⟩
  rotate_left
  · exact absurd parse_sd1.1 he
  rw [show (ByteArray.mk #[116, 121, 112, 101, 32, 81, 117, 101, 114, 121, 32, 105, 109, 112, 108, 101, 109, 101, 110, 116, 115, 32, 78, 32, 38, 32, 77, 32, 123, 97, 40, 98, 58, 32, 73, 110, 116, 32, 61, 32, 49, 41, 58, 32, 91, 84, 33, 93, 33, 125]).data.toList = [116, 121, 112, 101, 32, 81, 117, 101, 114, 121, 32, 105, 109, 112, 108, 101, 109, 101, 110, 116, 115, 32, 78, 32, 38, 32, 77, 32, 123, 97, 40, 98, 58, 32, 73, 110, 116, 32, 61, 32, 49, 41, 58, 32, 91, 84, 33, 93, 33, 125] from rfl, parse_sd1.2] at hrd ⊢
  clear he
  obtain ⟨g, o, cs, rfl, -, hgl, hlen, hcell, hd⟩ := hrd.elem.2 0 sdD1.d rfl
  obtain ⟨a1, a2, a3, a4, c1, c2, c3, c4, rfl, -, hf, -, -⟩ := Td_open hd
  obtain ⟨g2, o2, cs2, rfl, -, hgl2, hlen2, hcell2, hd2⟩ := hf.elem.2 0 (Sd.Fd.d ⟨[97], [⟨[98], [73, 110, 116], true, .mk 2 [49] [] [] 40, 31⟩], [91, 84, 33, 93, 33], 29⟩) rfl
  obtain ⟨b1, d1, rfl, -⟩ := Fd_open hd2
  have HC0 := Lib.hid (hcell 0 _ rfl)
  have HC2 := Lib.hid (hcell 2 _ rfl)
  have HC3 := Lib.hid (hcell 3 _ rfl)
  have HF2 := Lib.hid (hcell2 2 _ rfl)
  have HE1 := Lib.hid (HE.out.below hb1)
  have HB1 := Lib.hid hb1
  have h31 : 3 ≤ w1.heap.size := by have := hb1.size; omega
  clear hrd hcell hd hf hcell2 hd2 hlen hlen2 hb1
  go_wp2_with fail
  refine (sparse_any _ w1 (by decide) HE1.out h31).mono ?_
  rintro e w2 ⟨hb2, -, hres⟩
  rcases hres with ⟨a, c', he, -, -⟩ | ⟨he, rfl⟩
  · rw [show (ByteArray.mk #[117, 110, 105, 111, 110, 32, 85, 32, 61]).data.toList = [117, 110, 105, 111, 110, 32, 85, 32, 61] from rfl, parse_sd2.1] at he
    exact absurd he (by decide)
  rw [show (ByteArray.mk #[117, 110, 105, 111, 110, 32, 85, 32, 61]).data.toList = [117, 110, 105, 111, 110, 32, 85, 32, 61] from rfl, parse_sd2.1, parse_sd2.2]
  have HB2 := Lib.hid hb2
  have k0 : w2.cell? ⟨g, o, none⟩ = some (.int .i64 2) := (hb2.cell (p := ⟨g, o, none⟩) hgl).trans HC0.out
  have k2 : w2.cell? ⟨g, o + 2, none⟩ = some (.slice a1 2 c1) := (hb2.cell (p := ⟨g, o + 2, none⟩) hgl).trans HC2.out
  have k3 : w2.cell? ⟨g, o + 3, none⟩ = some (.slice (some ⟨g2, o2, none⟩) 1 c2) := (hb2.cell (p := ⟨g, o + 3, none⟩) hgl).trans HC3.out
  have k4 : w2.cell? ⟨g2, o2 + 2, none⟩ = some (.string ⟨#[91, 84, 33, 93, 33]⟩) := (hb2.cell (p := ⟨g2, o2 + 2, none⟩) hgl2).trans HF2.out
  clear hb2 he
  go_wp2_with fail
  refine bodyPost_ret (v := .bool true) (by simp [results, Tryz.results11, go_sem]) rfl ?_
  exact ⟨rfl, HB1.out.trans (HB2.out.mono HB1.out.size), HE1.out.below HB2.out⟩
end Go.Proofs.YtabcaljnpahgpaaGreatDoor
