/-
  What the tokens' row holds, cell by cell; 'Lex' on the three texts of 'awake'.
-/
import Derived.Test.YtonblegbnkfhbaaDoorLxl
namespace Go.Proofs.YtonblegbnkfhbaaDoor
set_option linter.unusedSimpArgs false
set_option linter.unusedVariables false
open Go Go.RowKit

theorem tokCells_at (ts : List Lx.Tok) : ∀ (i : Nat) (t : Lx.Tok), ts[i]? = some t →
    (tokCells ts)[3 * i]? = some (.int .i64 t.kind) ∧ (tokCells ts)[3 * i + 1]? = some (.string ⟨t.text.toArray⟩) ∧ (tokCells ts)[3 * i + 2]? = some (.int .i64 t.at_) := by
  induction ts with
  | nil => intro i t h; simp at h
  | cons x xs ih =>
    intro i t h
    match i, h with
    | 0, h => simp at h; subst h; simp [tokCells]
    | i + 1, h =>
      simp at h
      have := ih i t h
      have e : tokCells (x :: xs) = .int .i64 x.kind :: .string ⟨x.text.toArray⟩ :: .int .i64 x.at_ :: tokCells xs := by simp [tokCells]
      rw [e, show 3 * (i + 1) = 3 * i + 1 + 1 + 1 by omega]
      exact this

/-- A row of tokens, opened: where it lies. -/
structure TokRow (w : World) (g : Nat) (ts : List Lx.Tok) : Prop where
  lt : g < w.heap.size
  kind : ∀ (i : Nat) (t : Lx.Tok), ts[i]? = some t → w.cell? ⟨g, 3 * i, none⟩ = some (.int .i64 t.kind)
  text : ∀ (i : Nat) (t : Lx.Tok), ts[i]? = some t → w.cell? ⟨g, 3 * i + 1, none⟩ = some (.string ⟨t.text.toArray⟩)
  at_ : ∀ (i : Nat) (t : Lx.Tok), ts[i]? = some t → w.cell? ⟨g, 3 * i + 2, none⟩ = some (.int .i64 t.at_)
theorem TokRow.below {w w' : World} {g : Nat} {ts : List Lx.Tok} (h : TokRow w g ts) (hb : Below w.heap.size w w') : TokRow w' g ts := by
  have e : ∀ k, w'.cell? ⟨g, k, none⟩ = w.cell? ⟨g, k, none⟩ := fun k => World.cell?_of_block (hb.block g h.lt)
  exact ⟨Nat.lt_of_lt_of_le h.lt hb.size, fun i t x => (e _).trans (h.kind i t x), fun i t x => (e _).trans (h.text i t x), fun i t x => (e _).trans (h.at_ i t x)⟩
theorem TokRow.drewN {w : World} {g : Nat} {ts : List Lx.Tok} (h : TokRow w g ts) (n : Nat) : TokRow (w.drewN n) g ts := ⟨h.lt, h.kind, h.text, h.at_⟩
theorem addr_add (g k : Nat) : (⟨g, 0, none⟩ : Addr).add k = ⟨g, k, none⟩ := by
  by_cases h : k = 0
  · subst h; simp [Addr.add]
  · simp [Addr.add, h]
theorem Toks.openRow {w : World} {base : Nat} {v : Value} {ts : List Lx.Tok} (h : Toks w base v ts) (hne : 0 < ts.length) :
    ∃ g cap, v = .slice (some ⟨g, 0, none⟩) ts.length cap ∧ base ≤ g ∧ TokRow w g ts := by
  have hc := fun g => World.ownsRow.cells (g := g) h
  rcases h.2 with ⟨h2, h3⟩ | ⟨g, cap, cur, hv, hg, hcur, h3⟩
  · omega
  · refine ⟨g, cap, hv, hg, heap_lt hcur, ?_, ?_, ?_⟩
    · intro i t ht
      have := hc g (by rw [hv]; rfl) (3 * i) _ (tokCells_at ts i t ht).1
      simpa only [addr_add] using this
    · intro i t ht
      have := hc g (by rw [hv]; rfl) (3 * i + 1) _ (tokCells_at ts i t ht).2.1
      simpa only [addr_add] using this
    · intro i t ht
      have := hc g (by rw [hv]; rfl) (3 * i + 2) _ (tokCells_at ts i t ht).2.2
      simpa only [addr_add] using this

def awake1 : List Lx.Tok := [⟨5, [123], 0⟩, ⟨1, [97], 1⟩, ⟨5, [40], 2⟩, ⟨1, [98], 3⟩, ⟨5, [58], 4⟩, ⟨3, [45, 49, 46, 53, 101, 51], 5⟩, ⟨5, [41], 11⟩, ⟨5, [125], 12⟩, ⟨0, [], 13⟩]
theorem lex_awake1 : Lx.lex [123, 97, 40, 98, 58, 45, 49, 46, 53, 101, 51, 41, 125] = .ok awake1 := by
  simp (decide := true) [Lx.lex, Lx.lexGo, Lx.gap, Lx.token, awake1, Lx.isBlank, Lx.bom, Lx.isLetter, Lx.isDigit, Lx.isWord, Lx.number, Lx.hd, Lx.digits, Lx.numFrac, Lx.numExp, Lx.numEnd, Lx.quotes3, Lx.dots3, Lx.signs]
theorem lex_awake2 : Lx.lex [48, 49] = .err 0 40 := by
  simp (decide := true) [Lx.lex, Lx.lexGo, Lx.gap, Lx.token, awake1, Lx.isBlank, Lx.bom, Lx.isLetter, Lx.isDigit, Lx.isWord, Lx.number, Lx.hd, Lx.digits, Lx.numFrac, Lx.numExp, Lx.numEnd, Lx.quotes3, Lx.dots3, Lx.signs]
theorem lex_awake3 : Lx.lex [120, 46, 46, 121] = .err 1 40 := by
  simp (decide := true) [Lx.lex, Lx.lexGo, Lx.gap, Lx.token, awake1, Lx.isBlank, Lx.bom, Lx.isLetter, Lx.isDigit, Lx.isWord, Lx.number, Lx.hd, Lx.digits, Lx.numFrac, Lx.numExp, Lx.numEnd, Lx.quotes3, Lx.dots3, Lx.signs]

set_option maxHeartbeats 1000000 in
set_option maxRecDepth 100000 in
theorem awake_any (w : World) (hE : Env w) (h3 : 3 ≤ w.heap.size) :
    Calls Tryd.prog 9 #[] w (fun e w' => e = .returned (.bool true) ∧ Below w.heap.size w w' ∧ Env w') := by
  go_enter Tryd.func9, Tryd.ntmps9
  go_wp2_with fail
  refine (lex_any _ w (by decide) hE h3).mono ?_
  rintro e w1 ⟨hb1, hres⟩
  rcases hres with ⟨ts, v, hl, rfl, ht, -⟩ | ⟨a, c, hl, -, -⟩
  rotate_left
  · rw [show (ByteArray.mk #[123, 97, 40, 98, 58, 45, 49, 46, 53, 101, 51, 41, 125]).data.toList = [123, 97, 40, 98, 58, 45, 49, 46, 53, 101, 51, 41, 125] from rfl, lex_awake1] at hl
    cases hl
  rw [show (ByteArray.mk #[123, 97, 40, 98, 58, 45, 49, 46, 53, 101, 51, 41, 125]).data.toList = [123, 97, 40, 98, 58, 45, 49, 46, 53, 101, 51, 41, 125] from rfl, lex_awake1] at hl
  obtain rfl := (Lx.Res.ok.inj hl).symm
  clear hl
  obtain ⟨g, cap, rfl, hg, hrow⟩ := ht.openRow (by decide)
  have hE1 := hE.below hb1
  clear ht
  go_wp2_with fail
  refine (lex_any _ w1 (by decide) hE1 (by have := hb1.size; omega)).mono ?_
  rintro e w2 ⟨hb2, hres⟩
  rcases hres with ⟨ts, v, hl, -, -, -⟩ | ⟨a, c, hl, rfl, -⟩
  · rw [show (ByteArray.mk #[48, 49]).data.toList = [48, 49] from rfl, lex_awake2] at hl
    cases hl
  rw [show (ByteArray.mk #[48, 49]).data.toList = [48, 49] from rfl, lex_awake2] at hl
  obtain ⟨rfl, rfl⟩ := Lx.Res.err.inj hl
  clear hl
  have hE2 := hE1.below hb2
  have hrow2 := hrow.below hb2
  clear hrow
  go_wp2_with fail
  refine (lex_any _ w2 (by decide) hE2 (by have := hb1.size; have := hb2.size; omega)).mono ?_
  rintro e w3 ⟨hb3, hres⟩
  rcases hres with ⟨ts, v, hl, -, -, -⟩ | ⟨a, c, hl, rfl, -⟩
  · rw [show (ByteArray.mk #[120, 46, 46, 121]).data.toList = [120, 46, 46, 121] from rfl, lex_awake3] at hl
    cases hl
  rw [show (ByteArray.mk #[120, 46, 46, 121]).data.toList = [120, 46, 46, 121] from rfl, lex_awake3] at hl
  obtain ⟨rfl, rfl⟩ := Lx.Res.err.inj hl
  clear hl
  have hE3 := hE2.below hb3
  have hrow3 := hrow2.below hb3
  clear hrow2
  have k0 := hrow3.kind 5 _ rfl
  have k1 := hrow3.text 5 _ rfl
  go_wp2_with fail
  refine bodyPost_ret (v := .bool true) (by simp [results, Tryd.results9, go_sem]) rfl ?_
  exact ⟨rfl, (hb1.trans (hb2.mono hb1.size)).trans (hb3.mono (Nat.le_trans hb1.size hb2.size)), hE3⟩
end Go.Proofs.YtonblegbnkfhbaaDoor
