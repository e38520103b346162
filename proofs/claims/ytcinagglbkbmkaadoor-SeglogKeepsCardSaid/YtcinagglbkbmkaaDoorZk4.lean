/-
  DERIVED: THE SHELF's CONTRACTS AT THIS DUMP, IN PLAIN WORDS (tools/lay-plain.mjs out of 'TrydShelf.lean', which tools/lay-shelf.mjs wrote): THE SAME DECLARATIONS UNDER THE SAME NAMES: 'import', 'namespace', 'open', 'def', 'theorem' AND NOTHING ELSE: no command of the shelf's: FOR A HAND-IN. Each laying: the table of numbers ('.._ren') and one theorem, a field a fact of the dump's own or the kernel's comparison; each contract: ONE APPLICATION. The file system: Sync, SyncDir, Read, New, walked. The file system: New, Sync, SyncDir, Read, walked. The file system: SyncDir, Read, walked. The file system: a directory's changes, walked.
-/
import Derived.Shelf.Small.Bits
import Derived.Shelf.Small.Wraps
import Derived.Shelf.Strconv.Atoi
import Derived.Shelf.Strconv.Itoa0
import Derived.Shelf.Strconv.Itoa1
import Derived.Shelf.LaysM
import Derived.Shelf.Strconv.Itoa2
import Derived.Shelf.Strconv.Itoa3
import Derived.Shelf.Strconv.AtoiErrFast
import Derived.Shelf.Strconv.ParseIntEmpty
import Derived.Shelf.Strconv.AtoiFail
import Derived.Shelf.Strconv.Clone
import Derived.Shelf.Strconv.SyntaxError
import Derived.Shelf.LaysC
import Derived.Shelf.Strconv.ToError
import Derived.Shelf.Strconv.Lower
import Derived.Shelf.Strconv.ParseUint10
import Derived.Shelf.Strconv.ParseUint10Empty
import Derived.Shelf.Strconv.ParseUint10Any
import Derived.Shelf.Strconv.ParseInt10
import Derived.Shelf.Strconv.AtoiLong
import Derived.Shelf.Strconv.AtoiInnerAll
import Derived.Shelf.Strconv.RangeError
import Derived.Shelf.Strconv.ToErrorRange
import Derived.Shelf.Strconv.AtoiAll
import Derived.Shelf.Strconv.ErrVarAll
import Derived.Shelf.Strings.Prefix
import Derived.Ground.Names2Prog
import Derived.Shelf.Slices.Clone
import Derived.Ground.SlgnProg
import Derived.Shelf.SlicesE.Clone
import Derived.Ground.SlgmProg
import Derived.Shelf.SortM.Plain
import Derived.Shelf.SortM.SortNone
import Derived.Test.YtcinagglbkbmkaaDoorProg
import Derived.Test.YtcinagglbkbmkaaDoorZk3
import Derived.Shelf.SlMaps.Clone
import Derived.Maps.OwnOps
namespace Go.Proofs
open Go.Shelf
def Tryd.lays103_ren : Go.Shelf.Ren := ⟨fun | 103 => 28 | 210 => 45 | 206 => 54 | n => n, fun | 9 => 9 | 4 => 4 | 24 => 80 | 3 => 3 | n => n, fun | n => n⟩
theorem Tryd.lays103 : Go.Proofs.Lays.n103 Tryd.prog Tryd.lays103_ren := {
  mixed := by kernel_rfl
  f103 := Tryd.func28.trans (congrArg some (by kernel_rfl))
  f206 := Tryd.func54.trans (congrArg some (by kernel_rfl))
  f210 := Tryd.func45.trans (congrArg some (by kernel_rfl))
  t3 := Tryd.underlying3
  a3 := Tryd.isAgg3
  z3 := Tryd.sizeOf3
  v3 := Tryd.zeroValue3
  t4 := Tryd.underlying4
  a4 := Tryd.isAgg4
  z4 := Tryd.sizeOf4
  v4 := Tryd.zeroValue4
  t9 := Tryd.underlying9
  a9 := Tryd.isAgg9
  z9 := Tryd.sizeOf9
  v9 := Tryd.zeroValue9
  t24 := Tryd.underlying80
  a24 := Tryd.isAgg80
  z24 := Tryd.sizeOf80
  v24 := Tryd.zeroValue80 }
open Go.RowKit in
/-- strings.CutPrefix: "CutPrefix returns s without the provided leading prefix string and reports whether it found the prefix. If s doesn't start with prefix, CutPrefix returns s, false. If prefix is the empty string, CutPrefix returns s, true.": IT RETURNS '(Lib.trimPrefix s p, Lib.hasPrefix s p)'; the world is as it was. (LAID: no walk: one application.) -/
theorem Tryd.strings_CutPrefix (s p : ByteArray) (w : World) :
    Calls Tryd.prog 28 #[.string s, .string p] w fun e w' => e = .returned (.tuple #[.string ⟨(Lib.trimPrefix s.data.toList p.data.toList).toArray⟩, .bool (Lib.hasPrefix s.data.toList p.data.toList)]) ∧ w' = w := Any.strings_CutPrefix Tryd.lays103 s p w
def Tryd.laysM171_ren : Go.Shelf.Ren := ⟨fun | 171 => 27 | 243 => 44 | 246 => 53 | 283 => 71 | 284 => 72 | 285 => 73 | 286 => 74 | 129 => 70 | 317 => 84 | 318 => 85 | 319 => 86 | 320 => 87 | 337 => 91 | 338 => 92 | n => n, fun | 3 => 3 | 9 => 9 | 2 => 2 | 4 => 4 | 171 => 130 | 0 => 0 | 53 => 129 | 37 => 42 | 5 => 5 | 173 => 132 | 212 => 148 | 51 => 94 | 20 => 20 | 213 => 149 | 46 => 40 | 232 => 159 | 233 => 160 | n => n, fun | 17 => 2 | 18 => 3 | 19 => 4 | n => n⟩
theorem Tryd.laysM171 : Go.Proofs.LaysM.n171 Tryd.prog Tryd.laysM171_ren := {
  mixed := by kernel_rfl
  f129 := Tryd.func70.trans (congrArg some (by kernel_rfl))
  f171 := Tryd.func27.trans (congrArg some (by kernel_rfl))
  f243 := Tryd.func44.trans (congrArg some (by kernel_rfl))
  f246 := Tryd.func53.trans (congrArg some (by kernel_rfl))
  f283 := Tryd.func71.trans (congrArg some (by kernel_rfl))
  f284 := Tryd.func72.trans (congrArg some (by kernel_rfl))
  f285 := Tryd.func73.trans (congrArg some (by kernel_rfl))
  f286 := Tryd.func74.trans (congrArg some (by kernel_rfl))
  f317 := Tryd.func84.trans (congrArg some (by kernel_rfl))
  f318 := Tryd.func85.trans (congrArg some (by kernel_rfl))
  f319 := Tryd.func86.trans (congrArg some (by kernel_rfl))
  f320 := Tryd.func87.trans (congrArg some (by kernel_rfl))
  f337 := Tryd.func91.trans (congrArg some (by kernel_rfl))
  f338 := Tryd.func92.trans (congrArg some (by kernel_rfl))
  t0 := Tryd.underlying0
  a0 := Tryd.isAgg0
  z0 := Tryd.sizeOf0
  v0 := Tryd.zeroValue0
  t2 := Tryd.underlying2
  a2 := Tryd.isAgg2
  z2 := Tryd.sizeOf2
  v2 := Tryd.zeroValue2
  t3 := Tryd.underlying3
  a3 := Tryd.isAgg3
  z3 := Tryd.sizeOf3
  v3 := Tryd.zeroValue3
  t4 := Tryd.underlying4
  a4 := Tryd.isAgg4
  z4 := Tryd.sizeOf4
  v4 := Tryd.zeroValue4
  t5 := Tryd.underlying5
  a5 := Tryd.isAgg5
  z5 := Tryd.sizeOf5
  v5 := Tryd.zeroValue5
  t9 := Tryd.underlying9
  a9 := Tryd.isAgg9
  z9 := Tryd.sizeOf9
  v9 := Tryd.zeroValue9
  t20 := Tryd.underlying20
  a20 := Tryd.isAgg20
  z20 := Tryd.sizeOf20
  v20 := Tryd.zeroValue20
  t37 := Tryd.underlying42
  a37 := Tryd.isAgg42
  z37 := Tryd.sizeOf42
  v37 := Tryd.zeroValue42
  t46 := Tryd.underlying40
  a46 := Tryd.isAgg40
  z46 := Tryd.sizeOf40
  v46 := Tryd.zeroValue40
  t51 := Tryd.underlying94
  a51 := Tryd.isAgg94
  z51 := Tryd.sizeOf94
  v51 := Tryd.zeroValue94
  t53 := Tryd.underlying129
  a53 := Tryd.isAgg129
  z53 := Tryd.sizeOf129
  v53 := Tryd.zeroValue129
  t171 := Tryd.underlying130
  a171 := Tryd.isAgg130
  z171 := Tryd.sizeOf130
  v171 := Tryd.zeroValue130
  t173 := Tryd.underlying132
  a173 := Tryd.isAgg132
  z173 := Tryd.sizeOf132
  v173 := Tryd.zeroValue132
  t212 := Tryd.underlying148
  a212 := Tryd.isAgg148
  z212 := Tryd.sizeOf148
  v212 := Tryd.zeroValue148
  t213 := Tryd.underlying149
  a213 := Tryd.isAgg149
  z213 := Tryd.sizeOf149
  t232 := Tryd.underlying159
  a232 := Tryd.isAgg159
  z232 := Tryd.sizeOf159
  v232 := Tryd.zeroValue159
  t233 := Tryd.underlying160
  a233 := Tryd.isAgg160
  z233 := Tryd.sizeOf160
  v233 := Tryd.zeroValue160
  g17 := by kernel_rfl
  g18 := by kernel_rfl
  g19 := by kernel_rfl
  i0 := by kernel_rfl
  i2 := by kernel_rfl
  i3 := by kernel_rfl
  i4 := by kernel_rfl
  i5 := by kernel_rfl
  i9 := by kernel_rfl
  i20 := by kernel_rfl
  i37 := by kernel_rfl
  i46 := by kernel_rfl
  i51 := by kernel_rfl
  i53 := by kernel_rfl
  i171 := by kernel_rfl
  i173 := by kernel_rfl
  i212 := by kernel_rfl
  i232 := by kernel_rfl
  i233 := by kernel_rfl
  m17 := by kernel_rfl
  m18 := by kernel_rfl
  m19 := by kernel_rfl }
open Go.RowKit Go.Sort Go.Lib in
/-- strconv.Itoa: "Itoa is equivalent to FormatInt(int64(i), 10).": i's DECIMAL NUMERAL ('Lib.itoa': a '-' where i is negative, then the digits), FOR EVERY int. The world behind the call: the world before it, new blocks behind the heap (the library's 'var a [24]byte'), draws. (LAID: no walk: one application.) -/
theorem Tryd.strconv_Itoa (n : Int) (h0 : -9223372036854775808 ≤ n) (h1 : n ≤ 9223372036854775807) (w : World) (htab : Lib.TabIs Tryd.prog w "internal/strconv.uint64pow10" .u64 Lib.pow10Tab) :
    Calls Tryd.prog 27 #[.int .i64 n] w fun e w' => e = .returned (.string ⟨(Lib.itoa n).toArray⟩) ∧ ∃ k os, w' = grow (w.drewN k) os := Any.strconv_Itoa Tryd.laysM171 n h0 h1 w htab
def Tryd.laysC172_ren : Go.Shelf.Ren := ⟨fun | 172 => 29 | 244 => 46 | 245 => 47 | 247 => 55 | 279 => 56 | 280 => 57 | 281 => 58 | 282 => 59 | 287 => 75 | 316 => 76 | 171 => 27 | 205 => 77 | 321 => 88 | 322 => 89 | 243 => 44 | 246 => 53 | 283 => 71 | 284 => 72 | 285 => 73 | 286 => 74 | 129 => 70 | 317 => 84 | 318 => 85 | 319 => 86 | 320 => 87 | 337 => 91 | 338 => 92 | n => n, fun | 9 => 9 | 3 => 3 | 75 => 83 | 76 => 84 | 4 => 4 | 5 => 5 | 167 => 114 | 37 => 42 | 0 => 0 | 85 => 115 | 2 => 2 | 168 => 117 | 53 => 129 | 175 => 134 | 46 => 40 | 210 => 138 | 127 => 152 | 145 => 155 | 143 => 153 | 21 => 21 | 171 => 130 | 173 => 132 | 212 => 148 | 51 => 94 | 20 => 20 | 213 => 149 | 232 => 159 | 233 => 160 | 80 => 161 | n => n, fun | 15 => 0 | 16 => 1 | 17 => 2 | 18 => 3 | 19 => 4 | n => n⟩
theorem Tryd.laysC172 : Go.Proofs.LaysC.n172 Tryd.prog Tryd.laysC172_ren := {
  mixed := by kernel_rfl
  f129 := Tryd.func70.trans (congrArg some (by kernel_rfl))
  f171 := Tryd.func27.trans (congrArg some (by kernel_rfl))
  f172 := Tryd.func29.trans (congrArg some (by kernel_rfl))
  f205 := Tryd.func77.trans (congrArg some (by kernel_rfl))
  f243 := Tryd.func44.trans (congrArg some (by kernel_rfl))
  f244 := Tryd.func46.trans (congrArg some (by kernel_rfl))
  f245 := Tryd.func47.trans (congrArg some (by kernel_rfl))
  f246 := Tryd.func53.trans (congrArg some (by kernel_rfl))
  f247 := Tryd.func55.trans (congrArg some (by kernel_rfl))
  f279 := Tryd.func56.trans (congrArg some (by kernel_rfl))
  f280 := Tryd.func57.trans (congrArg some (by kernel_rfl))
  f281 := Tryd.func58.trans (congrArg some (by kernel_rfl))
  f282 := Tryd.func59.trans (congrArg some (by kernel_rfl))
  f283 := Tryd.func71.trans (congrArg some (by kernel_rfl))
  f284 := Tryd.func72.trans (congrArg some (by kernel_rfl))
  f285 := Tryd.func73.trans (congrArg some (by kernel_rfl))
  f286 := Tryd.func74.trans (congrArg some (by kernel_rfl))
  f287 := Tryd.func75.trans (congrArg some (by kernel_rfl))
  f316 := Tryd.func76.trans (congrArg some (by kernel_rfl))
  f317 := Tryd.func84.trans (congrArg some (by kernel_rfl))
  f318 := Tryd.func85.trans (congrArg some (by kernel_rfl))
  f319 := Tryd.func86.trans (congrArg some (by kernel_rfl))
  f320 := Tryd.func87.trans (congrArg some (by kernel_rfl))
  f321 := Tryd.func88.trans (congrArg some (by kernel_rfl))
  f322 := Tryd.func89.trans (congrArg some (by kernel_rfl))
  f337 := Tryd.func91.trans (congrArg some (by kernel_rfl))
  f338 := Tryd.func92.trans (congrArg some (by kernel_rfl))
  t0 := Tryd.underlying0
  a0 := Tryd.isAgg0
  z0 := Tryd.sizeOf0
  v0 := Tryd.zeroValue0
  t2 := Tryd.underlying2
  a2 := Tryd.isAgg2
  z2 := Tryd.sizeOf2
  v2 := Tryd.zeroValue2
  t3 := Tryd.underlying3
  a3 := Tryd.isAgg3
  z3 := Tryd.sizeOf3
  v3 := Tryd.zeroValue3
  t4 := Tryd.underlying4
  a4 := Tryd.isAgg4
  z4 := Tryd.sizeOf4
  v4 := Tryd.zeroValue4
  t5 := Tryd.underlying5
  a5 := Tryd.isAgg5
  z5 := Tryd.sizeOf5
  v5 := Tryd.zeroValue5
  t9 := Tryd.underlying9
  a9 := Tryd.isAgg9
  z9 := Tryd.sizeOf9
  v9 := Tryd.zeroValue9
  t20 := Tryd.underlying20
  a20 := Tryd.isAgg20
  z20 := Tryd.sizeOf20
  v20 := Tryd.zeroValue20
  t21 := Tryd.underlying21
  a21 := Tryd.isAgg21
  z21 := Tryd.sizeOf21
  v21 := Tryd.zeroValue21
  t37 := Tryd.underlying42
  a37 := Tryd.isAgg42
  z37 := Tryd.sizeOf42
  v37 := Tryd.zeroValue42
  t46 := Tryd.underlying40
  a46 := Tryd.isAgg40
  z46 := Tryd.sizeOf40
  v46 := Tryd.zeroValue40
  t51 := Tryd.underlying94
  a51 := Tryd.isAgg94
  z51 := Tryd.sizeOf94
  v51 := Tryd.zeroValue94
  t53 := Tryd.underlying129
  a53 := Tryd.isAgg129
  z53 := Tryd.sizeOf129
  v53 := Tryd.zeroValue129
  t75 := Tryd.underlying83
  a75 := Tryd.isAgg83
  z75 := Tryd.sizeOf83
  v75 := Tryd.zeroValue83
  t76 := Tryd.underlying84
  a76 := Tryd.isAgg84
  z76 := Tryd.sizeOf84
  v76 := Tryd.zeroValue84
  t85 := Tryd.underlying115
  a85 := Tryd.isAgg115
  z85 := Tryd.sizeOf115
  v85 := Tryd.zeroValue115
  t127 := Tryd.underlying152
  a127 := Tryd.isAgg152
  z127 := Tryd.sizeOf152
  v127 := Tryd.zeroValue152
  t143 := Tryd.underlying153
  a143 := Tryd.isAgg153
  z143 := Tryd.sizeOf153
  v143 := Tryd.zeroValue153
  t145 := Tryd.underlying155
  a145 := Tryd.isAgg155
  z145 := Tryd.sizeOf155
  v145 := Tryd.zeroValue155
  t167 := Tryd.underlying114
  a167 := Tryd.isAgg114
  z167 := Tryd.sizeOf114
  v167 := Tryd.zeroValue114
  t168 := Tryd.underlying117
  a168 := Tryd.isAgg117
  z168 := Tryd.sizeOf117
  v168 := Tryd.zeroValue117
  t171 := Tryd.underlying130
  a171 := Tryd.isAgg130
  z171 := Tryd.sizeOf130
  v171 := Tryd.zeroValue130
  t173 := Tryd.underlying132
  a173 := Tryd.isAgg132
  z173 := Tryd.sizeOf132
  v173 := Tryd.zeroValue132
  t175 := Tryd.underlying134
  a175 := Tryd.isAgg134
  z175 := Tryd.sizeOf134
  v175 := Tryd.zeroValue134
  t210 := Tryd.underlying138
  a210 := Tryd.isAgg138
  z210 := Tryd.sizeOf138
  v210 := Tryd.zeroValue138
  t212 := Tryd.underlying148
  a212 := Tryd.isAgg148
  z212 := Tryd.sizeOf148
  v212 := Tryd.zeroValue148
  t213 := Tryd.underlying149
  a213 := Tryd.isAgg149
  z213 := Tryd.sizeOf149
  t232 := Tryd.underlying159
  a232 := Tryd.isAgg159
  z232 := Tryd.sizeOf159
  v232 := Tryd.zeroValue159
  t233 := Tryd.underlying160
  a233 := Tryd.isAgg160
  z233 := Tryd.sizeOf160
  v233 := Tryd.zeroValue160
  g15 := by kernel_rfl
  g16 := by kernel_rfl
  g17 := by kernel_rfl
  g18 := by kernel_rfl
  g19 := by kernel_rfl
  t80 := Tryd.underlying161
  a80 := Tryd.isAgg161
  z80 := Tryd.sizeOf161
  v80 := Tryd.zeroValue161
  i0 := by kernel_rfl
  i2 := by kernel_rfl
  i3 := by kernel_rfl
  i4 := by kernel_rfl
  i5 := by kernel_rfl
  i9 := by kernel_rfl
  i20 := by kernel_rfl
  i21 := by kernel_rfl
  i37 := by kernel_rfl
  i46 := by kernel_rfl
  i51 := by kernel_rfl
  i53 := by kernel_rfl
  i75 := by kernel_rfl
  i76 := by kernel_rfl
  i80 := by kernel_rfl
  i85 := by kernel_rfl
  i127 := by kernel_rfl
  i143 := by kernel_rfl
  i145 := by kernel_rfl
  i167 := by kernel_rfl
  i168 := by kernel_rfl
  i171 := by kernel_rfl
  i173 := by kernel_rfl
  i175 := by kernel_rfl
  i210 := by kernel_rfl
  i212 := by kernel_rfl
  i232 := by kernel_rfl
  i233 := by kernel_rfl
  m15 := by kernel_rfl
  m16 := by kernel_rfl
  m17 := by kernel_rfl
  m18 := by kernel_rfl
  m19 := by kernel_rfl
  c0 := by kernel_rfl
  c2 := by kernel_rfl
  c3 := by kernel_rfl
  c4 := by kernel_rfl
  c5 := by kernel_rfl
  c9 := by kernel_rfl
  c20 := by kernel_rfl
  c21 := by kernel_rfl
  c37 := by kernel_rfl
  c46 := by kernel_rfl
  c51 := by kernel_rfl
  c53 := by kernel_rfl
  c75 := by kernel_rfl
  c76 := by kernel_rfl
  c80 := by kernel_rfl
  c85 := by kernel_rfl
  c127 := by kernel_rfl
  c143 := by kernel_rfl
  c145 := by kernel_rfl
  c167 := by kernel_rfl
  c168 := by kernel_rfl
  c171 := by kernel_rfl
  c173 := by kernel_rfl
  c175 := by kernel_rfl
  c210 := by kernel_rfl
  c212 := by kernel_rfl
  c213 := by kernel_rfl
  c232 := by kernel_rfl
  c233 := by kernel_rfl }
open Go.RowKit in
/-- strconv.Atoi, AT EVERY STRING THAT SPELLS AN int ('Lib.atoiAll .. = .ok v'; of whatever length: leading zeros count): v, AND NO ERROR. The world: as it was, or with the one new row that '[]byte(..)' lays. (LAID: no walk: one application.) -/
theorem Tryd.strconv_Atoi_ok (s : ByteArray) (hmax : s.size ≤ 9223372036854775806) (v : Int) (h : Lib.atoiAll s.data.toList = .ok v) (w : World) :
    Calls Tryd.prog 29 #[.string s] w fun e w' => e = .returned (.tuple #[.int .i64 v, .nilIface]) ∧ (w' = w ∨ ∃ t, w' = Lib.bytesWorld w 5 t) := Any.strconv_Atoi_ok Tryd.laysC172 s hmax v h w
open Go.RowKit in
theorem Tryd.strconv_Atoi_syntax_var (s : ByteArray) (hlim : s.size ≤ 281474976710656) (h : Lib.atoiAll s.data.toList = Lib.NumEnd.syntax) (tp : TypeId) (p : Value) (w : World) (hvar : w.var? Tryd.prog "strconv.ErrSyntax" = some #[.iface tp p]) :
    Calls Tryd.prog 29 #[.string s] w fun e w' => ∃ N, e = .returned (.tuple #[.int .i64 0, .iface 117 (.pointer (some ⟨N, 0, none⟩))]) ∧ w.heap.size ≤ N ∧ w'.heap[N]? = some (.cells #[.string ⟨#[65, 116, 111, 105]⟩, .string s, .iface tp p] 138 (0, 0)) ∧ Below w.heap.size w w' := Any.strconv_Atoi_syntax_var Tryd.laysC172 s hlim h tp p w hvar
open Go.RowKit in
theorem Tryd.strconv_Atoi_range_var (s : ByteArray) (hlim : s.size ≤ 281474976710656) (h : Lib.atoiAll s.data.toList = .range) (tp : TypeId) (p : Value) (w : World) (hvar : w.var? Tryd.prog "strconv.ErrRange" = some #[.iface tp p]) :
    Calls Tryd.prog 29 #[.string s] w fun e w' => ∃ N, e = .returned (.tuple #[.int .i64 (Lib.atoiSat s.data.toList), .iface 117 (.pointer (some ⟨N, 0, none⟩))]) ∧ w.heap.size ≤ N ∧ w'.heap[N]? = some (.cells #[.string ⟨#[65, 116, 111, 105]⟩, .string s, .iface tp p] 138 (0, 0)) ∧ Below w.heap.size w w' := Any.strconv_Atoi_range_var Tryd.laysC172 s hlim h tp p w hvar
def Tryd.laysNm215_ren : Go.Shelf.Ren := ⟨fun | 15 => 16 | n => n, fun | 22 => 23 | 3 => 3 | 4 => 4 | n => n, fun | n => n⟩
theorem Tryd.laysNm215 : Go.Proofs.Lays2.n15 Tryd.prog Tryd.laysNm215_ren := {
  mixed := by kernel_rfl
  f15 := Tryd.func16.trans (congrArg some (by kernel_rfl))
  t3 := Tryd.underlying3
  a3 := Tryd.isAgg3
  z3 := Tryd.sizeOf3
  v3 := Tryd.zeroValue3
  t4 := Tryd.underlying4
  a4 := Tryd.isAgg4
  z4 := Tryd.sizeOf4
  v4 := Tryd.zeroValue4
  t22 := Tryd.underlying23
  a22 := Tryd.isAgg23
  z22 := Tryd.sizeOf23
  v22 := Tryd.zeroValue23
  i3 := by kernel_rfl }
open Go.RowKit Go.Lib in
/-- slices.Clone at []int: "Clone returns a copy of the slice. The elements are copied using assignment, so this is a shallow clone. The result may have additional unused capacity. The result preserves the nilness of s.": OF A SLICE THAT IS NOT nil IT RETURNS A SLICE THAT IS NOT nil, OF THE SAME ELEMENTS, IN MEMORY OF THE CALL's OWN: in the how-to's words (6f): 'w'.ownsRow B e 1 v' n cells': v' begins at the head of a row among the blocks from B on (B: the heap's size at the call), not frozen, whose first cells are the elements · 'Below B w w'': below B all is as it was. The capacity is whatever the run-time gives. 'zs': what the cells behind the slice's address hold; 'zs.take n': its elements. (LAID: no walk: one application.) -/
theorem Tryd.slices_Clone_int (b off n c : Nat) (zs : List Int) (w : World) (hz : n ≤ zs.length) (hbig : n * 8 ≤ 140737488355328) (hc : ∀ j, j < zs.length → w.cell? ⟨b, off + j, none⟩ = some (.int .i64 (zs.getD j 0))) :
    Calls Tryd.prog 16 #[.slice (some ⟨b, off, none⟩) n c] w fun e w' => ∃ v', e = .returned v' ∧ w'.ownsRow w.heap.size 3 1 v' n ((zs.take n).map (Value.int .i64)) ∧ v' ≠ .slice none 0 0 ∧ Below w.heap.size w w' := Any.slices_Clone_int Tryd.laysNm215 b off n c zs w hz hbig hc
open Go.RowKit Go.Lib in
/-- The same at nil: nil comes back; the world is as it was. (LAID: no walk: one application.) -/
theorem Tryd.slices_Clone_int_nil (n c : Nat) (w : World) :
    Calls Tryd.prog 16 #[.slice none n c] w fun e w' => e = .returned (.slice none 0 0) ∧ w' = w := Any.slices_Clone_int_nil Tryd.laysNm215 n c w
open Go.RowKit Go.Lib in
/-- The same at a slice of length 0 that is not nil, WHATEVER ITS ADDRESS (no cell is asked for): a slice that is not nil and owns nothing comes back. (LAID: no walk: one application.) -/
theorem Tryd.slices_Clone_int_zero (a : Addr) (c : Nat) (w : World) :
    Calls Tryd.prog 16 #[.slice (some a) 0 c] w fun e w' => ∃ v', e = .returned v' ∧ w'.ownsRow w.heap.size 3 1 v' 0 [] ∧ v' ≠ .slice none 0 0 ∧ Below w.heap.size w w' := Any.slices_Clone_int_zero Tryd.laysNm215 a c w
def Tryd.laysSlE041_f16_ren : Go.Shelf.Ren := ⟨fun | 41 => 16 | n => n, fun | 22 => 23 | 23 => 3 | 4 => 4 | n => n, fun | n => n⟩
theorem Tryd.laysSlE041_f16 : Go.Proofs.SlLaysE0.n41 Tryd.prog Tryd.laysSlE041_f16_ren := {
  mixed := by kernel_rfl
  f41 := ⟨Tryd.f16.name, by decide, Tryd.func16.trans (congrArg some (by kernel_rfl))⟩
  t4 := Tryd.underlying4
  a4 := Tryd.isAgg4
  z4 := Tryd.sizeOf4
  v4 := Tryd.zeroValue4
  t22 := Tryd.underlying23
  a22 := Tryd.isAgg23
  z22 := Tryd.sizeOf23
  v22 := Tryd.zeroValue23 }
open Go.RowKit Go.Lib in
/-- slices.Clone: "Clone returns a copy of the slice. The elements are copied using assignment, so this is a shallow clone. The result may have additional unused capacity. The result preserves the nilness of s.": OF A SLICE THAT IS NOT nil IT RETURNS A SLICE THAT IS NOT nil, OF THE SAME CELLS, IN MEMORY OF THE CALL's OWN ('ownsRow': the how-to's 6f); below the heap's size at the call all is as it was. (LAID AT THE INSTANCE 'slices.Clone[[]int,int]': no walk: one application.) -/
theorem Tryd.slices_Clone (i0 : TypeInfo) (z : Value) (size bytes : Nat) (hi : Tryd.prog.info? 3 = some i0) (hz0 : i0.zero = some z) (hz1 : i0.size = size) (hz2 : i0.bytes = bytes) (hzs : z.cells.size = size) (hsz : 0 < size) (z23 : ∀ w, (Go.sizeOf 3).run Tryd.prog w = .ok size w) (b off n c : Nat) (news : List Value) (w : World) (hl : news.length = n * size) (hn : n ≤ maxLen) (hbig : n * bytes ≤ 140737488355328) (hc : ∀ j u, news[j]? = some u → w.cell? ⟨b, off + j, none⟩ = some u) (h1 : ∀ u ∈ news, u.oneCell' = true) :
    Calls Tryd.prog 16 #[.slice (some ⟨b, off, none⟩) n c] w fun e w' => ∃ v', e = .returned v' ∧ w'.ownsRow w.heap.size 3 size v' n news ∧ v' ≠ .slice none 0 0 ∧ Below w.heap.size w w' := AnyE.slices_Clone Tryd.laysSlE041_f16 i0 z size bytes hi hz0 hz1 hz2 hzs hsz z23 b off n c news w hl hn hbig hc h1
open Go.RowKit Go.Lib in
/-- The same at nil: nil comes back; the world is as it was; nothing is asked of the element's type. (LAID AT THE INSTANCE 'slices.Clone[[]int,int]': no walk: one application.) -/
theorem Tryd.slices_Clone_nil (n c : Nat) (w : World) :
    Calls Tryd.prog 16 #[.slice none n c] w fun e w' => e = .returned (.slice none 0 0) ∧ w' = w := AnyE.slices_Clone_nil Tryd.laysSlE041_f16 n c w
def Tryd.laysSlM6_f40_ren : Go.Shelf.Ren := ⟨fun | 6 => 40 | 8 => 52 | 9 => 51 | 19 => 69 | 20 => 70 | 21 => 60 | 22 => 61 | 23 => 62 | 24 => 63 | 25 => 64 | 26 => 65 | 27 => 66 | 28 => 67 | 29 => 68 | 36 => 78 | 31 => 79 | 32 => 80 | 37 => 81 | 38 => 82 | 39 => 83 | 41 => 90 | n => n, fun | 27 => 41 | 29 => 9 | 3 => 3 | 32 => 40 | 26 => 41 | 0 => 0 | 44 => 94 | 46 => 129 | 4 => 4 | 36 => 122 | 35 => 121 | 41 => 55 | 5 => 5 | 9 => 9 | 53 => 140 | 57 => 144 | 63 => 156 | 64 => 157 | n => n, fun | n => n⟩
theorem Tryd.laysSlM6_f40 : Go.Proofs.SlLaysM.n6 Tryd.prog Tryd.laysSlM6_f40_ren := {
  mixed := by kernel_rfl
  f6 := ⟨Tryd.f40.name, by decide, Tryd.func40.trans (congrArg some (by kernel_rfl))⟩
  f8 := Tryd.func52.trans (congrArg some (by kernel_rfl))
  f9 := ⟨Tryd.f51.name, by decide, Tryd.func51.trans (congrArg some (by kernel_rfl))⟩
  f19 := Tryd.func69.trans (congrArg some (by kernel_rfl))
  f20 := Tryd.func70.trans (congrArg some (by kernel_rfl))
  f21 := ⟨Tryd.f60.name, by decide, Tryd.func60.trans (congrArg some (by kernel_rfl))⟩
  f22 := ⟨Tryd.f61.name, by decide, Tryd.func61.trans (congrArg some (by kernel_rfl))⟩
  f23 := ⟨Tryd.f62.name, by decide, Tryd.func62.trans (congrArg some (by kernel_rfl))⟩
  f24 := ⟨Tryd.f63.name, by decide, Tryd.func63.trans (congrArg some (by kernel_rfl))⟩
  f25 := ⟨Tryd.f64.name, by decide, Tryd.func64.trans (congrArg some (by kernel_rfl))⟩
  f26 := ⟨Tryd.f65.name, by decide, Tryd.func65.trans (congrArg some (by kernel_rfl))⟩
  f27 := ⟨Tryd.f66.name, by decide, Tryd.func66.trans (congrArg some (by kernel_rfl))⟩
  f28 := ⟨Tryd.f67.name, by decide, Tryd.func67.trans (congrArg some (by kernel_rfl))⟩
  f29 := ⟨Tryd.f68.name, by decide, Tryd.func68.trans (congrArg some (by kernel_rfl))⟩
  f31 := Tryd.func79.trans (congrArg some (by kernel_rfl))
  f32 := Tryd.func80.trans (congrArg some (by kernel_rfl))
  f36 := ⟨Tryd.f78.name, by decide, Tryd.func78.trans (congrArg some (by kernel_rfl))⟩
  f37 := ⟨Tryd.f81.name, by decide, Tryd.func81.trans (congrArg some (by kernel_rfl))⟩
  f38 := ⟨Tryd.f82.name, by decide, Tryd.func82.trans (congrArg some (by kernel_rfl))⟩
  f39 := ⟨Tryd.f83.name, by decide, Tryd.func83.trans (congrArg some (by kernel_rfl))⟩
  f41 := ⟨Tryd.f90.name, by decide, Tryd.func90.trans (congrArg some (by kernel_rfl))⟩
  t0 := Tryd.underlying0
  a0 := Tryd.isAgg0
  z0 := Tryd.sizeOf0
  v0 := Tryd.zeroValue0
  t3 := Tryd.underlying3
  a3 := Tryd.isAgg3
  z3 := Tryd.sizeOf3
  v3 := Tryd.zeroValue3
  t4 := Tryd.underlying4
  a4 := Tryd.isAgg4
  z4 := Tryd.sizeOf4
  v4 := Tryd.zeroValue4
  t5 := Tryd.underlying5
  a5 := Tryd.isAgg5
  z5 := Tryd.sizeOf5
  v5 := Tryd.zeroValue5
  t9 := Tryd.underlying9
  a9 := Tryd.isAgg9
  z9 := Tryd.sizeOf9
  v9 := Tryd.zeroValue9
  t26 := Tryd.underlying41
  a26 := Tryd.isAgg41
  z26 := Tryd.sizeOf41
  v26 := Tryd.zeroValue41
  t27 := Tryd.underlying41
  a27 := Tryd.isAgg41
  z27 := Tryd.sizeOf41
  v27 := Tryd.zeroValue41
  t29 := Tryd.underlying9
  a29 := Tryd.isAgg9
  z29 := Tryd.sizeOf9
  v29 := Tryd.zeroValue9
  t32 := Tryd.underlying40
  a32 := Tryd.isAgg40
  z32 := Tryd.sizeOf40
  v32 := Tryd.zeroValue40
  t35 := Tryd.underlying121
  a35 := Tryd.isAgg121
  z35 := Tryd.sizeOf121
  v35 := Tryd.zeroValue121
  t36 := Tryd.underlying122
  a36 := Tryd.isAgg122
  z36 := Tryd.sizeOf122
  v36 := Tryd.zeroValue122
  t41 := Tryd.underlying55
  a41 := Tryd.isAgg55
  z41 := Tryd.sizeOf55
  v41 := Tryd.zeroValue55
  t44 := Tryd.underlying94
  a44 := Tryd.isAgg94
  z44 := Tryd.sizeOf94
  v44 := Tryd.zeroValue94
  t46 := Tryd.underlying129
  a46 := Tryd.isAgg129
  z46 := Tryd.sizeOf129
  v46 := Tryd.zeroValue129
  t53 := Tryd.underlying140
  a53 := Tryd.isAgg140
  z53 := Tryd.sizeOf140
  v53 := Tryd.zeroValue140
  t57 := Tryd.underlying144
  a57 := Tryd.isAgg144
  z57 := Tryd.sizeOf144
  v57 := Tryd.zeroValue144
  t63 := Tryd.underlying156
  a63 := Tryd.isAgg156
  z63 := Tryd.sizeOf156
  v63 := Tryd.zeroValue156
  t64 := Tryd.underlying157
  a64 := Tryd.isAgg157
  z64 := Tryd.sizeOf157
  v64 := Tryd.zeroValue157 }
open Go.Sort Go.RowKit in
theorem Tryd.slices_Sort_string (blk off cap : Nat) (ss : List (List UInt8)) (w : World) (hH : Holds encStr w blk off ss.toArray) (hblk : blk < w.heap.size) (hsz : ss.length < 4611686018427387904) :
    Calls Tryd.prog 40 #[.slice (some ⟨blk, off, none⟩) ss.length cap] w fun e w' =>
      e = .returned (.tuple #[]) ∧ ∃ n os, w' = grow (putRow encStr (Sort.ahead w n) blk off (ss.mergeSort fun x y => decide (x ≤ y)).toArray) os := AnyM.slices_Sort_string Tryd.laysSlM6_f40 blk off cap ss w hH hblk hsz
open Go.RowKit Go.Sort in
/-- .. and plain. (LAID AT THE INSTANCE 'slices.Sort[[]string,string]': no walk: one application.) -/
theorem Tryd.slices_Sort_string_none (p : Option Addr) (cap : Nat) (w : World) :
    Calls Tryd.prog 40 #[.slice p 0 cap] w fun e w' => e = .returned (.tuple #[]) ∧ w' = w := AnyM.slices_Sort_string_none Tryd.laysSlM6_f40 p cap w
end Go.Proofs
namespace Go.Proofs.YtcinagglbkbmkaaDoor
set_option linter.unusedSimpArgs false
set_option linter.unusedVariables false
open Go Go.RowKit
open Go.Maps Go.WideMaps

def cloneB_ren : Go.Shelf.Ren := ⟨fun | 41 => 24 | n => n, fun | 22 => 42 | 23 => 5 | 4 => 4 | n => n, fun | n => n⟩
theorem cloneB_lays : Go.Proofs.SlLaysE0.n41 Tryd.prog cloneB_ren := {
  mixed := by kernel_rfl
  f41 := ⟨Tryd.f24.name, by decide, Tryd.func24.trans (congrArg some (by kernel_rfl))⟩
  t4 := Tryd.underlying4
  a4 := Tryd.isAgg4
  z4 := Tryd.sizeOf4
  v4 := Tryd.zeroValue4
  t22 := Tryd.underlying42
  a22 := Tryd.isAgg42
  z22 := Tryd.sizeOf42
  v22 := Tryd.zeroValue42 }
def cloneM_ren : Go.Shelf.Ren := ⟨fun | 5 => 20 | 7 => 38 | n => n, fun | 4 => 4 | 20 => 20 | 23 => 35 | 25 => 9 | 3 => 3 | n => n, fun | n => n⟩
theorem cloneM_lays : Go.Proofs.SlLaysW.n5 Tryd.prog cloneM_ren := {
  mixed := by kernel_rfl
  f5 := ⟨Tryd.f20.name, by decide, Tryd.func20.trans (congrArg some (by kernel_rfl))⟩
  f7 := Tryd.func38.trans (congrArg some (by kernel_rfl))
  t4 := Tryd.underlying4
  a4 := Tryd.isAgg4
  z4 := Tryd.sizeOf4
  v4 := Tryd.zeroValue4
  t20 := Tryd.underlying20
  a20 := Tryd.isAgg20
  z20 := Tryd.sizeOf20
  v20 := Tryd.zeroValue20
  t23 := Tryd.underlying35
  a23 := Tryd.isAgg35
  z23 := Tryd.sizeOf35
  v23 := Tryd.zeroValue35 }

theorem infoB : (Tryd.prog.info? 5).map (fun i => (i.zero, i.size, i.bytes)) = some (some (.int .u8 0), 1, 1) := by kernel_rfl
/-- A slice of bytes in memory of the call's own. -/
def OwnB (w : World) (base : Nat) (v : Value) (l : List UInt8) : Prop := w.ownsRow base 5 1 v l.length (u8Cells l)
theorem u8Cells_one (l : List UInt8) : ∀ u ∈ u8Cells l, u.oneCell' = true := fun u hu => by
  unfold u8Cells at hu
  obtain ⟨c, _, rfl⟩ := List.mem_map.1 hu
  rfl
theorem u8Cells_len (l : List UInt8) : (u8Cells l).length = l.length := by simp [u8Cells]
theorem cloneB (base : Nat) (v : Value) (l : List UInt8) (w : World) (h : OwnB w base v l) (hl : l.length ≤ 1000000000) :
    Calls Tryd.prog 24 #[v] w fun e w' => ∃ v', e = .returned v' ∧ OwnB w' w.heap.size v' l ∧ Below w.heap.size w w' := by
  obtain ⟨i0, hi, hz0, hz1, hz2⟩ := info_parts infoB
  rcases h.2 with ⟨h1, h2⟩ | ⟨g, cap, cur, h1, hg, hc, hcap, hmax, hsz, htk⟩
  · rw [h1]
    refine (AnyE.slices_Clone_nil cloneB_lays 0 0 w).mono ?_
    rintro e w' ⟨rfl, rfl⟩
    have hl0 : l = [] := List.length_eq_zero_iff.1 h2
    subst hl0
    exact ⟨_, rfl, World.ownsRow_nil _ _ _ _, Below.refl _ _⟩
  · rw [h1]
    refine (AnyE.slices_Clone cloneB_lays i0 (.int .u8 0) 1 1 hi hz0 hz1 hz2 rfl (by decide) (fun w => Tryd.sizeOf5 w) g 0 l.length cap (u8Cells l) w (by rw [u8Cells_len]; omega) (by unfold maxLen; omega) (by omega) ?_ (u8Cells_one l)).mono ?_
    · intro j u hj
      rw [Nat.zero_add]
      have := World.ownsRow.cells h (by rw [h1]; rfl) j u hj
      rw [addr_add] at this
      exact this
    · rintro e w' ⟨v', rfl, h3, _, h4⟩
      exact ⟨v', rfl, h3, h4⟩
theorem cloneM (b : Nat) (l : Fs.Names) (w : World) (h : MapOf w b l) :
    Calls Tryd.prog 20 #[.map (some b)] w fun e w' => e = .returned (.map (some w.heap.size)) ∧ MapOf w' w.heap.size l ∧ Below w.heap.size w w' := by
  refine (AnyW.maps_Clone_owns cloneM_lays 9 (plainElem Tryd.prog 3) b l.length (Fs.datum l) w h).mono ?_
  rintro e w' ⟨rfl, h1, _, h2⟩
  exact ⟨rfl, h1, h2⟩
end Go.Proofs.YtcinagglbkbmkaaDoor
namespace Go.Proofs.YtcinagglbkbmkaaDoor
set_option linter.unusedSimpArgs false
set_option linter.unusedVariables false
open Go Go.RowKit
open Go.Maps Go.WideMaps

namespace Fs
def new (room : Int) : St := ⟨0, -1, [], room, [], [], [], []⟩
/-- All of a file's bytes are sure. -/
def flush (l : List (List UInt8 × Nat)) (i : Nat) : List (List UInt8 × Nat) := match l[i]? with | some f => l.set i (f.1, f.1.length) | none => l
def sync (st : St) (n : List UInt8) : St × Int :=
  if openE st n ≠ 0 then (st, openE st n)
  else if (step st).2.2 ≠ 0 then ((step st).1, (step st).2.2)
  else ({ (step st).1 with files := flush st.files (idx st n) }, 0)
def syncDir (st : St) : St × Int :=
  if (step st).2.2 ≠ 0 then ((step st).1, (step st).2.2) else ({ (step st).1 with sure := st.dir, changes := [] }, 0)
theorem step_files (st : St) : (step st).1.files = st.files := by unfold step; split <;> rfl
theorem step_dir (st : St) : (step st).1.dir = st.dir := by unfold step; split <;> rfl
end Fs

/-- The first tags. -/
def tags0 (n : Nat) : Nat → Tag := fun k => if k = n then .dir else if k = n + 1 then .sure else if k = n + 2 then .root else .other

/-- The file system, with what its tags say of other blocks. -/
structure FsOK (base B : Nat) (st : Fs.St) (V : FsV) (own : Nat → Tag) (w : World) : Prop where
  at_ : FsAt base B st V own w
  fresh : ∀ k, w.heap.size ≤ k → own k = .other
  old : ∀ k, k < base → own k = .other
theorem heap_new (w : World) (o : Obj) : (w.alloc o).heap[w.heap.size]? = some o := by
  show (w.heap.push _)[w.heap.size]? = _
  simp
theorem fs_start (room : Int) (w : World) : FsOK w.heap.size (w.heap.size + 2) (Fs.new room) ⟨.slice none 0 0, .slice none 0 0, .slice none 0 0, w.heap.size, w.heap.size + 1, [], []⟩ (tags0 w.heap.size)
    (((w.alloc (.map #[] 0)).alloc (.map #[] 0)).alloc (.cells #[.int .i64 0, .int .i64 (-1), .slice none 0 0, .int .i64 room, .slice none 0 0, .map (some w.heap.size), .map (some (w.heap.size + 1)), .slice none 0 0] 38)) := by
  have e1 : (w.alloc (.map #[] 0)).heap.size = w.heap.size + 1 := by simp
  have e2 : ((w.alloc (.map #[] 0)).alloc (.map #[] 0)).heap.size = w.heap.size + 2 := by simp
  have m1 : MapOf (((w.alloc (.map #[] 0)).alloc (.map #[] 0)).alloc (.cells #[.int .i64 0, .int .i64 (-1), .slice none 0 0, .int .i64 room, .slice none 0 0, .map (some w.heap.size), .map (some (w.heap.size + 1)), .slice none 0 0] 38)) w.heap.size [] :=
    ((World.ownsMap_made w _ _ _).alloc _).alloc _
  have m2 : MapOf (((w.alloc (.map #[] 0)).alloc (.map #[] 0)).alloc (.cells #[.int .i64 0, .int .i64 (-1), .slice none 0 0, .int .i64 room, .slice none 0 0, .map (some w.heap.size), .map (some (w.heap.size + 1)), .slice none 0 0] 38)) (w.heap.size + 1) [] := by
    have := (World.ownsMap_made (w.alloc (.map #[] 0)) Tryd.prog 9 (plainElem (H := Unit) Tryd.prog 3)).alloc (.cells #[.int .i64 0, .int .i64 (-1), .slice none 0 0, .int .i64 room, .slice none 0 0, .map (some w.heap.size), .map (some (w.heap.size + 1)), .slice none 0 0] 38)
    rw [e1] at this
    exact this
  refine ⟨⟨?_, by simp [tags0], by omega, ⟨by simp [Fs.new], by simp [Fs.new]⟩, ⟨none, 0, rfl, Nat.le_refl _, fun i z h => by simp [Fs.new] at h⟩, World.ownsRow_nil _ _ _ _, fun k h => by simp [Value.ownBlock] at h, rfl, rfl, fun i f b d h => by simp [Fs.new] at h,
    m1, by simp [tags0], m2, by simp [tags0], ⟨[], World.ownsRow_nil _ _ _ _, fun k h => by simp [Value.ownBlock] at h, fun i x y h => by simp at h⟩, fun p h => by simp [Fs.new] at h, ⟨by simp, by simp⟩⟩, fun k hk => ?_, fun k hk => ?_⟩
  · have := heap_new ((w.alloc (.map #[] 0)).alloc (.map #[] 0)) (.cells #[.int .i64 0, .int .i64 (-1), .slice none 0 0, .int .i64 room, .slice none 0 0, .map (some w.heap.size), .map (some (w.heap.size + 1)), .slice none 0 0] 38)
    rw [e2] at this
    exact this
  · simp at hk
    unfold tags0
    rw [if_neg (by omega), if_neg (by omega), if_neg (by omega)]
  · unfold tags0
    rw [if_neg (by omega), if_neg (by omega), if_neg (by omega)]

set_option maxHeartbeats 1000000 in
set_option maxRecDepth 100000 in
theorem new_any (room : Int) (w : World) :
    Calls Tryd.prog 5 #[.int .i64 room] w fun e w' => Below w.heap.size w w' ∧
      (((room < 1 ∨ 1048576 < room) ∧ e = .returned (.tuple #[.pointer none, .int .i64 1])) ∨
       (¬ (room < 1 ∨ 1048576 < room) ∧ e = .returned (.tuple #[.pointer (some ⟨w.heap.size + 2, 0, none⟩), .int .i64 0]) ∧
        ∃ V, FsOK w.heap.size (w.heap.size + 2) (Fs.new room) V (tags0 w.heap.size) w')) := by
  have hmm := @run_makeMap Tryd.prog
  by_cases hr : room < 1 ∨ 1048576 < room
  · rcases hr with h | h
    · go_enter Tryd.func5, Tryd.ntmps5
      go_wp2
      refine bodyPost_ret (v := .tuple #[.pointer none, .int .i64 1]) (by simp [results, Tryd.results5, go_sem]) rfl ?_
      exact ⟨Below.refl _ _, .inl ⟨.inl h, rfl⟩⟩
    · have h1 : 1 ≤ room := by omega
      go_enter Tryd.func5, Tryd.ntmps5
      go_wp2
      refine bodyPost_ret (v := .tuple #[.pointer none, .int .i64 1]) (by simp [results, Tryd.results5, go_sem]) rfl ?_
      exact ⟨Below.refl _ _, .inl ⟨.inr h, rfl⟩⟩
  · have h1 : 1 ≤ room := by omega
    have h2 : room ≤ 1048576 := by omega
    go_enter Tryd.func5, Tryd.ntmps5
    go_wp2
    refine bodyPost_ret (v := .tuple #[.pointer (some ⟨w.heap.size + 2, 0, none⟩), .int .i64 0]) (by simp [results, Tryd.results5, go_sem]) rfl ?_
    exact ⟨((((Below.refl _ _).alloc (Nat.le_refl _) _).alloc (by simp) _).alloc (by simp; omega) _), .inr ⟨hr, rfl, _, fs_start room w⟩⟩

/-- One file turns. -/
theorem FsAt.file1 {base B : Nat} {st : Fs.St} {V : FsV} {own : Nat → Tag} {w w' : World} (h : FsAt base B st V own w) {i b : Nat} {f f' : List UInt8 × Nat} {d d' : Value} (hf : st.files[i]? = some f) (hb : V.fb[i]? = some b)
    (hd : V.dv[i]? = some d) (hk : Kept own (fun t => t = .file i ∨ t = .data i) w w') (hF : FileAt w' base own i f' b d') :
    FsAt base B { st with files := st.files.set i f' } { V with dv := V.dv.set i d' } own w' where
  root := by rw [hk.block B (heap_lt h.root) (by rw [h.tB]; simp)]; exact h.root
  tB := h.tB
  lo := h.lo
  left := h.left
  plan := h.plan.kept hk (by simp)
  files := by
    rw [List.length_set]
    exact row_kept h.files (fun g hg => hk.block g (row_block_lt h.files g hg).2 (by rw [h.tfiles g hg]; simp))
  tfiles := h.tfiles
  nfb := by rw [List.length_set]; exact h.nfb
  ndv := by rw [List.length_set, List.length_set]; exact h.ndv
  file := fun j g c x h1 h2 h3 => by
    by_cases hij : i = j
    · subst hij
      have hi1 : i < st.files.length := (List.getElem?_eq_some_iff.1 hf).1
      have hi2 : i < V.dv.length := (List.getElem?_eq_some_iff.1 hd).1
      simp only [List.getElem?_set_self hi1, List.getElem?_set_self hi2, Option.some.injEq] at h1 h3
      subst h1 h3
      rw [hb] at h2
      simp only [Option.some.injEq] at h2
      subst h2
      exact hF
    · simp only [List.getElem?_set_ne hij] at h1 h3
      exact (h.file j g c x h1 h2 h3).kept hk (by simp; omega) (by simp; omega)
  dir := h.dir.heap (hk.block _ h.dir.lt (by rw [h.tdir]; simp))
  tdir := h.tdir
  sure := h.sure.heap (hk.block _ h.sure.lt (by rw [h.tsure]; simp))
  tsure := h.tsure
  chg := h.chg.kept hk (by simp) (by simp)
  known := fun p hp => by rw [List.length_set]; exact h.known p hp
  bl := h.bl

/-- What an operation leaves: the state behind it; all other blocks as they were. -/
def OpPost (base B : Nat) (st' : Fs.St) (own : Nat → Tag) (w w' : World) : Prop :=
  ∃ V' own', FsOK base B st' V' own' w' ∧ (∀ k, k < w.heap.size → own' k = own k) ∧ Kept own (· ≠ .other) w w'

theorem FsOK.kept {base B : Nat} {st : Fs.St} {V : FsV} {own : Nat → Tag} {w w' : World} (h : FsOK base B st V own w) (hk : Kept own (· = .other) w w') : FsOK base B st V own w' :=
  ⟨h.at_.kept hk, fun k hk2 => h.fresh k (Nat.le_trans hk.size hk2), h.old⟩
theorem kept_below {own : Nat → Tag} {T : Tag → Prop} {w w' : World} (hb : Below w.heap.size w w') : Kept own T w w' := (Kept.refl own T w).below hb

set_option maxHeartbeats 1000000 in
set_option maxRecDepth 100000 in
theorem sync_any (base B : Nat) (st : Fs.St) (V : FsV) (own : Nat → Tag) (s : ByteArray) (w : World) (h : FsOK base B st V own w) (hs : s.size ≤ 1000000) :
    Calls Tryd.prog 19 #[.pointer (some ⟨B, 0, none⟩), .string s] w fun e w' => e = .returned (.int .i64 (Fs.sync st s.data.toList).2) ∧ OpPost base B (Fs.sync st s.data.toList).1 own w w' := by
  have H := Lib.hid h
  clear h
  go_enter Tryd.func19, Tryd.ntmps19
  go_wp2_with fail
  refine (open_any base B st V own s w H.out.at_ hs).mono ?_
  rintro e w1 ⟨hb1, hres⟩
  have H1 := Lib.hid (H.out.kept (kept_below hb1))
  rcases hres with ⟨h0, f, b, d, hf, hb, hd, rfl⟩ | ⟨h0, rfl⟩
  · go_wp2_with fail
    refine (step_any base B st V own w1 H1.out.at_).mono ?_
    rintro e w2 ⟨pv, rfl, h2, hk2⟩
    have hk02 : Kept own (· ≠ .other) w w2 := (kept_below hb1).trans (hk2.mono (fun t ht => by rw [ht]; simp))
    have hfr2 : ∀ k, w2.heap.size ≤ k → own k = .other := fun k hk => H1.out.fresh k (Nat.le_trans hk2.size hk)
    by_cases hc : (Fs.step st).2.2 = 0
    · have HE : Hid (Fs.sync st s.data.toList = ({ (Fs.step st).1 with files := Fs.flush st.files (Fs.idx st s.data.toList) }, 0)) := by
        unfold Fs.sync; rw [if_neg (by simp [h0]), if_neg (by simp [hc])]; exact Lib.hid rfl
      have hc2 : ((Fs.step st).2.2 == 0) = true := by rw [hc]; rfl
      have HF := Lib.hid (h2.file (Fs.idx st s.data.toList) f b d (by rw [Fs.step_files]; exact hf) hb hd)
      have x0 : w2.cell? ⟨b, 0, none⟩ = some d := root_cell HF.out.blk 0 _ rfl
      have y1 := root_frozen HF.out.blk 1
      obtain ⟨da, dc, hdv⟩ : ∃ a c, d = .slice a f.1.length c := by
        rcases HF.out.row.2 with ⟨e1, e2⟩ | ⟨g, cap, cur, e1, _⟩
        · exact ⟨none, 0, by rw [e1, e2]⟩
        · exact ⟨_, _, e1⟩
      rw [hdv] at x0
      have x1 : w2.cell? ⟨b, 1, none⟩ = some (.int .i64 f.2) := root_cell HF.out.blk 1 _ rfl
      have HC := Lib.hid hc
      have HFL : Hid (Fs.flush st.files (Fs.idx st s.data.toList) = (Fs.step st).1.files.set (Fs.idx st s.data.toList) (f.1, f.1.length)) := by
        unfold Fs.flush; rw [hf, Fs.step_files]; exact Lib.hid rfl
      have hkb : ∀ v, Kept own (fun t => t = .file (Fs.idx st s.data.toList) ∨ t = .data (Fs.idx st s.data.toList)) w2 (w2.setCell ⟨b, 1, none⟩ v) := fun v => (Kept.refl _ _ _).setCell ⟨b, 1, none⟩ (.inl HF.out.tag) v
      have HNEW := Lib.hid (h2.file1 (f' := (f.1, f.1.length)) (d' := d) (by rw [Fs.step_files]; exact hf) hb hd (hkb (.int .i64 (f.1.length : Nat)))
        ⟨heap_set HF.out.blk _, HF.out.tag, row_kept HF.out.row (fun g hg => Below.heap_setCell _ _ _ _ (fun e => by
          have h1 := HF.out.tagD g hg
          rw [e] at h1
          rw [HF.out.tag] at h1
          cases h1)), HF.out.tagD⟩)
      clear hc
      go_wp2
      go_ret
      rw [HE.out, HFL.out]
      exact ⟨congrArg (fun x => Ending.returned (.int .i64 x)) HC.out, _, own, ⟨HNEW.out, fun k hk => hfr2 k (Nat.le_trans (hkb (.int .i64 (f.1.length : Nat))).size hk), H1.out.old⟩, fun _ _ => rfl, hk02.trans ((hkb _).mono (fun t ht => by rcases ht with rfl | rfl <;> simp))⟩
    · have HE : Hid (Fs.sync st s.data.toList = ((Fs.step st).1, (Fs.step st).2.2)) := by
        unfold Fs.sync; rw [if_neg (by simp [h0]), if_pos hc]; exact Lib.hid rfl
      have hc2 : ((Fs.step st).2.2 == 0) = false := by rw [beq_eq_false_iff_ne]; exact hc
      go_wp2
      go_ret
      rw [HE.out]
      exact ⟨rfl, _, own, ⟨h2, hfr2, H1.out.old⟩, fun _ _ => rfl, hk02⟩
  · have HE : Hid (Fs.sync st s.data.toList = (st, Fs.openE st s.data.toList)) := by unfold Fs.sync; rw [if_pos h0]; exact Lib.hid rfl
    have hc2 : (Fs.openE st s.data.toList != 0) = true := by rw [bne_iff_ne]; exact h0
    go_wp2
    go_ret
    rw [HE.out]
    exact ⟨rfl, V, own, H1.out, fun _ _ => rfl, kept_below hb1⟩
end Go.Proofs.YtcinagglbkbmkaaDoor
namespace Go.Proofs.YtcinagglbkbmkaaDoor
set_option linter.unusedSimpArgs false
set_option linter.unusedVariables false
open Go Go.RowKit
open Go.Maps Go.WideMaps

def tag1 (own : Nat → Tag) (n : Nat) (t : Tag) : Nat → Tag := fun k => if k = n then t else own k
theorem tag1_old {own : Nat → Tag} {n : Nat} {t : Tag} {k : Nat} (h : k < n) : tag1 own n t k = own k := if_neg (by omega)
theorem tag1_new {own : Nat → Tag} {n : Nat} {t : Tag} : tag1 own n t n = t := if_pos rfl

/-- The directory is sure. -/
theorem FsAt.synced {base B : Nat} {st : Fs.St} {V : FsV} {own : Nat → Tag} {w w3 : World} (h : FsAt base B st V own w) (hb : Below w.heap.size w w3) (hm : MapOf w3 w.heap.size st.dir) (hbase : base ≤ w.heap.size) :
    FsAt base B { st with sure := st.dir, changes := [] } { V with ms := w.heap.size, cv := .slice none 0 0 } (tag1 own w.heap.size .sure)
      ((w3.setCell ⟨B, 6, none⟩ (.map (some w.heap.size))).setCell ⟨B, 7, none⟩ (.slice none 0 0)) := by
  have ho : ∀ k, k < w.heap.size → tag1 own w.heap.size .sure k = own k := fun k hk => tag1_old hk
  have hB := heap_lt h.root
  have hk : Kept own (· = .root) w ((w3.setCell ⟨B, 6, none⟩ (.map (some w.heap.size))).setCell ⟨B, 7, none⟩ (.slice none 0 0)) :=
    ((kept_below hb).setCell ⟨B, 6, none⟩ h.tB _).setCell ⟨B, 7, none⟩ h.tB _
  have hk2 := hk.tags ho
  have hr3 : w3.heap[B]? = some (.cells (FsCells st V) 38 (0, 0)) := by rw [hb.block B hB]; exact h.root
  refine ⟨heap_set (heap_set hr3 _) _, (ho B hB).trans h.tB, h.lo, h.left, (h.plan.tags (fun k hk _ => ho k hk)).kept hk2 (by simp), row_kept h.files (fun g hg => hk.block g (row_block_lt h.files g hg).2 (by rw [h.tfiles g hg]; simp)), fun k hk3 => (ho k (row_block_lt h.files k hk3).2).trans (h.tfiles k hk3), h.nfb, h.ndv,
    fun i f b d h1 h2 h3 => ((h.file i f b d h1 h2 h3).tags (fun k hk _ => ho k hk)).kept hk2 (by simp) (by simp), h.dir.heap (hk.block _ h.dir.lt (by rw [h.tdir]; simp)), (ho _ h.dir.lt).trans h.tdir, ?_, tag1_new, ?_, h.known, ⟨h.bl.1, hbase⟩⟩
  · refine hm.heap ?_
    have hne : w.heap.size ≠ B := by omega
    rw [Below.heap_setCell _ _ _ _ hne, Below.heap_setCell _ _ _ _ hne]
  · exact ⟨[], World.ownsRow_nil _ _ _ _, fun k h => by simp [Value.ownBlock] at h, fun i x y h => by simp at h⟩

set_option maxHeartbeats 1000000 in
set_option maxRecDepth 100000 in
theorem syncDir_any (base B : Nat) (st : Fs.St) (V : FsV) (own : Nat → Tag) (w : World) (h : FsOK base B st V own w) :
    Calls Tryd.prog 15 #[.pointer (some ⟨B, 0, none⟩)] w fun e w' => e = .returned (.int .i64 (Fs.syncDir st).2) ∧ OpPost base B (Fs.syncDir st).1 own w w' := by
  have H := Lib.hid h
  clear h
  go_enter Tryd.func15, Tryd.ntmps15
  go_wp2_with fail
  refine (step_any base B st V own w H.out.at_).mono ?_
  rintro e w2 ⟨pv, rfl, h2, hk2⟩
  have hk02 : Kept own (· ≠ .other) w w2 := hk2.mono (fun t ht => by rw [ht]; simp)
  have hfr2 : ∀ k, w2.heap.size ≤ k → own k = .other := fun k hk => H.out.fresh k (Nat.le_trans hk2.size hk)
  by_cases hc : (Fs.step st).2.2 = 0
  · have HE : Hid (Fs.syncDir st = ({ (Fs.step st).1 with sure := st.dir, changes := [] }, 0)) := by unfold Fs.syncDir; rw [if_neg (by simp [hc])]; exact Lib.hid rfl
    have hc2 : ((Fs.step st).2.2 == 0) = true := by rw [hc]; rfl
    have HC := Lib.hid hc
    have hdir := h2.dir
    have hds : (Fs.step st).1.dir = st.dir := Fs.step_dir st
    have hlt2 := heap_lt h2.root
    have hlo := h2.lo
    have x5 : w2.cell? ⟨B, 5, none⟩ = some (.map (some V.md)) := root_cell h2.root 5 _ rfl
    have HD := Lib.hid hdir
    have HDS := Lib.hid hds
    have H2 := Lib.hid h2
    clear hc hdir hds h2
    go_wp2_with fail
    refine (cloneM V.md _ w2 HD.out).mono ?_
    rintro e w3 ⟨rfl, hm3, hb3⟩
    have hr3 : w3.heap[B]? = w2.heap[B]? := hb3.block B hlt2
    have hr3' := hr3.trans H2.out.root
    have y6 : w3.cell? ⟨B, 6, none⟩ = some (.map (some V.ms)) := root_cell hr3' 6 _ rfl
    have y7 : w3.cell? ⟨B, 7, none⟩ = some V.cv := root_cell hr3' 7 _ rfl
    have z6 := root_frozen hr3' 6
    have z7 := root_frozen hr3' 7
    have HN := Lib.hid (H2.out.synced hb3 hm3 (by omega))
    have hkk : Kept own (· ≠ .other) w2 ((w3.setCell ⟨B, 6, none⟩ (.map (some w2.heap.size))).setCell ⟨B, 7, none⟩ (.slice none 0 0)) :=
      ((kept_below hb3).setCell ⟨B, 6, none⟩ (by rw [H2.out.tB]; simp) _).setCell ⟨B, 7, none⟩ (by rw [H2.out.tB]; simp) _
    have hsz : w2.heap.size < w3.heap.size := hm3.lt
    clear hr3 hr3' hm3
    go_wp2
    go_ret
    rw [HE.out, ← HDS.out]
    refine ⟨congrArg (fun x => Ending.returned (.int .i64 x)) HC.out, _, _, ⟨HN.out, fun k hk => ?_, fun k hk => ?_⟩, fun k hk => tag1_old (Nat.lt_of_lt_of_le hk hk02.size), hk02.trans hkk⟩
    · simp [World.setCell] at hk
      unfold tag1
      rw [if_neg (by omega)]
      exact hfr2 k (by omega)
    · rw [tag1_old (by omega)]
      exact H.out.old k hk
  · have HE : Hid (Fs.syncDir st = ((Fs.step st).1, (Fs.step st).2.2)) := by unfold Fs.syncDir; rw [if_pos hc]; exact Lib.hid rfl
    have hc2 : ((Fs.step st).2.2 == 0) = false := by rw [beq_eq_false_iff_ne]; exact hc
    go_wp2
    go_ret
    rw [HE.out]
    exact ⟨rfl, _, own, ⟨h2, hfr2, H.out.old⟩, fun _ _ => rfl, hk02⟩

/-- What 'Read' leaves: the file's bytes, in memory of the call's own. -/
def ReadPost (st : Fs.St) (n : List UInt8) (w : World) (e : Ending) (w' : World) : Prop :=
  Below w.heap.size w w' ∧
  ((Fs.openE st n = 0 ∧ ∃ f v, st.files[Fs.idx st n]? = some f ∧ e = .returned (.tuple #[v, .int .i64 0]) ∧ OwnB w' w.heap.size v f.1) ∨
   (Fs.openE st n ≠ 0 ∧ e = .returned (.tuple #[.slice none 0 0, .int .i64 (Fs.openE st n)])))

theorem OwnB.mono {w : World} {base base' : Nat} {v : Value} {l : List UInt8} (h : OwnB w base v l) (hb : base' ≤ base) : OwnB w base' v l := by
  refine ⟨h.1, ?_⟩
  rcases h.2 with h2 | ⟨g, cap, cur, hv, hg, r⟩
  · exact .inl h2
  · exact .inr ⟨g, cap, cur, hv, Nat.le_trans hb hg, r⟩

set_option maxHeartbeats 1000000 in
set_option maxRecDepth 100000 in
theorem read_any (base B : Nat) (st : Fs.St) (V : FsV) (own : Nat → Tag) (s : ByteArray) (w : World) (h : FsOK base B st V own w) (hs : s.size ≤ 1000000) (hlen : ∀ f ∈ st.files, f.1.length ≤ 1000000000) :
    Calls Tryd.prog 25 #[.pointer (some ⟨B, 0, none⟩), .string s] w (ReadPost st s.data.toList w) := by
  have H := Lib.hid h
  clear h
  go_enter Tryd.func25, Tryd.ntmps25
  go_wp2_with fail
  refine (open_any base B st V own s w H.out.at_ hs).mono ?_
  rintro e w1 ⟨hb1, hres⟩
  have H1 := Lib.hid (H.out.kept (kept_below hb1))
  rcases hres with ⟨h0, f, b, d, hf, hb, hd, rfl⟩ | ⟨h0, rfl⟩
  · have HF := Lib.hid (H1.out.at_.file (Fs.idx st s.data.toList) f b d hf hb hd)
    have x0 : w1.cell? ⟨b, 0, none⟩ = some d := root_cell HF.out.blk 0 _ rfl
    have hfl := hlen f (List.mem_of_getElem? hf)
    go_wp2_with fail
    refine (cloneB base d f.1 w1 HF.out.row hfl).mono ?_
    rintro e w2 ⟨v', rfl, ho, hb2⟩
    go_wp2
    refine bodyPost_ret (v := .tuple #[v', .int .i64 0]) (by simp [results, Tryd.results25, go_sem]) rfl ?_
    exact ⟨hb1.trans (hb2.mono hb1.size), .inl ⟨h0, f, v', hf, rfl, ho.mono hb1.size⟩⟩
  · have hc2 : (Fs.openE st s.data.toList != 0) = true := by rw [bne_iff_ne]; exact h0
    go_wp2
    refine bodyPost_ret (v := .tuple #[.slice none 0 0, .int .i64 (Fs.openE st s.data.toList)]) (by simp [results, Tryd.results25, go_sem]) rfl ?_
    exact ⟨hb1, .inr ⟨h0, rfl⟩⟩
end Go.Proofs.YtcinagglbkbmkaaDoor
namespace Go.Proofs.YtcinagglbkbmkaaDoor
set_option linter.unusedSimpArgs false
set_option linter.unusedVariables false
open Go Go.RowKit
open Go.Maps Go.WideMaps

namespace Fs
def doOne (d : Names) (c : List UInt8 × Int) : Names := if c.2 < 0 then mdel d c.1 else mput d c.1 c.2
def doAll (d : Names) (l : Names) : Names := l.foldl doOne d
theorem mins_len (x : List UInt8 × Int) : ∀ l : Names, (mins x l).length = l.length + 1
  | [] => rfl
  | y :: r => by
    unfold mins
    split
    · simp
    · simp [mins_len x r]
theorem mdel_len (l : Names) (k : List UInt8) : (mdel l k).length ≤ l.length := List.length_filter_le _ _
theorem mput_len (l : Names) (k : List UInt8) (v : Int) : (mput l k v).length ≤ l.length + 1 := by
  unfold mput
  rw [mins_len]
  have := mdel_len l k
  omega
theorem doOne_len (d : Names) (c : List UInt8 × Int) : (doOne d c).length ≤ d.length + 1 := by
  unfold doOne
  split
  · have := mdel_len d c.1; omega
  · exact mput_len _ _ _
theorem doAll_len : ∀ (l d : Names), (doAll d l).length ≤ d.length + l.length
  | [], d => Nat.le_refl _
  | c :: l, d => by
    have h1 := doAll_len l (doOne d c)
    have h2 := doOne_len d c
    unfold doAll at h1 ⊢
    rw [List.foldl_cons, List.length_cons]
    omega
end Fs

/-- The cells of changes. -/
def ChgCells (w : World) (v : Value) (l : Fs.Names) : Prop :=
  ∃ b cap, v = .slice (some ⟨b, 0, none⟩) l.length cap ∧ b < w.heap.size ∧ ∀ (i : Nat) p, l[i]? = some p → w.cell? ⟨b, i * 2, none⟩ = some (.string ⟨p.1.toArray⟩) ∧ w.cell? ⟨b, i * 2 + 1, none⟩ = some (.int .i64 p.2)

theorem But.grown {X : Nat → Prop} {a w w' : World} {r : Option Nat} (h : But X a w) (hg : w.grownBy w' r) (hr : ∀ k, r = some k → X k) : But X a w' :=
  ⟨hg.os.trans h.os, hg.tape.trans h.tape, hg.output.trans h.output, Nat.le_trans h.size hg.size, fun k hk hx => by
    rw [hg.block k (Nat.lt_of_lt_of_le hk h.size) (fun e => hx (hr k e.symm))]
    exact h.block k hk hx⟩

set_option maxHeartbeats 1000000 in
set_option maxRecDepth 100000 in
theorem do_any (md : Nat) (d l : Fs.Names) (v : Value) (w : World) (hM : MapOf w md d) (hC : ChgCells w v l) (hne : ∀ b n c, v = .slice (some b) n c → b.block ≠ md) (hl : ∀ c ∈ l, c.1.length ≤ 1000000 ∧ -9223372036854775808 ≤ c.2 ∧ c.2 ≤ 9223372036854775807)
    (hn : d.length + l.length ≤ 1000000) :
    Calls Tryd.prog 21 #[.map (some md), v] w fun e w' => e = .returned (.tuple #[]) ∧ MapOf w' md (Fs.doAll d l) ∧ But (fun k => k = md) w w' := by
  obtain ⟨g, cap, rfl, hg, hcl⟩ := hC
  have hgm : g ≠ md := hne _ _ _ rfl
  go_enter Tryd.func21, Tryd.ntmps21
  go_wp2
  go_loopg [8] l.length (fun k s8 wr => ∃ j : Nat, j ≤ l.length ∧ k = l.length - j ∧ s8 = .int .i64 (j : Nat) ∧ MapOf wr md (Fs.doAll d (l.take j)) ∧ But (fun k => k = md) w wr)
  case atStart => exact ⟨0, Nat.zero_le _, rfl, rfl, hM, But.refl _ _⟩
  case round =>
    obtain ⟨j, hj, hk, rfl, hMr, hB⟩ := hrel
    have HK := Lib.hid hk
    clear hk
    have hj0 : (0 : Int) ≤ (j : Int) := Int.natCast_nonneg _
    by_cases hjn : j < l.length
    · have hjn1 : (j : Int) < (l.length : Int) := by omega
      obtain ⟨p, hp⟩ : ∃ p, l[j]? = some p := ⟨_, List.getElem?_eq_getElem hjn⟩
      obtain ⟨k0, k1⟩ := hcl j p hp
      have c0 : wr.cell? ⟨g, j * 2, none⟩ = some (.string ⟨p.1.toArray⟩) := by rw [hB.cell hg hgm]; exact k0
      have c1 : wr.cell? ⟨g, j * 2 + 1, none⟩ = some (.int .i64 p.2) := by rw [hB.cell hg hgm]; exact k1
      obtain ⟨hpl, hpa, hpb⟩ := hl p (List.mem_of_getElem? hp)
      have HTK : Hid (Fs.doAll d (l.take (j + 1)) = Fs.doOne (Fs.doAll d (l.take j)) p) := by
        unfold Fs.doAll
        rw [List.take_add_one, hp, List.foldl_append]
        exact Lib.hid rfl
      have hlen : (Fs.doAll d (l.take j)).length ≤ 1000000 := by
        have := Fs.doAll_len (l.take j) d
        rw [List.length_take] at this
        omega
      have hkey := keyOf_string_mk Tryd.underlying9 (s := ⟨p.1.toArray⟩) (show p.1.length ≤ maxLen by unfold maxLen; omega)
      have HM1 := Lib.hid (World.ownsMap.alloc hMr (.cells #[.string ⟨p.1.toArray⟩, .int .i64 p.2] 91))
      have HB1 := Lib.hid (hB.alloc (.cells #[.string ⟨p.1.toArray⟩, .int .i64 p.2] 91))
      have HW : Hid ((Lit.int .i64 p.2).wf = true) := by
        refine Lib.hid ?_
        have e1 : IntKind.i64.min = -9223372036854775808 := by decide
        have e2 : IntKind.i64.max = 9223372036854775807 := by decide
        simp [Lit.wf, e1, e2]
        omega
      clear k0 k1 hp hMr hB
      by_cases hneg : p.2 < 0
      · have HD : Hid (Fs.doOne (Fs.doAll d (l.take j)) p = Fs.mdel (Fs.doAll d (l.take j)) p.1) := by unfold Fs.doOne; rw [if_pos hneg]; exact Lib.hid rfl
        go_wp2_with (first | (at_delete; refine wpList_delete_own _ rfl _ _ 35 9 rfl 3 strKeyed Tryd.underlying35 _ md _ _ rfl HM1.out _ _ rfl hkey ?_; intro w3 hown3 hturn3) | fail)
        go_roundg (l.length - (j + 1))
        case measure => rw [HK.out]; omega
        case rel =>
          refine ⟨j + 1, hjn, rfl, by simp, ?_, HB1.out.grown hturn3.grown (fun k h => by simpa using h.symm)⟩
          rw [HTK.out, HD.out]
          rw [Fs.datum_del] at hown3
          exact MapOf.of hown3
      · have hneg2 : 0 ≤ p.2 := by omega
        have HD : Hid (Fs.doOne (Fs.doAll d (l.take j)) p = Fs.mput (Fs.doAll d (l.take j)) p.1 p.2) := by unfold Fs.doOne; rw [if_neg hneg]; exact Lib.hid rfl
        go_wp2_with (first | (at_mapUpdate; refine wpList_mapUpdate_own _ rfl _ _ _ 35 rfl 9 3 strKeyed Tryd.underlying35 _ md _ _ rfl HM1.out (by unfold maxLen; omega) _ _ _ rfl rfl hkey _ [] (plainElem_int Tryd.underlying3 HW.out) ?_; intro w3 hown3 hgrow3) | fail)
        go_roundg (l.length - (j + 1))
        case measure => rw [HK.out]; omega
        case rel =>
          refine ⟨j + 1, hjn, rfl, by simp, ?_, HB1.out.grown hgrow3 (fun k h => by simpa using h.symm)⟩
          rw [HTK.out, HD.out]
          rw [Fs.datum_put] at hown3
          exact MapOf.of hown3
    · have hjn1 : (l.length : Int) ≤ (j : Int) := by omega
      have hjl : l.take j = l := List.take_of_length_le (by omega)
      rw [hjl] at hMr
      go_wp2
      go_end0
      exact ⟨rfl, hMr, hB⟩
end Go.Proofs.YtcinagglbkbmkaaDoor
