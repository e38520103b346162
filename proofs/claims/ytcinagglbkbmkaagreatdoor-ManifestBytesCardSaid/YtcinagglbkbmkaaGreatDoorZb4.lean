/-
  DERIVED: THE SHELF's CONTRACTS AT THIS DUMP, IN PLAIN WORDS (tools/lay-plain.mjs out of 'TryzShelf.lean', which tools/lay-shelf.mjs wrote): THE SAME DECLARATIONS UNDER THE SAME NAMES: 'import', 'namespace', 'open', 'def', 'theorem' AND NOTHING ELSE: no command of the shelf's: FOR A HAND-IN. Each laying: the table of numbers ('.._ren') and one theorem, a field a fact of the dump's own or the kernel's comparison; each contract: ONE APPLICATION. The file system: Sync, SyncDir, Read, New, walked. The file system: New, Sync, SyncDir, Read, walked. The file system: SyncDir, Read, walked. The file system: a directory's changes, walked. The file system: Create, walked.
-/
import Derived.Shelf.Small.Bits
import Derived.Shelf.Small.Wraps
import Derived.Shelf.Utf8.RuneCount
import Derived.Shelf.Strconv.Atoi
import Derived.Shelf.Strconv.Itoa0
import Derived.Shelf.Strconv.Itoa1
import Derived.Shelf.LaysM
import Derived.Shelf.Strconv.Itoa2
import Derived.Shelf.Strconv.Itoa3
import Derived.Shelf.Strconv.AtoiErrFast
import Derived.Shelf.Strconv.ParseIntEmpty
import Derived.Shelf.Strconv.AtoiFail
import Derived.Shelf.Strconv.Clone
import Derived.Shelf.Strconv.SyntaxError
import Derived.Shelf.LaysC
import Derived.Shelf.Strconv.ToError
import Derived.Shelf.Strconv.Lower
import Derived.Shelf.Strconv.ParseUint10
import Derived.Shelf.Strconv.ParseUint10Empty
import Derived.Shelf.Strconv.ParseUint10Any
import Derived.Shelf.Strconv.ParseInt10
import Derived.Shelf.Strconv.AtoiLong
import Derived.Shelf.Strconv.AtoiInnerAll
import Derived.Shelf.Strconv.RangeError
import Derived.Shelf.Strconv.ToErrorRange
import Derived.Shelf.Strconv.AtoiAll
import Derived.Shelf.Strconv.ErrVarAll
import Derived.Shelf.Strings.Search1
import Derived.Shelf.Strings.Search2
import Derived.Shelf.Strings.Search3
import Derived.Shelf.Strings.Count
import Derived.Shelf.Strings.Shaped
import Derived.Shelf.Strings.Prefix
import Derived.Shelf.Strings.Split
import Derived.Shelf.Strings.SplitShaped
import Derived.Shelf.Unicode.Decode
import Derived.Shelf.Strings.RuneCount
import Derived.Shelf.Strings.Explode
import Derived.Shelf.Unicode.DecodeSlow
import Derived.Shelf.Unicode.DecodeAny
import Derived.Shelf.Slices.Turned
import Derived.Ground.Names2Prog
import Derived.Shelf.Slices.Clone
import Derived.Ground.SlgnProg
import Derived.Shelf.SlicesE.Clone
import Derived.Test.YtcinagglbkbmkaaGreatDoorProg
import Derived.Test.YtcinagglbkbmkaaGreatDoorZb3
import Derived.Shelf.SlMaps.Clone
import Derived.Maps.OwnOps
namespace Go.Proofs
open Go.Shelf
def Tryz.laysM171_ren : Go.Shelf.Ren := ⟨fun | 171 => 60 | 243 => 119 | 246 => 153 | 283 => 173 | 284 => 174 | 285 => 175 | 286 => 176 | 129 => 194 | 317 => 199 | 318 => 200 | 319 => 201 | 320 => 202 | 337 => 224 | 338 => 225 | n => n, fun | 3 => 3 | 9 => 9 | 2 => 2 | 4 => 4 | 171 => 269 | 0 => 0 | 53 => 270 | 37 => 25 | 5 => 5 | 173 => 273 | 212 => 296 | 51 => 214 | 20 => 20 | 213 => 297 | 46 => 61 | 232 => 105 | 233 => 325 | n => n, fun | 17 => 2 | 18 => 6 | 19 => 7 | n => n⟩
theorem Tryz.laysM171 : Go.Proofs.LaysM.n171 Tryz.prog Tryz.laysM171_ren := {
  mixed := by kernel_rfl
  f129 := Tryz.func194.trans (congrArg some (by kernel_rfl))
  f171 := Tryz.func60.trans (congrArg some (by kernel_rfl))
  f243 := Tryz.func119.trans (congrArg some (by kernel_rfl))
  f246 := Tryz.func153.trans (congrArg some (by kernel_rfl))
  f283 := Tryz.func173.trans (congrArg some (by kernel_rfl))
  f284 := Tryz.func174.trans (congrArg some (by kernel_rfl))
  f285 := Tryz.func175.trans (congrArg some (by kernel_rfl))
  f286 := Tryz.func176.trans (congrArg some (by kernel_rfl))
  f317 := Tryz.func199.trans (congrArg some (by kernel_rfl))
  f318 := Tryz.func200.trans (congrArg some (by kernel_rfl))
  f319 := Tryz.func201.trans (congrArg some (by kernel_rfl))
  f320 := Tryz.func202.trans (congrArg some (by kernel_rfl))
  f337 := Tryz.func224.trans (congrArg some (by kernel_rfl))
  f338 := Tryz.func225.trans (congrArg some (by kernel_rfl))
  t0 := Tryz.underlying0
  a0 := Tryz.isAgg0
  z0 := Tryz.sizeOf0
  v0 := Tryz.zeroValue0
  t2 := Tryz.underlying2
  a2 := Tryz.isAgg2
  z2 := Tryz.sizeOf2
  v2 := Tryz.zeroValue2
  t3 := Tryz.underlying3
  a3 := Tryz.isAgg3
  z3 := Tryz.sizeOf3
  v3 := Tryz.zeroValue3
  t4 := Tryz.underlying4
  a4 := Tryz.isAgg4
  z4 := Tryz.sizeOf4
  v4 := Tryz.zeroValue4
  t5 := Tryz.underlying5
  a5 := Tryz.isAgg5
  z5 := Tryz.sizeOf5
  v5 := Tryz.zeroValue5
  t9 := Tryz.underlying9
  a9 := Tryz.isAgg9
  z9 := Tryz.sizeOf9
  v9 := Tryz.zeroValue9
  t20 := Tryz.underlying20
  a20 := Tryz.isAgg20
  z20 := Tryz.sizeOf20
  v20 := Tryz.zeroValue20
  t37 := Tryz.underlying25
  a37 := Tryz.isAgg25
  z37 := Tryz.sizeOf25
  v37 := Tryz.zeroValue25
  t46 := Tryz.underlying61
  a46 := Tryz.isAgg61
  z46 := Tryz.sizeOf61
  v46 := Tryz.zeroValue61
  t51 := Tryz.underlying214
  a51 := Tryz.isAgg214
  z51 := Tryz.sizeOf214
  v51 := Tryz.zeroValue214
  t53 := Tryz.underlying270
  a53 := Tryz.isAgg270
  z53 := Tryz.sizeOf270
  v53 := Tryz.zeroValue270
  t171 := Tryz.underlying269
  a171 := Tryz.isAgg269
  z171 := Tryz.sizeOf269
  v171 := Tryz.zeroValue269
  t173 := Tryz.underlying273
  a173 := Tryz.isAgg273
  z173 := Tryz.sizeOf273
  v173 := Tryz.zeroValue273
  t212 := Tryz.underlying296
  a212 := Tryz.isAgg296
  z212 := Tryz.sizeOf296
  v212 := Tryz.zeroValue296
  t213 := Tryz.underlying297
  a213 := Tryz.isAgg297
  z213 := Tryz.sizeOf297
  t232 := Tryz.underlying105
  a232 := Tryz.isAgg105
  z232 := Tryz.sizeOf105
  v232 := Tryz.zeroValue105
  t233 := Tryz.underlying325
  a233 := Tryz.isAgg325
  z233 := Tryz.sizeOf325
  v233 := Tryz.zeroValue325
  g17 := by kernel_rfl
  g18 := by kernel_rfl
  g19 := by kernel_rfl
  i0 := by kernel_rfl
  i2 := by kernel_rfl
  i3 := by kernel_rfl
  i4 := by kernel_rfl
  i5 := by kernel_rfl
  i9 := by kernel_rfl
  i20 := by kernel_rfl
  i37 := by kernel_rfl
  i46 := by kernel_rfl
  i51 := by kernel_rfl
  i53 := by kernel_rfl
  i171 := by kernel_rfl
  i173 := by kernel_rfl
  i212 := by kernel_rfl
  i232 := by kernel_rfl
  i233 := by kernel_rfl
  m17 := by kernel_rfl
  m18 := by kernel_rfl
  m19 := by kernel_rfl }
open Go.RowKit Go.Sort Go.Lib in
/-- strconv.Itoa: "Itoa is equivalent to FormatInt(int64(i), 10).": i's DECIMAL NUMERAL ('Lib.itoa': a '-' where i is negative, then the digits), FOR EVERY int. The world behind the call: the world before it, new blocks behind the heap (the library's 'var a [24]byte'), draws. (LAID: no walk: one application.) -/
theorem Tryz.strconv_Itoa (n : Int) (h0 : -9223372036854775808 ≤ n) (h1 : n ≤ 9223372036854775807) (w : World) (htab : Lib.TabIs Tryz.prog w "internal/strconv.uint64pow10" .u64 Lib.pow10Tab) :
    Calls Tryz.prog 60 #[.int .i64 n] w fun e w' => e = .returned (.string ⟨(Lib.itoa n).toArray⟩) ∧ ∃ k os, w' = grow (w.drewN k) os := Any.strconv_Itoa Tryz.laysM171 n h0 h1 w htab
def Tryz.laysC172_ren : Go.Shelf.Ren := ⟨fun | 172 => 65 | 244 => 126 | 245 => 127 | 247 => 160 | 279 => 161 | 280 => 162 | 281 => 163 | 282 => 164 | 287 => 181 | 316 => 182 | 171 => 60 | 205 => 183 | 321 => 208 | 322 => 209 | 243 => 119 | 246 => 153 | 283 => 173 | 284 => 174 | 285 => 175 | 286 => 176 | 129 => 194 | 317 => 199 | 318 => 200 | 319 => 201 | 320 => 202 | 337 => 224 | 338 => 225 | n => n, fun | 9 => 9 | 3 => 3 | 75 => 137 | 76 => 138 | 4 => 4 | 5 => 5 | 167 => 256 | 37 => 25 | 0 => 0 | 85 => 257 | 2 => 2 | 168 => 259 | 53 => 270 | 175 => 278 | 46 => 61 | 210 => 282 | 127 => 300 | 145 => 303 | 143 => 301 | 21 => 21 | 171 => 269 | 173 => 273 | 212 => 296 | 51 => 214 | 20 => 20 | 213 => 297 | 232 => 105 | 233 => 325 | 80 => 327 | n => n, fun | 15 => 0 | 16 => 1 | 17 => 2 | 18 => 6 | 19 => 7 | n => n⟩
theorem Tryz.laysC172 : Go.Proofs.LaysC.n172 Tryz.prog Tryz.laysC172_ren := {
  mixed := by kernel_rfl
  f129 := Tryz.func194.trans (congrArg some (by kernel_rfl))
  f171 := Tryz.func60.trans (congrArg some (by kernel_rfl))
  f172 := Tryz.func65.trans (congrArg some (by kernel_rfl))
  f205 := Tryz.func183.trans (congrArg some (by kernel_rfl))
  f243 := Tryz.func119.trans (congrArg some (by kernel_rfl))
  f244 := Tryz.func126.trans (congrArg some (by kernel_rfl))
  f245 := Tryz.func127.trans (congrArg some (by kernel_rfl))
  f246 := Tryz.func153.trans (congrArg some (by kernel_rfl))
  f247 := Tryz.func160.trans (congrArg some (by kernel_rfl))
  f279 := Tryz.func161.trans (congrArg some (by kernel_rfl))
  f280 := Tryz.func162.trans (congrArg some (by kernel_rfl))
  f281 := Tryz.func163.trans (congrArg some (by kernel_rfl))
  f282 := Tryz.func164.trans (congrArg some (by kernel_rfl))
  f283 := Tryz.func173.trans (congrArg some (by kernel_rfl))
  f284 := Tryz.func174.trans (congrArg some (by kernel_rfl))
  f285 := Tryz.func175.trans (congrArg some (by kernel_rfl))
  f286 := Tryz.func176.trans (congrArg some (by kernel_rfl))
  f287 := Tryz.func181.trans (congrArg some (by kernel_rfl))
  f316 := Tryz.func182.trans (congrArg some (by kernel_rfl))
  f317 := Tryz.func199.trans (congrArg some (by kernel_rfl))
  f318 := Tryz.func200.trans (congrArg some (by kernel_rfl))
  f319 := Tryz.func201.trans (congrArg some (by kernel_rfl))
  f320 := Tryz.func202.trans (congrArg some (by kernel_rfl))
  f321 := Tryz.func208.trans (congrArg some (by kernel_rfl))
  f322 := Tryz.func209.trans (congrArg some (by kernel_rfl))
  f337 := Tryz.func224.trans (congrArg some (by kernel_rfl))
  f338 := Tryz.func225.trans (congrArg some (by kernel_rfl))
  t0 := Tryz.underlying0
  a0 := Tryz.isAgg0
  z0 := Tryz.sizeOf0
  v0 := Tryz.zeroValue0
  t2 := Tryz.underlying2
  a2 := Tryz.isAgg2
  z2 := Tryz.sizeOf2
  v2 := Tryz.zeroValue2
  t3 := Tryz.underlying3
  a3 := Tryz.isAgg3
  z3 := Tryz.sizeOf3
  v3 := Tryz.zeroValue3
  t4 := Tryz.underlying4
  a4 := Tryz.isAgg4
  z4 := Tryz.sizeOf4
  v4 := Tryz.zeroValue4
  t5 := Tryz.underlying5
  a5 := Tryz.isAgg5
  z5 := Tryz.sizeOf5
  v5 := Tryz.zeroValue5
  t9 := Tryz.underlying9
  a9 := Tryz.isAgg9
  z9 := Tryz.sizeOf9
  v9 := Tryz.zeroValue9
  t20 := Tryz.underlying20
  a20 := Tryz.isAgg20
  z20 := Tryz.sizeOf20
  v20 := Tryz.zeroValue20
  t21 := Tryz.underlying21
  a21 := Tryz.isAgg21
  z21 := Tryz.sizeOf21
  v21 := Tryz.zeroValue21
  t37 := Tryz.underlying25
  a37 := Tryz.isAgg25
  z37 := Tryz.sizeOf25
  v37 := Tryz.zeroValue25
  t46 := Tryz.underlying61
  a46 := Tryz.isAgg61
  z46 := Tryz.sizeOf61
  v46 := Tryz.zeroValue61
  t51 := Tryz.underlying214
  a51 := Tryz.isAgg214
  z51 := Tryz.sizeOf214
  v51 := Tryz.zeroValue214
  t53 := Tryz.underlying270
  a53 := Tryz.isAgg270
  z53 := Tryz.sizeOf270
  v53 := Tryz.zeroValue270
  t75 := Tryz.underlying137
  a75 := Tryz.isAgg137
  z75 := Tryz.sizeOf137
  v75 := Tryz.zeroValue137
  t76 := Tryz.underlying138
  a76 := Tryz.isAgg138
  z76 := Tryz.sizeOf138
  v76 := Tryz.zeroValue138
  t85 := Tryz.underlying257
  a85 := Tryz.isAgg257
  z85 := Tryz.sizeOf257
  v85 := Tryz.zeroValue257
  t127 := Tryz.underlying300
  a127 := Tryz.isAgg300
  z127 := Tryz.sizeOf300
  v127 := Tryz.zeroValue300
  t143 := Tryz.underlying301
  a143 := Tryz.isAgg301
  z143 := Tryz.sizeOf301
  v143 := Tryz.zeroValue301
  t145 := Tryz.underlying303
  a145 := Tryz.isAgg303
  z145 := Tryz.sizeOf303
  v145 := Tryz.zeroValue303
  t167 := Tryz.underlying256
  a167 := Tryz.isAgg256
  z167 := Tryz.sizeOf256
  v167 := Tryz.zeroValue256
  t168 := Tryz.underlying259
  a168 := Tryz.isAgg259
  z168 := Tryz.sizeOf259
  v168 := Tryz.zeroValue259
  t171 := Tryz.underlying269
  a171 := Tryz.isAgg269
  z171 := Tryz.sizeOf269
  v171 := Tryz.zeroValue269
  t173 := Tryz.underlying273
  a173 := Tryz.isAgg273
  z173 := Tryz.sizeOf273
  v173 := Tryz.zeroValue273
  t175 := Tryz.underlying278
  a175 := Tryz.isAgg278
  z175 := Tryz.sizeOf278
  v175 := Tryz.zeroValue278
  t210 := Tryz.underlying282
  a210 := Tryz.isAgg282
  z210 := Tryz.sizeOf282
  v210 := Tryz.zeroValue282
  t212 := Tryz.underlying296
  a212 := Tryz.isAgg296
  z212 := Tryz.sizeOf296
  v212 := Tryz.zeroValue296
  t213 := Tryz.underlying297
  a213 := Tryz.isAgg297
  z213 := Tryz.sizeOf297
  t232 := Tryz.underlying105
  a232 := Tryz.isAgg105
  z232 := Tryz.sizeOf105
  v232 := Tryz.zeroValue105
  t233 := Tryz.underlying325
  a233 := Tryz.isAgg325
  z233 := Tryz.sizeOf325
  v233 := Tryz.zeroValue325
  g15 := by kernel_rfl
  g16 := by kernel_rfl
  g17 := by kernel_rfl
  g18 := by kernel_rfl
  g19 := by kernel_rfl
  t80 := Tryz.underlying327
  a80 := Tryz.isAgg327
  z80 := Tryz.sizeOf327
  v80 := Tryz.zeroValue327
  i0 := by kernel_rfl
  i2 := by kernel_rfl
  i3 := by kernel_rfl
  i4 := by kernel_rfl
  i5 := by kernel_rfl
  i9 := by kernel_rfl
  i20 := by kernel_rfl
  i21 := by kernel_rfl
  i37 := by kernel_rfl
  i46 := by kernel_rfl
  i51 := by kernel_rfl
  i53 := by kernel_rfl
  i75 := by kernel_rfl
  i76 := by kernel_rfl
  i80 := by kernel_rfl
  i85 := by kernel_rfl
  i127 := by kernel_rfl
  i143 := by kernel_rfl
  i145 := by kernel_rfl
  i167 := by kernel_rfl
  i168 := by kernel_rfl
  i171 := by kernel_rfl
  i173 := by kernel_rfl
  i175 := by kernel_rfl
  i210 := by kernel_rfl
  i212 := by kernel_rfl
  i232 := by kernel_rfl
  i233 := by kernel_rfl
  m15 := by kernel_rfl
  m16 := by kernel_rfl
  m17 := by kernel_rfl
  m18 := by kernel_rfl
  m19 := by kernel_rfl
  c0 := by kernel_rfl
  c2 := by kernel_rfl
  c3 := by kernel_rfl
  c4 := by kernel_rfl
  c5 := by kernel_rfl
  c9 := by kernel_rfl
  c20 := by kernel_rfl
  c21 := by kernel_rfl
  c37 := by kernel_rfl
  c46 := by kernel_rfl
  c51 := by kernel_rfl
  c53 := by kernel_rfl
  c75 := by kernel_rfl
  c76 := by kernel_rfl
  c80 := by kernel_rfl
  c85 := by kernel_rfl
  c127 := by kernel_rfl
  c143 := by kernel_rfl
  c145 := by kernel_rfl
  c167 := by kernel_rfl
  c168 := by kernel_rfl
  c171 := by kernel_rfl
  c173 := by kernel_rfl
  c175 := by kernel_rfl
  c210 := by kernel_rfl
  c212 := by kernel_rfl
  c213 := by kernel_rfl
  c232 := by kernel_rfl
  c233 := by kernel_rfl }
open Go.RowKit in
/-- strconv.Atoi, AT EVERY STRING THAT SPELLS AN int ('Lib.atoiAll .. = .ok v'; of whatever length: leading zeros count): v, AND NO ERROR. The world: as it was, or with the one new row that '[]byte(..)' lays. (LAID: no walk: one application.) -/
theorem Tryz.strconv_Atoi_ok (s : ByteArray) (hmax : s.size ≤ 9223372036854775806) (v : Int) (h : Lib.atoiAll s.data.toList = .ok v) (w : World) :
    Calls Tryz.prog 65 #[.string s] w fun e w' => e = .returned (.tuple #[.int .i64 v, .nilIface]) ∧ (w' = w ∨ ∃ t, w' = Lib.bytesWorld w 5 t) := Any.strconv_Atoi_ok Tryz.laysC172 s hmax v h w
open Go.RowKit in
theorem Tryz.strconv_Atoi_syntax_var (s : ByteArray) (hlim : s.size ≤ 281474976710656) (h : Lib.atoiAll s.data.toList = Lib.NumEnd.syntax) (tp : TypeId) (p : Value) (w : World) (hvar : w.var? Tryz.prog "strconv.ErrSyntax" = some #[.iface tp p]) :
    Calls Tryz.prog 65 #[.string s] w fun e w' => ∃ N, e = .returned (.tuple #[.int .i64 0, .iface 259 (.pointer (some ⟨N, 0, none⟩))]) ∧ w.heap.size ≤ N ∧ w'.heap[N]? = some (.cells #[.string ⟨#[65, 116, 111, 105]⟩, .string s, .iface tp p] 282 (0, 0)) ∧ Below w.heap.size w w' := Any.strconv_Atoi_syntax_var Tryz.laysC172 s hlim h tp p w hvar
open Go.RowKit in
theorem Tryz.strconv_Atoi_range_var (s : ByteArray) (hlim : s.size ≤ 281474976710656) (h : Lib.atoiAll s.data.toList = .range) (tp : TypeId) (p : Value) (w : World) (hvar : w.var? Tryz.prog "strconv.ErrRange" = some #[.iface tp p]) :
    Calls Tryz.prog 65 #[.string s] w fun e w' => ∃ N, e = .returned (.tuple #[.int .i64 (Lib.atoiSat s.data.toList), .iface 259 (.pointer (some ⟨N, 0, none⟩))]) ∧ w.heap.size ≤ N ∧ w'.heap[N]? = some (.cells #[.string ⟨#[65, 116, 111, 105]⟩, .string s, .iface tp p] 282 (0, 0)) ∧ Below w.heap.size w w' := Any.strconv_Atoi_range_var Tryz.laysC172 s hlim h tp p w hvar
def Tryz.lays102_ren : Go.Shelf.Ren := ⟨fun | 102 => 64 | 209 => 125 | 207 => 159 | n => n, fun | 9 => 9 | 4 => 4 | 3 => 3 | n => n, fun | n => n⟩
theorem Tryz.lays102 : Go.Proofs.Lays.n102 Tryz.prog Tryz.lays102_ren := {
  mixed := by kernel_rfl
  f102 := Tryz.func64.trans (congrArg some (by kernel_rfl))
  f207 := Tryz.func159.trans (congrArg some (by kernel_rfl))
  f209 := Tryz.func125.trans (congrArg some (by kernel_rfl))
  t3 := Tryz.underlying3
  a3 := Tryz.isAgg3
  z3 := Tryz.sizeOf3
  v3 := Tryz.zeroValue3
  t4 := Tryz.underlying4
  a4 := Tryz.isAgg4
  z4 := Tryz.sizeOf4
  v4 := Tryz.zeroValue4
  t9 := Tryz.underlying9
  a9 := Tryz.isAgg9
  z9 := Tryz.sizeOf9
  v9 := Tryz.zeroValue9 }
open Go.RowKit Go.Lib in
/-- strings.TrimSuffix: "TrimSuffix returns s without the provided trailing suffix string. If s doesn't end with suffix, s is returned unchanged.": IT RETURNS 'Lib.trimSuffix s suffix'; the world is as it was. (LAID: no walk: one application.) -/
theorem Tryz.strings_TrimSuffix (s p : ByteArray) (w : World) (hs : s.size ≤ 9223372036854775807) :
    Calls Tryz.prog 64 #[.string s, .string p] w fun e w' => e = .returned (.string ⟨(Lib.trimSuffix s.data.toList p.data.toList).toArray⟩) ∧ w' = w := Any.strings_TrimSuffix Tryz.lays102 s p w hs
def Tryz.lays146_ren : Go.Shelf.Ren := ⟨fun | 146 => 63 | 221 => 124 | 268 => 156 | 138 => 157 | 143 => 158 | 195 => 177 | 197 => 178 | 218 => 179 | 219 => 180 | 260 => 203 | 217 => 204 | 225 => 205 | 224 => 206 | 267 => 207 | 266 => 226 | 314 => 227 | n => n, fun | 9 => 9 | 31 => 42 | 3 => 3 | 4 => 4 | 0 => 0 | 105 => 275 | 21 => 21 | 5 => 5 | 46 => 61 | 119 => 315 | 139 => 318 | 138 => 317 | 146 => 319 | 51 => 214 | n => n, fun | 1 => 3 | 3 => 4 | 4 => 5 | n => n⟩
theorem Tryz.lays146 : Go.Proofs.Lays.n146 Tryz.prog Tryz.lays146_ren := {
  mixed := by kernel_rfl
  f138 := Tryz.func157.trans (congrArg some (by kernel_rfl))
  f143 := Tryz.func158.trans (congrArg some (by kernel_rfl))
  f146 := Tryz.func63.trans (congrArg some (by kernel_rfl))
  f195 := Tryz.func177.trans (congrArg some (by kernel_rfl))
  f197 := Tryz.func178.trans (congrArg some (by kernel_rfl))
  f217 := Tryz.func204.trans (congrArg some (by kernel_rfl))
  f218 := Tryz.func179.trans (congrArg some (by kernel_rfl))
  f219 := Tryz.func180.trans (congrArg some (by kernel_rfl))
  f221 := Tryz.func124.trans (congrArg some (by kernel_rfl))
  f224 := Tryz.func206.trans (congrArg some (by kernel_rfl))
  f225 := Tryz.func205.trans (congrArg some (by kernel_rfl))
  f260 := Tryz.func203.trans (congrArg some (by kernel_rfl))
  f266 := Tryz.func226.trans (congrArg some (by kernel_rfl))
  f267 := Tryz.func207.trans (congrArg some (by kernel_rfl))
  f268 := Tryz.func156.trans (congrArg some (by kernel_rfl))
  f314 := Tryz.func227.trans (congrArg some (by kernel_rfl))
  t0 := Tryz.underlying0
  a0 := Tryz.isAgg0
  z0 := Tryz.sizeOf0
  v0 := Tryz.zeroValue0
  t3 := Tryz.underlying3
  a3 := Tryz.isAgg3
  z3 := Tryz.sizeOf3
  v3 := Tryz.zeroValue3
  t4 := Tryz.underlying4
  a4 := Tryz.isAgg4
  z4 := Tryz.sizeOf4
  v4 := Tryz.zeroValue4
  t5 := Tryz.underlying5
  a5 := Tryz.isAgg5
  z5 := Tryz.sizeOf5
  v5 := Tryz.zeroValue5
  t9 := Tryz.underlying9
  a9 := Tryz.isAgg9
  z9 := Tryz.sizeOf9
  v9 := Tryz.zeroValue9
  t21 := Tryz.underlying21
  a21 := Tryz.isAgg21
  z21 := Tryz.sizeOf21
  v21 := Tryz.zeroValue21
  t31 := Tryz.underlying42
  a31 := Tryz.isAgg42
  z31 := Tryz.sizeOf42
  v31 := Tryz.zeroValue42
  t46 := Tryz.underlying61
  a46 := Tryz.isAgg61
  z46 := Tryz.sizeOf61
  v46 := Tryz.zeroValue61
  t51 := Tryz.underlying214
  a51 := Tryz.isAgg214
  z51 := Tryz.sizeOf214
  v51 := Tryz.zeroValue214
  t105 := Tryz.underlying275
  a105 := Tryz.isAgg275
  z105 := Tryz.sizeOf275
  v105 := Tryz.zeroValue275
  t119 := Tryz.underlying315
  a119 := Tryz.isAgg315
  z119 := Tryz.sizeOf315
  t138 := Tryz.underlying317
  a138 := Tryz.isAgg317
  z138 := Tryz.sizeOf317
  v138 := Tryz.zeroValue317
  t139 := Tryz.underlying318
  a139 := Tryz.isAgg318
  z139 := Tryz.sizeOf318
  v139 := Tryz.zeroValue318
  t146 := Tryz.underlying319
  a146 := Tryz.isAgg319
  z146 := Tryz.sizeOf319
  v146 := Tryz.zeroValue319
  g1 := by kernel_rfl
  g3 := by kernel_rfl
  g4 := by kernel_rfl }
open Go.RowKit Go.Lib in
/-- strings.Split. (LAID: no walk: one application.) -/
theorem Tryz.strings_Split (s sep : ByteArray) (m : Int) (w : World) (hs : s.size < 4294967281) (hm : w.cell? ⟨3, 0, none⟩ = some (.int .i64 m)) (h1 : 1 ≤ sep.size) :
    Calls Tryz.prog 63 #[.string s, .string sep] w fun e w' =>
      e = .returned (.slice (some ⟨w.heap.size, 0, none⟩) (Lib.countB s sep + 1) (Lib.countB s sep + 1)) ∧ w' = w.alloc (.cells ((Lib.splitB sep 0 (Lib.countB s sep) s).map Value.string).toArray 9) := Any.strings_Split Tryz.lays146 (by kernel_rfl) s sep m w hs hm h1
def Tryz.lays110_ren : Go.Shelf.Ren := ⟨fun | 110 => 71 | 109 => 131 | n => n, fun | 31 => 42 | 9 => 9 | 4 => 4 | 3 => 3 | 0 => 0 | n => n, fun | n => n⟩
theorem Tryz.lays110 : Go.Proofs.Lays.n110 Tryz.prog Tryz.lays110_ren := {
  mixed := by kernel_rfl
  f109 := Tryz.func131.trans (congrArg some (by kernel_rfl))
  f110 := Tryz.func71.trans (congrArg some (by kernel_rfl))
  t0 := Tryz.underlying0
  a0 := Tryz.isAgg0
  z0 := Tryz.sizeOf0
  v0 := Tryz.zeroValue0
  t3 := Tryz.underlying3
  a3 := Tryz.isAgg3
  z3 := Tryz.sizeOf3
  v3 := Tryz.zeroValue3
  t4 := Tryz.underlying4
  a4 := Tryz.isAgg4
  z4 := Tryz.sizeOf4
  v4 := Tryz.zeroValue4
  t9 := Tryz.underlying9
  a9 := Tryz.isAgg9
  z9 := Tryz.sizeOf9
  v9 := Tryz.zeroValue9
  t31 := Tryz.underlying42
  a31 := Tryz.isAgg42
  z31 := Tryz.sizeOf42
  v31 := Tryz.zeroValue42 }
open Go.Lib in
/-- slices.Contains at []string: "Contains reports whether v is present in s.": IT RETURNS 'Lib.containsS (the elements) v', which is true just where v is among them ('Lib.containsS_iff'); the world is as it was. ITS CALLEE slices.Index IS MET BY ITS OWN CONTRACT OFF THE SHELF (lay that first): no loop is walked here. (LAID: no walk: one application.) -/
theorem Tryz.slices_Contains_string (b off n c : Nat) (zs : List ByteArray) (x : ByteArray) (w : World) (hz : n ≤ zs.length) (hbig : n ≤ 9223372036854775807) (hc : ∀ j, j < zs.length → w.cell? ⟨b, off + j, none⟩ = some (.string (zs.getD j ByteArray.empty))) :
    Calls Tryz.prog 71 #[.slice (some ⟨b, off, none⟩) n c, .string x] w fun e w' => e = .returned (.bool (Lib.containsS (zs.take n) x)) ∧ w' = w := Any.slices_Contains_string Tryz.lays110 b off n c zs x w hz hbig hc
open Go.Lib in
/-- The same at a slice of length 0, a nil one too. (LAID: no walk: one application.) -/
theorem Tryz.slices_Contains_string_empty (a : Option Addr) (c : Nat) (x : ByteArray) (w : World) :
    Calls Tryz.prog 71 #[.slice a 0 c, .string x] w fun e w' => e = .returned (.bool false) ∧ w' = w := Any.slices_Contains_string_empty Tryz.lays110 a c x w
def Tryz.laysSlE041_f83_ren : Go.Shelf.Ren := ⟨fun | 41 => 83 | n => n, fun | 22 => 22 | 23 => 3 | 4 => 4 | n => n, fun | n => n⟩
theorem Tryz.laysSlE041_f83 : Go.Proofs.SlLaysE0.n41 Tryz.prog Tryz.laysSlE041_f83_ren := {
  mixed := by kernel_rfl
  f41 := ⟨Tryz.f83.name, by decide, Tryz.func83.trans (congrArg some (by kernel_rfl))⟩
  t4 := Tryz.underlying4
  a4 := Tryz.isAgg4
  z4 := Tryz.sizeOf4
  v4 := Tryz.zeroValue4
  t22 := Tryz.underlying22
  a22 := Tryz.isAgg22
  z22 := Tryz.sizeOf22
  v22 := Tryz.zeroValue22 }
open Go.RowKit Go.Lib in
/-- slices.Clone: "Clone returns a copy of the slice. The elements are copied using assignment, so this is a shallow clone. The result may have additional unused capacity. The result preserves the nilness of s.": OF A SLICE THAT IS NOT nil IT RETURNS A SLICE THAT IS NOT nil, OF THE SAME CELLS, IN MEMORY OF THE CALL's OWN ('ownsRow': the how-to's 6f); below the heap's size at the call all is as it was. (LAID AT THE INSTANCE 'slices.Clone[[]int,int]': no walk: one application.) -/
theorem Tryz.slices_Clone (i0 : TypeInfo) (z : Value) (size bytes : Nat) (hi : Tryz.prog.info? 3 = some i0) (hz0 : i0.zero = some z) (hz1 : i0.size = size) (hz2 : i0.bytes = bytes) (hzs : z.cells.size = size) (hsz : 0 < size) (z23 : ∀ w, (Go.sizeOf 3).run Tryz.prog w = .ok size w) (b off n c : Nat) (news : List Value) (w : World) (hl : news.length = n * size) (hn : n ≤ maxLen) (hbig : n * bytes ≤ 140737488355328) (hc : ∀ j u, news[j]? = some u → w.cell? ⟨b, off + j, none⟩ = some u) (h1 : ∀ u ∈ news, u.oneCell' = true) :
    Calls Tryz.prog 83 #[.slice (some ⟨b, off, none⟩) n c] w fun e w' => ∃ v', e = .returned v' ∧ w'.ownsRow w.heap.size 3 size v' n news ∧ v' ≠ .slice none 0 0 ∧ Below w.heap.size w w' := AnyE.slices_Clone Tryz.laysSlE041_f83 i0 z size bytes hi hz0 hz1 hz2 hzs hsz z23 b off n c news w hl hn hbig hc h1
open Go.RowKit Go.Lib in
/-- The same at nil: nil comes back; the world is as it was; nothing is asked of the element's type. (LAID AT THE INSTANCE 'slices.Clone[[]int,int]': no walk: one application.) -/
theorem Tryz.slices_Clone_nil (n c : Nat) (w : World) :
    Calls Tryz.prog 83 #[.slice none n c] w fun e w' => e = .returned (.slice none 0 0) ∧ w' = w := AnyE.slices_Clone_nil Tryz.laysSlE041_f83 n c w
end Go.Proofs
namespace Go.Proofs.YtcinagglbkbmkaaGreatDoor
set_option linter.unusedSimpArgs false
set_option linter.unusedVariables false
open Go Go.RowKit
open Go.Maps Go.WideMaps

def cloneB_ren : Go.Shelf.Ren := ⟨fun | 41 => 88 | n => n, fun | 22 => 25 | 23 => 5 | 4 => 4 | n => n, fun | n => n⟩
theorem cloneB_lays : Go.Proofs.SlLaysE0.n41 Tryz.prog cloneB_ren := {
  mixed := by kernel_rfl
  f41 := ⟨Tryz.f88.name, by decide, Tryz.func88.trans (congrArg some (by kernel_rfl))⟩
  t4 := Tryz.underlying4
  a4 := Tryz.isAgg4
  z4 := Tryz.sizeOf4
  v4 := Tryz.zeroValue4
  t22 := Tryz.underlying25
  a22 := Tryz.isAgg25
  z22 := Tryz.sizeOf25
  v22 := Tryz.zeroValue25 }
def cloneM_ren : Go.Shelf.Ren := ⟨fun | 5 => 84 | 7 => 132 | n => n, fun | 4 => 4 | 20 => 20 | 23 => 56 | 25 => 9 | 3 => 3 | n => n, fun | n => n⟩
theorem cloneM_lays : Go.Proofs.SlLaysW.n5 Tryz.prog cloneM_ren := {
  mixed := by kernel_rfl
  f5 := ⟨Tryz.f84.name, by decide, Tryz.func84.trans (congrArg some (by kernel_rfl))⟩
  f7 := Tryz.func132.trans (congrArg some (by kernel_rfl))
  t4 := Tryz.underlying4
  a4 := Tryz.isAgg4
  z4 := Tryz.sizeOf4
  v4 := Tryz.zeroValue4
  t20 := Tryz.underlying20
  a20 := Tryz.isAgg20
  z20 := Tryz.sizeOf20
  v20 := Tryz.zeroValue20
  t23 := Tryz.underlying56
  a23 := Tryz.isAgg56
  z23 := Tryz.sizeOf56
  v23 := Tryz.zeroValue56 }

theorem infoB : (Tryz.prog.info? 5).map (fun i => (i.zero, i.size, i.bytes)) = some (some (.int .u8 0), 1, 1) := by kernel_rfl
/-- A slice of bytes in memory of the call's own. -/
def OwnB (w : World) (base : Nat) (v : Value) (l : List UInt8) : Prop := w.ownsRow base 5 1 v l.length (u8Cells l)
theorem u8Cells_one (l : List UInt8) : ∀ u ∈ u8Cells l, u.oneCell' = true := fun u hu => by
  unfold u8Cells at hu
  obtain ⟨c, _, rfl⟩ := List.mem_map.1 hu
  rfl
theorem u8Cells_len (l : List UInt8) : (u8Cells l).length = l.length := by simp [u8Cells]
theorem cloneB (base : Nat) (v : Value) (l : List UInt8) (w : World) (h : OwnB w base v l) (hl : l.length ≤ 1000000000) :
    Calls Tryz.prog 88 #[v] w fun e w' => ∃ v', e = .returned v' ∧ OwnB w' w.heap.size v' l ∧ Below w.heap.size w w' := by
  obtain ⟨i0, hi, hz0, hz1, hz2⟩ := info_parts infoB
  rcases h.2 with ⟨h1, h2⟩ | ⟨g, cap, cur, h1, hg, hc, hcap, hmax, hsz, htk⟩
  · rw [h1]
    refine (AnyE.slices_Clone_nil cloneB_lays 0 0 w).mono ?_
    rintro e w' ⟨rfl, rfl⟩
    have hl0 : l = [] := List.length_eq_zero_iff.1 h2
    subst hl0
    exact ⟨_, rfl, World.ownsRow_nil _ _ _ _, Below.refl _ _⟩
  · rw [h1]
    refine (AnyE.slices_Clone cloneB_lays i0 (.int .u8 0) 1 1 hi hz0 hz1 hz2 rfl (by decide) (fun w => Tryz.sizeOf5 w) g 0 l.length cap (u8Cells l) w (by rw [u8Cells_len]; omega) (by unfold maxLen; omega) (by omega) ?_ (u8Cells_one l)).mono ?_
    · intro j u hj
      rw [Nat.zero_add]
      have := World.ownsRow.cells h (by rw [h1]; rfl) j u hj
      rw [addr_add] at this
      exact this
    · rintro e w' ⟨v', rfl, h3, _, h4⟩
      exact ⟨v', rfl, h3, h4⟩
theorem cloneM (b : Nat) (l : Fs.Names) (w : World) (h : MapOf w b l) :
    Calls Tryz.prog 84 #[.map (some b)] w fun e w' => e = .returned (.map (some w.heap.size)) ∧ MapOf w' w.heap.size l ∧ Below w.heap.size w w' := by
  refine (AnyW.maps_Clone_owns cloneM_lays 9 (plainElem Tryz.prog 3) b l.length (Fs.datum l) w h).mono ?_
  rintro e w' ⟨rfl, h1, _, h2⟩
  exact ⟨rfl, h1, h2⟩
end Go.Proofs.YtcinagglbkbmkaaGreatDoor
namespace Go.Proofs.YtcinagglbkbmkaaGreatDoor
set_option linter.unusedSimpArgs false
set_option linter.unusedVariables false
open Go Go.RowKit
open Go.Maps Go.WideMaps

namespace Fs
def new (room : Int) : St := ⟨0, -1, [], room, [], [], [], []⟩
/-- All of a file's bytes are sure. -/
def flush (l : List (List UInt8 × Nat)) (i : Nat) : List (List UInt8 × Nat) := match l[i]? with | some f => l.set i (f.1, f.1.length) | none => l
def sync (st : St) (n : List UInt8) : St × Int :=
  if openE st n ≠ 0 then (st, openE st n)
  else if (step st).2.2 ≠ 0 then ((step st).1, (step st).2.2)
  else ({ (step st).1 with files := flush st.files (idx st n) }, 0)
def syncDir (st : St) : St × Int :=
  if (step st).2.2 ≠ 0 then ((step st).1, (step st).2.2) else ({ (step st).1 with sure := st.dir, changes := [] }, 0)
theorem step_files (st : St) : (step st).1.files = st.files := by unfold step; split <;> rfl
theorem step_dir (st : St) : (step st).1.dir = st.dir := by unfold step; split <;> rfl
end Fs

/-- The first tags. -/
def tags0 (n : Nat) : Nat → Tag := fun k => if k = n then .dir else if k = n + 1 then .sure else if k = n + 2 then .root else .other

/-- The file system, with what its tags say of other blocks. -/
structure FsOK (base B : Nat) (st : Fs.St) (V : FsV) (own : Nat → Tag) (w : World) : Prop where
  at_ : FsAt base B st V own w
  fresh : ∀ k, w.heap.size ≤ k → own k = .other
  old : ∀ k, k < base → own k = .other
theorem heap_new (w : World) (o : Obj) : (w.alloc o).heap[w.heap.size]? = some o := by
  show (w.heap.push _)[w.heap.size]? = _
  simp
theorem fs_start (room : Int) (w : World) : FsOK w.heap.size (w.heap.size + 2) (Fs.new room) ⟨.slice none 0 0, .slice none 0 0, .slice none 0 0, w.heap.size, w.heap.size + 1, [], []⟩ (tags0 w.heap.size)
    (((w.alloc (.map #[] 0)).alloc (.map #[] 0)).alloc (.cells #[.int .i64 0, .int .i64 (-1), .slice none 0 0, .int .i64 room, .slice none 0 0, .map (some w.heap.size), .map (some (w.heap.size + 1)), .slice none 0 0] 59)) := by
  have e1 : (w.alloc (.map #[] 0)).heap.size = w.heap.size + 1 := by simp
  have e2 : ((w.alloc (.map #[] 0)).alloc (.map #[] 0)).heap.size = w.heap.size + 2 := by simp
  have m1 : MapOf (((w.alloc (.map #[] 0)).alloc (.map #[] 0)).alloc (.cells #[.int .i64 0, .int .i64 (-1), .slice none 0 0, .int .i64 room, .slice none 0 0, .map (some w.heap.size), .map (some (w.heap.size + 1)), .slice none 0 0] 59)) w.heap.size [] :=
    ((World.ownsMap_made w _ _ _).alloc _).alloc _
  have m2 : MapOf (((w.alloc (.map #[] 0)).alloc (.map #[] 0)).alloc (.cells #[.int .i64 0, .int .i64 (-1), .slice none 0 0, .int .i64 room, .slice none 0 0, .map (some w.heap.size), .map (some (w.heap.size + 1)), .slice none 0 0] 59)) (w.heap.size + 1) [] := by
    have := (World.ownsMap_made (w.alloc (.map #[] 0)) Tryz.prog 9 (plainElem (H := Unit) Tryz.prog 3)).alloc (.cells #[.int .i64 0, .int .i64 (-1), .slice none 0 0, .int .i64 room, .slice none 0 0, .map (some w.heap.size), .map (some (w.heap.size + 1)), .slice none 0 0] 59)
    rw [e1] at this
    exact this
  refine ⟨⟨?_, by simp [tags0], by omega, ⟨by simp [Fs.new], by simp [Fs.new]⟩, ⟨none, 0, rfl, Nat.le_refl _, fun i z h => by simp [Fs.new] at h⟩, World.ownsRow_nil _ _ _ _, fun k h => by simp [Value.ownBlock] at h, rfl, rfl, fun i f b d h => by simp [Fs.new] at h,
    m1, by simp [tags0], m2, by simp [tags0], ⟨[], World.ownsRow_nil _ _ _ _, fun k h => by simp [Value.ownBlock] at h, fun i x y h => by simp at h⟩, fun p h => by simp [Fs.new] at h, ⟨by simp, by simp⟩⟩, fun k hk => ?_, fun k hk => ?_⟩
  · have := heap_new ((w.alloc (.map #[] 0)).alloc (.map #[] 0)) (.cells #[.int .i64 0, .int .i64 (-1), .slice none 0 0, .int .i64 room, .slice none 0 0, .map (some w.heap.size), .map (some (w.heap.size + 1)), .slice none 0 0] 59)
    rw [e2] at this
    exact this
  · simp at hk
    unfold tags0
    rw [if_neg (by omega), if_neg (by omega), if_neg (by omega)]
  · unfold tags0
    rw [if_neg (by omega), if_neg (by omega), if_neg (by omega)]

set_option maxHeartbeats 1000000 in
set_option maxRecDepth 100000 in
theorem new_any (room : Int) (w : World) :
    Calls Tryz.prog 22 #[.int .i64 room] w fun e w' => Below w.heap.size w w' ∧
      (((room < 1 ∨ 1048576 < room) ∧ e = .returned (.tuple #[.pointer none, .int .i64 1])) ∨
       (¬ (room < 1 ∨ 1048576 < room) ∧ e = .returned (.tuple #[.pointer (some ⟨w.heap.size + 2, 0, none⟩), .int .i64 0]) ∧
        ∃ V, FsOK w.heap.size (w.heap.size + 2) (Fs.new room) V (tags0 w.heap.size) w')) := by
  have hmm := @run_makeMap Tryz.prog
  by_cases hr : room < 1 ∨ 1048576 < room
  · rcases hr with h | h
    · go_enter Tryz.func22, Tryz.ntmps22
      go_wp2
      refine bodyPost_ret (v := .tuple #[.pointer none, .int .i64 1]) (by simp [results, Tryz.results22, go_sem]) rfl ?_
      exact ⟨Below.refl _ _, .inl ⟨.inl h, rfl⟩⟩
    · have h1 : 1 ≤ room := by omega
      go_enter Tryz.func22, Tryz.ntmps22
      go_wp2
      refine bodyPost_ret (v := .tuple #[.pointer none, .int .i64 1]) (by simp [results, Tryz.results22, go_sem]) rfl ?_
      exact ⟨Below.refl _ _, .inl ⟨.inr h, rfl⟩⟩
  · have h1 : 1 ≤ room := by omega
    have h2 : room ≤ 1048576 := by omega
    go_enter Tryz.func22, Tryz.ntmps22
    go_wp2
    refine bodyPost_ret (v := .tuple #[.pointer (some ⟨w.heap.size + 2, 0, none⟩), .int .i64 0]) (by simp [results, Tryz.results22, go_sem]) rfl ?_
    exact ⟨((((Below.refl _ _).alloc (Nat.le_refl _) _).alloc (by simp) _).alloc (by simp; omega) _), .inr ⟨hr, rfl, _, fs_start room w⟩⟩

/-- One file turns. -/
theorem FsAt.file1 {base B : Nat} {st : Fs.St} {V : FsV} {own : Nat → Tag} {w w' : World} (h : FsAt base B st V own w) {i b : Nat} {f f' : List UInt8 × Nat} {d d' : Value} (hf : st.files[i]? = some f) (hb : V.fb[i]? = some b)
    (hd : V.dv[i]? = some d) (hk : Kept own (fun t => t = .file i ∨ t = .data i) w w') (hF : FileAt w' base own i f' b d') :
    FsAt base B { st with files := st.files.set i f' } { V with dv := V.dv.set i d' } own w' where
  root := by rw [hk.block B (heap_lt h.root) (by rw [h.tB]; simp)]; exact h.root
  tB := h.tB
  lo := h.lo
  left := h.left
  plan := h.plan.kept hk (by simp)
  files := by
    rw [List.length_set]
    exact row_kept h.files (fun g hg => hk.block g (row_block_lt h.files g hg).2 (by rw [h.tfiles g hg]; simp))
  tfiles := h.tfiles
  nfb := by rw [List.length_set]; exact h.nfb
  ndv := by rw [List.length_set, List.length_set]; exact h.ndv
  file := fun j g c x h1 h2 h3 => by
    by_cases hij : i = j
    · subst hij
      have hi1 : i < st.files.length := (List.getElem?_eq_some_iff.1 hf).1
      have hi2 : i < V.dv.length := (List.getElem?_eq_some_iff.1 hd).1
      simp only [List.getElem?_set_self hi1, List.getElem?_set_self hi2, Option.some.injEq] at h1 h3
      subst h1 h3
      rw [hb] at h2
      simp only [Option.some.injEq] at h2
      subst h2
      exact hF
    · simp only [List.getElem?_set_ne hij] at h1 h3
      exact (h.file j g c x h1 h2 h3).kept hk (by simp; omega) (by simp; omega)
  dir := h.dir.heap (hk.block _ h.dir.lt (by rw [h.tdir]; simp))
  tdir := h.tdir
  sure := h.sure.heap (hk.block _ h.sure.lt (by rw [h.tsure]; simp))
  tsure := h.tsure
  chg := h.chg.kept hk (by simp) (by simp)
  known := fun p hp => by rw [List.length_set]; exact h.known p hp
  bl := h.bl

/-- What an operation leaves: the state behind it; all other blocks as they were. -/
def OpPost (base B : Nat) (st' : Fs.St) (own : Nat → Tag) (w w' : World) : Prop :=
  ∃ V' own', FsOK base B st' V' own' w' ∧ (∀ k, k < w.heap.size → own' k = own k) ∧ Kept own (· ≠ .other) w w'

theorem FsOK.kept {base B : Nat} {st : Fs.St} {V : FsV} {own : Nat → Tag} {w w' : World} (h : FsOK base B st V own w) (hk : Kept own (· = .other) w w') : FsOK base B st V own w' :=
  ⟨h.at_.kept hk, fun k hk2 => h.fresh k (Nat.le_trans hk.size hk2), h.old⟩
theorem kept_below {own : Nat → Tag} {T : Tag → Prop} {w w' : World} (hb : Below w.heap.size w w') : Kept own T w w' := (Kept.refl own T w).below hb

set_option maxHeartbeats 1000000 in
set_option maxRecDepth 100000 in
theorem sync_any (base B : Nat) (st : Fs.St) (V : FsV) (own : Nat → Tag) (s : ByteArray) (w : World) (h : FsOK base B st V own w) (hs : s.size ≤ 1000000) :
    Calls Tryz.prog 75 #[.pointer (some ⟨B, 0, none⟩), .string s] w fun e w' => e = .returned (.int .i64 (Fs.sync st s.data.toList).2) ∧ OpPost base B (Fs.sync st s.data.toList).1 own w w' := by
  have H := Lib.hid h
  clear h
  go_enter Tryz.func75, Tryz.ntmps75
  go_wp2_with fail
  refine (open_any base B st V own s w H.out.at_ hs).mono ?_
  rintro e w1 ⟨hb1, hres⟩
  have H1 := Lib.hid (H.out.kept (kept_below hb1))
  rcases hres with ⟨h0, f, b, d, hf, hb, hd, rfl⟩ | ⟨h0, rfl⟩
  · go_wp2_with fail
    refine (step_any base B st V own w1 H1.out.at_).mono ?_
    rintro e w2 ⟨pv, rfl, h2, hk2⟩
    have hk02 : Kept own (· ≠ .other) w w2 := (kept_below hb1).trans (hk2.mono (fun t ht => by rw [ht]; simp))
    have hfr2 : ∀ k, w2.heap.size ≤ k → own k = .other := fun k hk => H1.out.fresh k (Nat.le_trans hk2.size hk)
    by_cases hc : (Fs.step st).2.2 = 0
    · have HE : Hid (Fs.sync st s.data.toList = ({ (Fs.step st).1 with files := Fs.flush st.files (Fs.idx st s.data.toList) }, 0)) := by
        unfold Fs.sync; rw [if_neg (by simp [h0]), if_neg (by simp [hc])]; exact Lib.hid rfl
      have hc2 : ((Fs.step st).2.2 == 0) = true := by rw [hc]; rfl
      have HF := Lib.hid (h2.file (Fs.idx st s.data.toList) f b d (by rw [Fs.step_files]; exact hf) hb hd)
      have x0 : w2.cell? ⟨b, 0, none⟩ = some d := root_cell HF.out.blk 0 _ rfl
      have y1 := root_frozen HF.out.blk 1
      obtain ⟨da, dc, hdv⟩ : ∃ a c, d = .slice a f.1.length c := by
        rcases HF.out.row.2 with ⟨e1, e2⟩ | ⟨g, cap, cur, e1, _⟩
        · exact ⟨none, 0, by rw [e1, e2]⟩
        · exact ⟨_, _, e1⟩
      rw [hdv] at x0
      have x1 : w2.cell? ⟨b, 1, none⟩ = some (.int .i64 f.2) := root_cell HF.out.blk 1 _ rfl
      have HC := Lib.hid hc
      have HFL : Hid (Fs.flush st.files (Fs.idx st s.data.toList) = (Fs.step st).1.files.set (Fs.idx st s.data.toList) (f.1, f.1.length)) := by
        unfold Fs.flush; rw [hf, Fs.step_files]; exact Lib.hid rfl
      have hkb : ∀ v, Kept own (fun t => t = .file (Fs.idx st s.data.toList) ∨ t = .data (Fs.idx st s.data.toList)) w2 (w2.setCell ⟨b, 1, none⟩ v) := fun v => (Kept.refl _ _ _).setCell ⟨b, 1, none⟩ (.inl HF.out.tag) v
      have HNEW := Lib.hid (h2.file1 (f' := (f.1, f.1.length)) (d' := d) (by rw [Fs.step_files]; exact hf) hb hd (hkb (.int .i64 (f.1.length : Nat)))
        ⟨heap_set HF.out.blk _, HF.out.tag, row_kept HF.out.row (fun g hg => Below.heap_setCell _ _ _ _ (fun e => by
          have h1 := HF.out.tagD g hg
          rw [e] at h1
          rw [HF.out.tag] at h1
          cases h1)), HF.out.tagD⟩)
      clear hc
      go_wp2
      go_ret
      rw [HE.out, HFL.out]
      exact ⟨congrArg (fun x => Ending.returned (.int .i64 x)) HC.out, _, own, ⟨HNEW.out, fun k hk => hfr2 k (Nat.le_trans (hkb (.int .i64 (f.1.length : Nat))).size hk), H1.out.old⟩, fun _ _ => rfl, hk02.trans ((hkb _).mono (fun t ht => by rcases ht with rfl | rfl <;> simp))⟩
    · have HE : Hid (Fs.sync st s.data.toList = ((Fs.step st).1, (Fs.step st).2.2)) := by
        unfold Fs.sync; rw [if_neg (by simp [h0]), if_pos hc]; exact Lib.hid rfl
      have hc2 : ((Fs.step st).2.2 == 0) = false := by rw [beq_eq_false_iff_ne]; exact hc
      go_wp2
      go_ret
      rw [HE.out]
      exact ⟨rfl, _, own, ⟨h2, hfr2, H1.out.old⟩, fun _ _ => rfl, hk02⟩
  · have HE : Hid (Fs.sync st s.data.toList = (st, Fs.openE st s.data.toList)) := by unfold Fs.sync; rw [if_pos h0]; exact Lib.hid rfl
    have hc2 : (Fs.openE st s.data.toList != 0) = true := by rw [bne_iff_ne]; exact h0
    go_wp2
    go_ret
    rw [HE.out]
    exact ⟨rfl, V, own, H1.out, fun _ _ => rfl, kept_below hb1⟩
end Go.Proofs.YtcinagglbkbmkaaGreatDoor
namespace Go.Proofs.YtcinagglbkbmkaaGreatDoor
set_option linter.unusedSimpArgs false
set_option linter.unusedVariables false
open Go Go.RowKit
open Go.Maps Go.WideMaps

def tag1 (own : Nat → Tag) (n : Nat) (t : Tag) : Nat → Tag := fun k => if k = n then t else own k
theorem tag1_old {own : Nat → Tag} {n : Nat} {t : Tag} {k : Nat} (h : k < n) : tag1 own n t k = own k := if_neg (by omega)
theorem tag1_new {own : Nat → Tag} {n : Nat} {t : Tag} : tag1 own n t n = t := if_pos rfl

/-- The directory is sure. -/
theorem FsAt.synced {base B : Nat} {st : Fs.St} {V : FsV} {own : Nat → Tag} {w w3 : World} (h : FsAt base B st V own w) (hb : Below w.heap.size w w3) (hm : MapOf w3 w.heap.size st.dir) (hbase : base ≤ w.heap.size) :
    FsAt base B { st with sure := st.dir, changes := [] } { V with ms := w.heap.size, cv := .slice none 0 0 } (tag1 own w.heap.size .sure)
      ((w3.setCell ⟨B, 6, none⟩ (.map (some w.heap.size))).setCell ⟨B, 7, none⟩ (.slice none 0 0)) := by
  have ho : ∀ k, k < w.heap.size → tag1 own w.heap.size .sure k = own k := fun k hk => tag1_old hk
  have hB := heap_lt h.root
  have hk : Kept own (· = .root) w ((w3.setCell ⟨B, 6, none⟩ (.map (some w.heap.size))).setCell ⟨B, 7, none⟩ (.slice none 0 0)) :=
    ((kept_below hb).setCell ⟨B, 6, none⟩ h.tB _).setCell ⟨B, 7, none⟩ h.tB _
  have hk2 := hk.tags ho
  have hr3 : w3.heap[B]? = some (.cells (FsCells st V) 59 (0, 0)) := by rw [hb.block B hB]; exact h.root
  refine ⟨heap_set (heap_set hr3 _) _, (ho B hB).trans h.tB, h.lo, h.left, (h.plan.tags (fun k hk _ => ho k hk)).kept hk2 (by simp), row_kept h.files (fun g hg => hk.block g (row_block_lt h.files g hg).2 (by rw [h.tfiles g hg]; simp)), fun k hk3 => (ho k (row_block_lt h.files k hk3).2).trans (h.tfiles k hk3), h.nfb, h.ndv,
    fun i f b d h1 h2 h3 => ((h.file i f b d h1 h2 h3).tags (fun k hk _ => ho k hk)).kept hk2 (by simp) (by simp), h.dir.heap (hk.block _ h.dir.lt (by rw [h.tdir]; simp)), (ho _ h.dir.lt).trans h.tdir, ?_, tag1_new, ?_, h.known, ⟨h.bl.1, hbase⟩⟩
  · refine hm.heap ?_
    have hne : w.heap.size ≠ B := by omega
    rw [Below.heap_setCell _ _ _ _ hne, Below.heap_setCell _ _ _ _ hne]
  · exact ⟨[], World.ownsRow_nil _ _ _ _, fun k h => by simp [Value.ownBlock] at h, fun i x y h => by simp at h⟩

set_option maxHeartbeats 1000000 in
set_option maxRecDepth 100000 in
theorem syncDir_any (base B : Nat) (st : Fs.St) (V : FsV) (own : Nat → Tag) (w : World) (h : FsOK base B st V own w) :
    Calls Tryz.prog 78 #[.pointer (some ⟨B, 0, none⟩)] w fun e w' => e = .returned (.int .i64 (Fs.syncDir st).2) ∧ OpPost base B (Fs.syncDir st).1 own w w' := by
  have H := Lib.hid h
  clear h
  go_enter Tryz.func78, Tryz.ntmps78
  go_wp2_with fail
  refine (step_any base B st V own w H.out.at_).mono ?_
  rintro e w2 ⟨pv, rfl, h2, hk2⟩
  have hk02 : Kept own (· ≠ .other) w w2 := hk2.mono (fun t ht => by rw [ht]; simp)
  have hfr2 : ∀ k, w2.heap.size ≤ k → own k = .other := fun k hk => H.out.fresh k (Nat.le_trans hk2.size hk)
  by_cases hc : (Fs.step st).2.2 = 0
  · have HE : Hid (Fs.syncDir st = ({ (Fs.step st).1 with sure := st.dir, changes := [] }, 0)) := by unfold Fs.syncDir; rw [if_neg (by simp [hc])]; exact Lib.hid rfl
    have hc2 : ((Fs.step st).2.2 == 0) = true := by rw [hc]; rfl
    have HC := Lib.hid hc
    have hdir := h2.dir
    have hds : (Fs.step st).1.dir = st.dir := Fs.step_dir st
    have hlt2 := heap_lt h2.root
    have hlo := h2.lo
    have x5 : w2.cell? ⟨B, 5, none⟩ = some (.map (some V.md)) := root_cell h2.root 5 _ rfl
    have HD := Lib.hid hdir
    have HDS := Lib.hid hds
    have H2 := Lib.hid h2
    clear hc hdir hds h2
    go_wp2_with fail
    refine (cloneM V.md _ w2 HD.out).mono ?_
    rintro e w3 ⟨rfl, hm3, hb3⟩
    have hr3 : w3.heap[B]? = w2.heap[B]? := hb3.block B hlt2
    have hr3' := hr3.trans H2.out.root
    have y6 : w3.cell? ⟨B, 6, none⟩ = some (.map (some V.ms)) := root_cell hr3' 6 _ rfl
    have y7 : w3.cell? ⟨B, 7, none⟩ = some V.cv := root_cell hr3' 7 _ rfl
    have z6 := root_frozen hr3' 6
    have z7 := root_frozen hr3' 7
    have HN := Lib.hid (H2.out.synced hb3 hm3 (by omega))
    have hkk : Kept own (· ≠ .other) w2 ((w3.setCell ⟨B, 6, none⟩ (.map (some w2.heap.size))).setCell ⟨B, 7, none⟩ (.slice none 0 0)) :=
      ((kept_below hb3).setCell ⟨B, 6, none⟩ (by rw [H2.out.tB]; simp) _).setCell ⟨B, 7, none⟩ (by rw [H2.out.tB]; simp) _
    have hsz : w2.heap.size < w3.heap.size := hm3.lt
    clear hr3 hr3' hm3
    go_wp2
    go_ret
    rw [HE.out, ← HDS.out]
    refine ⟨congrArg (fun x => Ending.returned (.int .i64 x)) HC.out, _, _, ⟨HN.out, fun k hk => ?_, fun k hk => ?_⟩, fun k hk => tag1_old (Nat.lt_of_lt_of_le hk hk02.size), hk02.trans hkk⟩
    · simp [World.setCell] at hk
      unfold tag1
      rw [if_neg (by omega)]
      exact hfr2 k (by omega)
    · rw [tag1_old (by omega)]
      exact H.out.old k hk
  · have HE : Hid (Fs.syncDir st = ((Fs.step st).1, (Fs.step st).2.2)) := by unfold Fs.syncDir; rw [if_pos hc]; exact Lib.hid rfl
    have hc2 : ((Fs.step st).2.2 == 0) = false := by rw [beq_eq_false_iff_ne]; exact hc
    go_wp2
    go_ret
    rw [HE.out]
    exact ⟨rfl, _, own, ⟨h2, hfr2, H.out.old⟩, fun _ _ => rfl, hk02⟩

/-- What 'Read' leaves: the file's bytes, in memory of the call's own. -/
def ReadPost (st : Fs.St) (n : List UInt8) (w : World) (e : Ending) (w' : World) : Prop :=
  Below w.heap.size w w' ∧
  ((Fs.openE st n = 0 ∧ ∃ f v, st.files[Fs.idx st n]? = some f ∧ e = .returned (.tuple #[v, .int .i64 0]) ∧ OwnB w' w.heap.size v f.1) ∨
   (Fs.openE st n ≠ 0 ∧ e = .returned (.tuple #[.slice none 0 0, .int .i64 (Fs.openE st n)])))

theorem OwnB.mono {w : World} {base base' : Nat} {v : Value} {l : List UInt8} (h : OwnB w base v l) (hb : base' ≤ base) : OwnB w base' v l := by
  refine ⟨h.1, ?_⟩
  rcases h.2 with h2 | ⟨g, cap, cur, hv, hg, r⟩
  · exact .inl h2
  · exact .inr ⟨g, cap, cur, hv, Nat.le_trans hb hg, r⟩

set_option maxHeartbeats 1000000 in
set_option maxRecDepth 100000 in
theorem read_any (base B : Nat) (st : Fs.St) (V : FsV) (own : Nat → Tag) (s : ByteArray) (w : World) (h : FsOK base B st V own w) (hs : s.size ≤ 1000000) (hlen : ∀ f ∈ st.files, f.1.length ≤ 1000000000) :
    Calls Tryz.prog 34 #[.pointer (some ⟨B, 0, none⟩), .string s] w (ReadPost st s.data.toList w) := by
  have H := Lib.hid h
  clear h
  go_enter Tryz.func34, Tryz.ntmps34
  go_wp2_with fail
  refine (open_any base B st V own s w H.out.at_ hs).mono ?_
  rintro e w1 ⟨hb1, hres⟩
  have H1 := Lib.hid (H.out.kept (kept_below hb1))
  rcases hres with ⟨h0, f, b, d, hf, hb, hd, rfl⟩ | ⟨h0, rfl⟩
  · have HF := Lib.hid (H1.out.at_.file (Fs.idx st s.data.toList) f b d hf hb hd)
    have x0 : w1.cell? ⟨b, 0, none⟩ = some d := root_cell HF.out.blk 0 _ rfl
    have hfl := hlen f (List.mem_of_getElem? hf)
    go_wp2_with fail
    refine (cloneB base d f.1 w1 HF.out.row hfl).mono ?_
    rintro e w2 ⟨v', rfl, ho, hb2⟩
    go_wp2
    refine bodyPost_ret (v := .tuple #[v', .int .i64 0]) (by simp [results, Tryz.results34, go_sem]) rfl ?_
    exact ⟨hb1.trans (hb2.mono hb1.size), .inl ⟨h0, f, v', hf, rfl, ho.mono hb1.size⟩⟩
  · have hc2 : (Fs.openE st s.data.toList != 0) = true := by rw [bne_iff_ne]; exact h0
    go_wp2
    refine bodyPost_ret (v := .tuple #[.slice none 0 0, .int .i64 (Fs.openE st s.data.toList)]) (by simp [results, Tryz.results34, go_sem]) rfl ?_
    exact ⟨hb1, .inr ⟨h0, rfl⟩⟩
end Go.Proofs.YtcinagglbkbmkaaGreatDoor
namespace Go.Proofs.YtcinagglbkbmkaaGreatDoor
set_option linter.unusedSimpArgs false
set_option linter.unusedVariables false
open Go Go.RowKit
open Go.Maps Go.WideMaps

namespace Fs
def doOne (d : Names) (c : List UInt8 × Int) : Names := if c.2 < 0 then mdel d c.1 else mput d c.1 c.2
def doAll (d : Names) (l : Names) : Names := l.foldl doOne d
theorem mins_len (x : List UInt8 × Int) : ∀ l : Names, (mins x l).length = l.length + 1
  | [] => rfl
  | y :: r => by
    unfold mins
    split
    · simp
    · simp [mins_len x r]
theorem mdel_len (l : Names) (k : List UInt8) : (mdel l k).length ≤ l.length := List.length_filter_le _ _
theorem mput_len (l : Names) (k : List UInt8) (v : Int) : (mput l k v).length ≤ l.length + 1 := by
  unfold mput
  rw [mins_len]
  have := mdel_len l k
  omega
theorem doOne_len (d : Names) (c : List UInt8 × Int) : (doOne d c).length ≤ d.length + 1 := by
  unfold doOne
  split
  · have := mdel_len d c.1; omega
  · exact mput_len _ _ _
theorem doAll_len : ∀ (l d : Names), (doAll d l).length ≤ d.length + l.length
  | [], d => Nat.le_refl _
  | c :: l, d => by
    have h1 := doAll_len l (doOne d c)
    have h2 := doOne_len d c
    unfold doAll at h1 ⊢
    rw [List.foldl_cons, List.length_cons]
    omega
end Fs

/-- The cells of changes. -/
def ChgCells (w : World) (v : Value) (l : Fs.Names) : Prop :=
  ∃ b cap, v = .slice (some ⟨b, 0, none⟩) l.length cap ∧ b < w.heap.size ∧ ∀ (i : Nat) p, l[i]? = some p → w.cell? ⟨b, i * 2, none⟩ = some (.string ⟨p.1.toArray⟩) ∧ w.cell? ⟨b, i * 2 + 1, none⟩ = some (.int .i64 p.2)

theorem But.grown {X : Nat → Prop} {a w w' : World} {r : Option Nat} (h : But X a w) (hg : w.grownBy w' r) (hr : ∀ k, r = some k → X k) : But X a w' :=
  ⟨hg.os.trans h.os, hg.tape.trans h.tape, hg.output.trans h.output, Nat.le_trans h.size hg.size, fun k hk hx => by
    rw [hg.block k (Nat.lt_of_lt_of_le hk h.size) (fun e => hx (hr k e.symm))]
    exact h.block k hk hx⟩

set_option maxHeartbeats 1000000 in
set_option maxRecDepth 100000 in
theorem do_any (md : Nat) (d l : Fs.Names) (v : Value) (w : World) (hM : MapOf w md d) (hC : ChgCells w v l) (hne : ∀ b n c, v = .slice (some b) n c → b.block ≠ md) (hl : ∀ c ∈ l, c.1.length ≤ 1000000 ∧ -9223372036854775808 ≤ c.2 ∧ c.2 ≤ 9223372036854775807)
    (hn : d.length + l.length ≤ 1000000) :
    Calls Tryz.prog 85 #[.map (some md), v] w fun e w' => e = .returned (.tuple #[]) ∧ MapOf w' md (Fs.doAll d l) ∧ But (fun k => k = md) w w' := by
  obtain ⟨g, cap, rfl, hg, hcl⟩ := hC
  have hgm : g ≠ md := hne _ _ _ rfl
  go_enter Tryz.func85, Tryz.ntmps85
  go_wp2
  go_loopg [8] l.length (fun k s8 wr => ∃ j : Nat, j ≤ l.length ∧ k = l.length - j ∧ s8 = .int .i64 (j : Nat) ∧ MapOf wr md (Fs.doAll d (l.take j)) ∧ But (fun k => k = md) w wr)
  case atStart => exact ⟨0, Nat.zero_le _, rfl, rfl, hM, But.refl _ _⟩
  case round =>
    obtain ⟨j, hj, hk, rfl, hMr, hB⟩ := hrel
    have HK := Lib.hid hk
    clear hk
    have hj0 : (0 : Int) ≤ (j : Int) := Int.natCast_nonneg _
    by_cases hjn : j < l.length
    · have hjn1 : (j : Int) < (l.length : Int) := by omega
      obtain ⟨p, hp⟩ : ∃ p, l[j]? = some p := ⟨_, List.getElem?_eq_getElem hjn⟩
      obtain ⟨k0, k1⟩ := hcl j p hp
      have c0 : wr.cell? ⟨g, j * 2, none⟩ = some (.string ⟨p.1.toArray⟩) := by rw [hB.cell hg hgm]; exact k0
      have c1 : wr.cell? ⟨g, j * 2 + 1, none⟩ = some (.int .i64 p.2) := by rw [hB.cell hg hgm]; exact k1
      obtain ⟨hpl, hpa, hpb⟩ := hl p (List.mem_of_getElem? hp)
      have HTK : Hid (Fs.doAll d (l.take (j + 1)) = Fs.doOne (Fs.doAll d (l.take j)) p) := by
        unfold Fs.doAll
        rw [List.take_add_one, hp, List.foldl_append]
        exact Lib.hid rfl
      have hlen : (Fs.doAll d (l.take j)).length ≤ 1000000 := by
        have := Fs.doAll_len (l.take j) d
        rw [List.length_take] at this
        omega
      have hkey := keyOf_string_mk Tryz.underlying9 (s := ⟨p.1.toArray⟩) (show p.1.length ≤ maxLen by unfold maxLen; omega)
      have HM1 := Lib.hid (World.ownsMap.alloc hMr (.cells #[.string ⟨p.1.toArray⟩, .int .i64 p.2] 158))
      have HB1 := Lib.hid (hB.alloc (.cells #[.string ⟨p.1.toArray⟩, .int .i64 p.2] 158))
      have HW : Hid ((Lit.int .i64 p.2).wf = true) := by
        refine Lib.hid ?_
        have e1 : IntKind.i64.min = -9223372036854775808 := by decide
        have e2 : IntKind.i64.max = 9223372036854775807 := by decide
        simp [Lit.wf, e1, e2]
        omega
      clear k0 k1 hp hMr hB
      by_cases hneg : p.2 < 0
      · have HD : Hid (Fs.doOne (Fs.doAll d (l.take j)) p = Fs.mdel (Fs.doAll d (l.take j)) p.1) := by unfold Fs.doOne; rw [if_pos hneg]; exact Lib.hid rfl
        go_wp2_with (first | (at_delete; refine wpList_delete_own _ rfl _ _ 56 9 rfl 3 strKeyed Tryz.underlying56 _ md _ _ rfl HM1.out _ _ rfl hkey ?_; intro w3 hown3 hturn3) | fail)
        go_roundg (l.length - (j + 1))
        case measure => rw [HK.out]; omega
        case rel =>
          refine ⟨j + 1, hjn, rfl, by simp, ?_, HB1.out.grown hturn3.grown (fun k h => by simpa using h.symm)⟩
          rw [HTK.out, HD.out]
          rw [Fs.datum_del] at hown3
          exact MapOf.of hown3
      · have hneg2 : 0 ≤ p.2 := by omega
        have HD : Hid (Fs.doOne (Fs.doAll d (l.take j)) p = Fs.mput (Fs.doAll d (l.take j)) p.1 p.2) := by unfold Fs.doOne; rw [if_neg hneg]; exact Lib.hid rfl
        go_wp2_with (first | (at_mapUpdate; refine wpList_mapUpdate_own _ rfl _ _ _ 56 rfl 9 3 strKeyed Tryz.underlying56 _ md _ _ rfl HM1.out (by unfold maxLen; omega) _ _ _ rfl rfl hkey _ [] (plainElem_int Tryz.underlying3 HW.out) ?_; intro w3 hown3 hgrow3) | fail)
        go_roundg (l.length - (j + 1))
        case measure => rw [HK.out]; omega
        case rel =>
          refine ⟨j + 1, hjn, rfl, by simp, ?_, HB1.out.grown hgrow3 (fun k h => by simpa using h.symm)⟩
          rw [HTK.out, HD.out]
          rw [Fs.datum_put] at hown3
          exact MapOf.of hown3
    · have hjn1 : (l.length : Int) ≤ (j : Int) := by omega
      have hjl : l.take j = l := List.take_of_length_le (by omega)
      rw [hjl] at hMr
      go_wp2
      go_end0
      exact ⟨rfl, hMr, hB⟩
end Go.Proofs.YtcinagglbkbmkaaGreatDoor
namespace Go.Proofs.YtcinagglbkbmkaaGreatDoor
set_option linter.unusedSimpArgs false
set_option linter.unusedVariables false
open Go Go.RowKit
open Go.Maps Go.WideMaps

/-- A row that was appended to: its tags, what is kept. -/
theorem retag {base : Nat} {own : Nat → Tag} {τ : Tag} {w w' : World} {t : TypeId} {sz n n' : Nat} {v v' : Value} {cs cs' : List Value} (h : w.ownsRow base t sz v n cs) (h' : w'.ownsRow base t sz v' n' cs') (hg : w.grownBy w' v.ownBlock)
    (hloc : v'.ownBlock = v.ownBlock ∨ v'.ownBlock = some w.heap.size) (ht : ∀ k, v.ownBlock = some k → own k = τ) (hfr : ∀ k, w.heap.size ≤ k → own k = .other) (hold : ∀ k, k < base → own k = .other) (hbase : base ≤ w.heap.size) :
    ∃ own' : Nat → Tag, (∀ k, k < w.heap.size → own' k = own k) ∧ (∀ k, v'.ownBlock = some k → own' k = τ) ∧ (∀ k, w'.heap.size ≤ k → own' k = .other) ∧ (∀ k, k < base → own' k = .other) ∧ Kept own (· = τ) w w' := by
  have hk : Kept own (· = τ) w w' := (Kept.refl _ _ _).grown hg (fun k hk => .inl (ht k hk))
  rcases hloc with hl | hl
  · exact ⟨own, fun _ _ => rfl, fun k hk2 => ht k (hl ▸ hk2), fun k hk2 => hfr k (Nat.le_trans hg.size hk2), hold, hk⟩
  · have hlt := (row_block_lt h' _ hl).2
    refine ⟨tag1 own w.heap.size τ, fun k hk2 => tag1_old hk2, fun k hk2 => ?_, fun k hk2 => ?_, fun k hk2 => ?_, hk⟩
    · rw [hl] at hk2
      simp only [Option.some.injEq] at hk2
      rw [← hk2]
      exact tag1_new
    · unfold tag1
      rw [if_neg (by omega)]
      exact hfr k (by omega)
    · rw [tag1_old (by omega)]
      exact hold k hk2

theorem infoFP : (Tryz.prog.info? 153).map (fun i => (i.zero, i.size, i.bytes)) = some (some (.pointer none), 1, 8) := by kernel_rfl
theorem infoCH : (Tryz.prog.info? 164).map (fun i => (i.zero, i.size, i.bytes)) = some (some (.slice none 0 0), 1, 24) := by kernel_rfl

/-- One file more. -/
theorem FsOK.more {base B : Nat} {st : Fs.St} {V : FsV} {own : Nat → Tag} {w w5 : World} {fv' : Value} (h : FsOK base B st V own w)
    (hrow : w5.ownsRow base 153 1 fv' (st.files.length + 1) ((V.fb.map fun b => (.pointer (some ⟨b, 0, none⟩) : Value)) ++ [.pointer (some ⟨w.heap.size, 0, none⟩)]))
    (hg : ((w.alloc (.cells #[.slice none 0 0, .int .i64 0] 155)).alloc (.cells #[.pointer (some ⟨w.heap.size, 0, none⟩)] 153)).grownBy w5 V.fv.ownBlock)
    (hloc : fv'.ownBlock = V.fv.ownBlock ∨ fv'.ownBlock = some ((w.alloc (.cells #[.slice none 0 0, .int .i64 0] 155)).alloc (.cells #[.pointer (some ⟨w.heap.size, 0, none⟩)] 153)).heap.size) (hbase : base ≤ w.heap.size) :
    ∃ own', FsOK base B { st with files := st.files ++ [([], 0)] } { V with fv := fv', fb := V.fb ++ [w.heap.size], dv := V.dv ++ [.slice none 0 0] } own' (w5.setCell ⟨B, 4, none⟩ fv') ∧
      (∀ k, k < w.heap.size → own' k = own k) ∧ Kept own (· ≠ .other) w (w5.setCell ⟨B, 4, none⟩ fv') := by
  have hA := h.at_
  have hB := heap_lt hA.root
  have s1 : (w.alloc (.cells #[.slice none 0 0, .int .i64 0] 155)).heap.size = w.heap.size + 1 := by simp
  have s2 : ((w.alloc (.cells #[.slice none 0 0, .int .i64 0] 155)).alloc (.cells #[.pointer (some ⟨w.heap.size, 0, none⟩)] 153)).heap.size = w.heap.size + 2 := by simp
  have hF1 := heap_new w (.cells #[.slice none 0 0, .int .i64 0] 155)
  have hF2 : ((w.alloc (.cells #[.slice none 0 0, .int .i64 0] 155)).alloc (.cells #[.pointer (some ⟨w.heap.size, 0, none⟩)] 153)).heap[w.heap.size]? = some (.cells #[.slice none 0 0, .int .i64 0] 155 (0, 0)) := by
    rw [Lib.alloc_old _ _ _ (by omega)]; exact hF1
  have b4 : Below w.heap.size w ((w.alloc (.cells #[.slice none 0 0, .int .i64 0] 155)).alloc (.cells #[.pointer (some ⟨w.heap.size, 0, none⟩)] 153)) :=
    ((Below.refl _ _).alloc (Nat.le_refl _) _).alloc (by omega) _
  generalize hw4 : ((w.alloc (.cells #[.slice none 0 0, .int .i64 0] 155)).alloc (.cells #[.pointer (some ⟨w.heap.size, 0, none⟩)] 153)) = w4 at *
  have hfvlt : ∀ k, V.fv.ownBlock = some k → k < w.heap.size := fun k hk => (row_block_lt hA.files k hk).2
  have hrow4 : w4.ownsRow base 153 1 V.fv st.files.length (V.fb.map fun b => .pointer (some ⟨b, 0, none⟩)) := row_kept hA.files (fun g hg2 => b4.block g (hfvlt g hg2))
  have hfrA : ∀ k, w4.heap.size ≤ k → tag1 own w.heap.size (.file st.files.length) k = .other := fun k hk => by
    unfold tag1
    rw [if_neg (by omega)]
    exact h.fresh k (by omega)
  obtain ⟨own', o1, o2, o3, o4, hk⟩ := retag (own := tag1 own w.heap.size (.file st.files.length)) hrow4 hrow hg hloc (fun k hk => by rw [tag1_old (hfvlt k hk)]; exact hA.tfiles k hk) hfrA
    (fun k hk => by rw [tag1_old (by omega)]; exact h.old k hk) (by omega)
  have ho : ∀ k, k < w.heap.size → own' k = own k := fun k hk2 => (o1 k (by omega)).trans (tag1_old hk2)
  have hk45 : Kept own (· = .files) w w5 := by
    refine ⟨hk.os.trans b4.os, hk.tape.trans b4.tape, hk.output.trans b4.output, Nat.le_trans b4.size hk.size, fun k hk2 ht => ?_⟩
    rw [hk.block k (by omega) (by rw [tag1_old hk2]; exact ht)]
    exact b4.block k hk2
  have hkW : Kept own (fun t => t = .root ∨ t = .files) w (w5.setCell ⟨B, 4, none⟩ fv') := (hk45.mono (fun t ht => .inr ht)).setCell ⟨B, 4, none⟩ (.inl hA.tB) _
  have hkW' := hkW.tags ho
  have hr5 : w5.heap[B]? = some (.cells (FsCells st V) 59 (0, 0)) := by rw [hk45.block B hB (by rw [hA.tB]; simp)]; exact hA.root
  have hFn : (w5.setCell ⟨B, 4, none⟩ fv').heap[w.heap.size]? = some (.cells #[.slice none 0 0, .int .i64 0] 155 (0, 0)) := by
    rw [Below.heap_setCell _ _ _ _ (show w.heap.size ≠ (⟨B, 4, none⟩ : Addr).block by simp; omega), hk.block w.heap.size (by omega) (by rw [tag1_new]; simp)]
    exact hF2
  refine ⟨own', ⟨⟨heap_set hr5 _, (ho B hB).trans hA.tB, hA.lo, hA.left, (hA.plan.tags (fun k hk _ => ho k hk)).kept hkW' (by simp), ?_, o2, ?_, ?_, ?_, hA.dir.heap (hkW.block _ hA.dir.lt (by rw [hA.tdir]; simp)), (ho _ hA.dir.lt).trans hA.tdir,
    hA.sure.heap (hkW.block _ hA.sure.lt (by rw [hA.tsure]; simp)), (ho _ hA.sure.lt).trans hA.tsure, (hA.chg.tags (fun k hk _ => ho k hk)).kept hkW' (by simp) (by simp), ?_, hA.bl⟩, fun k hk2 => o3 k ?_, o4⟩, ho, hkW.mono (fun t ht => by rcases ht with rfl | rfl <;> simp)⟩
  · rw [List.length_append, List.length_singleton, List.map_append]
    refine row_kept hrow (fun g hg2 => Below.heap_setCell _ _ _ _ (fun e => ?_))
    have h1 := o2 g hg2
    rw [e] at h1
    rw [show (⟨B, 4, none⟩ : Addr).block = B from rfl, ho B hB, hA.tB] at h1
    cases h1
  · simp [hA.nfb]
  · simp [hA.ndv]
  · intro i f b d h1 h2 h3
    by_cases hi : i < st.files.length
    · rw [List.getElem?_append_left hi] at h1
      rw [List.getElem?_append_left (by rw [hA.nfb]; exact hi)] at h2
      rw [List.getElem?_append_left (by rw [hA.ndv]; exact hi)] at h3
      exact ((hA.file i f b d h1 h2 h3).tags (fun k hk _ => ho k hk)).kept hkW' (by simp) (by simp)
    · have hi2 : i = st.files.length := by
        have := (List.getElem?_eq_some_iff.1 h1).1
        simp at this
        omega
      subst hi2
      rw [List.getElem?_append_right (Nat.le_refl _), Nat.sub_self] at h1
      rw [← hA.nfb, List.getElem?_append_right (Nat.le_refl _), Nat.sub_self] at h2
      rw [← hA.ndv, List.getElem?_append_right (Nat.le_refl _), Nat.sub_self] at h3
      simp at h1 h2 h3
      subst h1 h2 h3
      exact ⟨hFn, (o1 _ (by omega)).trans tag1_new, World.ownsRow_nil _ _ _ _, fun k hk2 => by simp [Value.ownBlock] at hk2⟩
  · intro p hp
    rw [List.length_append, List.length_singleton]
    have := hA.known p hp
    omega
  · simpa [World.setCell] using hk2
end Go.Proofs.YtcinagglbkbmkaaGreatDoor
