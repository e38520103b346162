/-
  DERIVED: THE SHELF's CONTRACTS AT THIS DUMP, IN PLAIN WORDS (tools/lay-plain.mjs out of 'TryzShelf.lean', which tools/lay-shelf.mjs wrote): THE SAME DECLARATIONS UNDER THE SAME NAMES: 'import', 'namespace', 'open', 'def', 'theorem' AND NOTHING ELSE: no command of the shelf's: FOR A HAND-IN. Each laying: the table of numbers ('.._ren') and one theorem, a field a fact of the dump's own or the kernel's comparison; each contract: ONE APPLICATION. The file system: Sync, SyncDir, Read, New, walked. The file system: New, Sync, SyncDir, Read, walked. The file system: SyncDir, Read, walked. The file system: a directory's changes, walked. The file system: Create, walked.
-/
import Derived.Shelf.Small.Wraps
import Derived.Shelf.Strconv.Atoi
import Derived.Shelf.Strconv.Itoa0
import Derived.Shelf.Strconv.Itoa1
import Derived.Shelf.LaysM
import Derived.Shelf.Strconv.Itoa2
import Derived.Shelf.Strconv.Itoa3
import Derived.Shelf.Strconv.AtoiErrFast
import Derived.Shelf.Strconv.ParseIntEmpty
import Derived.Shelf.Strconv.AtoiFail
import Derived.Shelf.Strconv.Clone
import Derived.Shelf.Strconv.SyntaxError
import Derived.Shelf.LaysC
import Derived.Shelf.Strconv.ToError
import Derived.Shelf.Strconv.Lower
import Derived.Shelf.Strconv.ParseUint10
import Derived.Shelf.Strconv.ParseUint10Empty
import Derived.Shelf.Strconv.ParseUint10Any
import Derived.Shelf.Strconv.ParseInt10
import Derived.Shelf.Strconv.AtoiLong
import Derived.Shelf.Strconv.AtoiInnerAll
import Derived.Shelf.Strconv.RangeError
import Derived.Shelf.Strconv.ToErrorRange
import Derived.Shelf.Strconv.AtoiAll
import Derived.Shelf.Strconv.ErrVarAll
import Derived.Shelf.Strings.Search1
import Derived.Shelf.Strings.Search2
import Derived.Shelf.Strings.Search3
import Derived.Shelf.Strings.Count
import Derived.Shelf.Strings.Shaped
import Derived.Shelf.Strings.Prefix
import Derived.Shelf.Strings.Split
import Derived.Shelf.Strings.SplitShaped
import Derived.Shelf.Unicode.Decode
import Derived.Shelf.Strings.RuneCount
import Derived.Shelf.Strings.Explode
import Derived.Shelf.Unicode.DecodeSlow
import Derived.Shelf.Unicode.DecodeAny
import Derived.Shelf.Slices.Turned
import Derived.Ground.Names2Prog
import Derived.Shelf.Slices.Clone
import Derived.Ground.SlgnProg
import Derived.Shelf.SlicesE.Clone
import Derived.Ground.SlgmProg
import Derived.Shelf.SortM.Plain
import Derived.Shelf.SortM.SortNone
import Derived.Test.YtmlekglfdiacpaaGreatDoorProg
import Derived.Test.YtmlekglfdiacpaaGreatDoorZp3
import Derived.Shelf.SlMaps.Clone
import Derived.Maps.OwnOps
open Go.Lib renaming hid → QA
open List renaming mem_of_getElem? → QZ, getElem?_append_left → ZL
open Nat renaming le_refl → QM, le_trans → QQ
namespace Go.Proofs
set_option maxRecDepth 100000
set_option maxHeartbeats 4000000
open Go.Shelf
def Tryz.lays103_ren:Go.Shelf.Ren:=⟨fun|103=>81|210=>100|206=>113|n=>n,fun|9=>9|4=>4|24=>140|3=>3|n=>n,fun|n=>n⟩
theorem Tryz.lays103:Go.Proofs.Lays.n103 Tryz.prog Tryz.lays103_ren:={
 mixed:=by kernel_rfl
 f103:=Tryz.func81.trans (congrArg some (by kernel_rfl))
 f206:=Tryz.func113.trans (congrArg some (by kernel_rfl))
 f210:=Tryz.func100.trans (congrArg some (by kernel_rfl))
 t3:=Tryz.underlying3
 a3:=Tryz.isAgg3
 z3:=Tryz.sizeOf3
 v3:=Tryz.zeroValue3
 t4:=Tryz.underlying4
 a4:=Tryz.isAgg4
 z4:=Tryz.sizeOf4
 v4:=Tryz.zeroValue4
 t9:=Tryz.underlying9
 a9:=Tryz.isAgg9
 z9:=Tryz.sizeOf9
 v9:=Tryz.zeroValue9
 t24:=Tryz.underlying140
 a24:=Tryz.isAgg140
 z24:=Tryz.sizeOf140
 v24:=Tryz.zeroValue140 }
open Go.RowKit in
theorem Tryz.strings_CutPrefix (s p:ByteArray) (w:World) :
  Calls Tryz.prog 81 #[.string s,.string p] w λe w'=>e=.returned (.tuple #[.string ⟨(Lib.trimPrefix s.data.toList p.data.toList).toArray⟩,.bool (Lib.hasPrefix s.data.toList p.data.toList)])∧w'=w:=Any.strings_CutPrefix Tryz.lays103 s p w
def Tryz.laysM171_ren:Go.Shelf.Ren:=⟨fun|171=>76|243=>94|246=>110|283=>134|284=>135|285=>136|286=>137|129=>133|317=>151|318=>152|319=>153|320=>154|337=>163|338=>164|n=>n,fun|3=>3|9=>9|2=>2|4=>4|171=>199|0=>0|53=>198|37=>38|5=>5|173=>201|212=>220|51=>164|20=>20|213=>221|46=>175|232=>236|233=>237|n=>n,fun|17=>2|18=>6|19=>7|n=>n⟩
theorem Tryz.laysM171:Go.Proofs.LaysM.n171 Tryz.prog Tryz.laysM171_ren:={
 mixed:=by kernel_rfl
 f129:=Tryz.func133.trans (congrArg some (by kernel_rfl))
 f171:=Tryz.func76.trans (congrArg some (by kernel_rfl))
 f243:=Tryz.func94.trans (congrArg some (by kernel_rfl))
 f246:=Tryz.func110.trans (congrArg some (by kernel_rfl))
 f283:=Tryz.func134.trans (congrArg some (by kernel_rfl))
 f284:=Tryz.func135.trans (congrArg some (by kernel_rfl))
 f285:=Tryz.func136.trans (congrArg some (by kernel_rfl))
 f286:=Tryz.func137.trans (congrArg some (by kernel_rfl))
 f317:=Tryz.func151.trans (congrArg some (by kernel_rfl))
 f318:=Tryz.func152.trans (congrArg some (by kernel_rfl))
 f319:=Tryz.func153.trans (congrArg some (by kernel_rfl))
 f320:=Tryz.func154.trans (congrArg some (by kernel_rfl))
 f337:=Tryz.func163.trans (congrArg some (by kernel_rfl))
 f338:=Tryz.func164.trans (congrArg some (by kernel_rfl))
 t0:=Tryz.underlying0
 a0:=Tryz.isAgg0
 z0:=Tryz.sizeOf0
 v0:=Tryz.zeroValue0
 t2:=Tryz.underlying2
 a2:=Tryz.isAgg2
 z2:=Tryz.sizeOf2
 v2:=Tryz.zeroValue2
 t3:=Tryz.underlying3
 a3:=Tryz.isAgg3
 z3:=Tryz.sizeOf3
 v3:=Tryz.zeroValue3
 t4:=Tryz.underlying4
 a4:=Tryz.isAgg4
 z4:=Tryz.sizeOf4
 v4:=Tryz.zeroValue4
 t5:=Tryz.underlying5
 a5:=Tryz.isAgg5
 z5:=Tryz.sizeOf5
 v5:=Tryz.zeroValue5
 t9:=Tryz.underlying9
 a9:=Tryz.isAgg9
 z9:=Tryz.sizeOf9
 v9:=Tryz.zeroValue9
 t20:=Tryz.underlying20
 a20:=Tryz.isAgg20
 z20:=Tryz.sizeOf20
 v20:=Tryz.zeroValue20
 t37:=Tryz.underlying38
 a37:=Tryz.isAgg38
 z37:=Tryz.sizeOf38
 v37:=Tryz.zeroValue38
 t46:=Tryz.underlying175
 a46:=Tryz.isAgg175
 z46:=Tryz.sizeOf175
 v46:=Tryz.zeroValue175
 t51:=Tryz.underlying164
 a51:=Tryz.isAgg164
 z51:=Tryz.sizeOf164
 v51:=Tryz.zeroValue164
 t53:=Tryz.underlying198
 a53:=Tryz.isAgg198
 z53:=Tryz.sizeOf198
 v53:=Tryz.zeroValue198
 t171:=Tryz.underlying199
 a171:=Tryz.isAgg199
 z171:=Tryz.sizeOf199
 v171:=Tryz.zeroValue199
 t173:=Tryz.underlying201
 a173:=Tryz.isAgg201
 z173:=Tryz.sizeOf201
 v173:=Tryz.zeroValue201
 t212:=Tryz.underlying220
 a212:=Tryz.isAgg220
 z212:=Tryz.sizeOf220
 v212:=Tryz.zeroValue220
 t213:=Tryz.underlying221
 a213:=Tryz.isAgg221
 z213:=Tryz.sizeOf221
 t232:=Tryz.underlying236
 a232:=Tryz.isAgg236
 z232:=Tryz.sizeOf236
 v232:=Tryz.zeroValue236
 t233:=Tryz.underlying237
 a233:=Tryz.isAgg237
 z233:=Tryz.sizeOf237
 v233:=Tryz.zeroValue237
 g17:=by kernel_rfl
 g18:=by kernel_rfl
 g19:=by kernel_rfl
 i0:=by kernel_rfl
 i2:=by kernel_rfl
 i3:=by kernel_rfl
 i4:=by kernel_rfl
 i5:=by kernel_rfl
 i9:=by kernel_rfl
 i20:=by kernel_rfl
 i37:=by kernel_rfl
 i46:=by kernel_rfl
 i51:=by kernel_rfl
 i53:=by kernel_rfl
 i171:=by kernel_rfl
 i173:=by kernel_rfl
 i212:=by kernel_rfl
 i232:=by kernel_rfl
 i233:=by kernel_rfl
 m17:=by kernel_rfl
 m18:=by kernel_rfl
 m19:=by kernel_rfl }
open Go.RowKit Go.Sort Go.Lib in
theorem Tryz.strconv_Itoa (n : Int) (h0 : -9223372036854775808 ≤ n) (h1 : n ≤ 9223372036854775807) (w : World) (htab : Lib.TabIs Tryz.prog w "internal/strconv.uint64pow10" .u64 Lib.pow10Tab) :
  Calls Tryz.prog 76 #[.int .i64 n] w λe w'=>e=.returned (.string ⟨(Lib.itoa n).toArray⟩)∧∃k os,w'=grow (w.drewN k) os:=Any.strconv_Itoa Tryz.laysM171 n h0 h1 w htab
def Tryz.laysC172_ren:Go.Shelf.Ren:=⟨fun|172=>82|244=>101|245=>102|247=>114|279=>115|280=>116|281=>117|282=>118|287=>138|316=>139|171=>76|205=>140|321=>155|322=>156|243=>94|246=>110|283=>134|284=>135|285=>136|286=>137|129=>133|317=>151|318=>152|319=>153|320=>154|337=>163|338=>164|n=>n,fun|9=>9|3=>3|75=>143|76=>144|4=>4|5=>5|167=>181|37=>38|0=>0|85=>182|2=>2|168=>184|53=>198|175=>203|46=>175|210=>207|127=>224|145=>227|143=>225|21=>21|171=>199|173=>201|212=>220|51=>164|20=>20|213=>221|232=>236|233=>237|80=>238|n=>n,fun|15=>0|16=>1|17=>2|18=>6|19=>7|n=>n⟩
theorem Tryz.laysC172:Go.Proofs.LaysC.n172 Tryz.prog Tryz.laysC172_ren:={
 mixed:=by kernel_rfl
 f129:=Tryz.func133.trans (congrArg some (by kernel_rfl))
 f171:=Tryz.func76.trans (congrArg some (by kernel_rfl))
 f172:=Tryz.func82.trans (congrArg some (by kernel_rfl))
 f205:=Tryz.func140.trans (congrArg some (by kernel_rfl))
 f243:=Tryz.func94.trans (congrArg some (by kernel_rfl))
 f244:=Tryz.func101.trans (congrArg some (by kernel_rfl))
 f245:=Tryz.func102.trans (congrArg some (by kernel_rfl))
 f246:=Tryz.func110.trans (congrArg some (by kernel_rfl))
 f247:=Tryz.func114.trans (congrArg some (by kernel_rfl))
 f279:=Tryz.func115.trans (congrArg some (by kernel_rfl))
 f280:=Tryz.func116.trans (congrArg some (by kernel_rfl))
 f281:=Tryz.func117.trans (congrArg some (by kernel_rfl))
 f282:=Tryz.func118.trans (congrArg some (by kernel_rfl))
 f283:=Tryz.func134.trans (congrArg some (by kernel_rfl))
 f284:=Tryz.func135.trans (congrArg some (by kernel_rfl))
 f285:=Tryz.func136.trans (congrArg some (by kernel_rfl))
 f286:=Tryz.func137.trans (congrArg some (by kernel_rfl))
 f287:=Tryz.func138.trans (congrArg some (by kernel_rfl))
 f316:=Tryz.func139.trans (congrArg some (by kernel_rfl))
 f317:=Tryz.func151.trans (congrArg some (by kernel_rfl))
 f318:=Tryz.func152.trans (congrArg some (by kernel_rfl))
 f319:=Tryz.func153.trans (congrArg some (by kernel_rfl))
 f320:=Tryz.func154.trans (congrArg some (by kernel_rfl))
 f321:=Tryz.func155.trans (congrArg some (by kernel_rfl))
 f322:=Tryz.func156.trans (congrArg some (by kernel_rfl))
 f337:=Tryz.func163.trans (congrArg some (by kernel_rfl))
 f338:=Tryz.func164.trans (congrArg some (by kernel_rfl))
 t0:=Tryz.underlying0
 a0:=Tryz.isAgg0
 z0:=Tryz.sizeOf0
 v0:=Tryz.zeroValue0
 t2:=Tryz.underlying2
 a2:=Tryz.isAgg2
 z2:=Tryz.sizeOf2
 v2:=Tryz.zeroValue2
 t3:=Tryz.underlying3
 a3:=Tryz.isAgg3
 z3:=Tryz.sizeOf3
 v3:=Tryz.zeroValue3
 t4:=Tryz.underlying4
 a4:=Tryz.isAgg4
 z4:=Tryz.sizeOf4
 v4:=Tryz.zeroValue4
 t5:=Tryz.underlying5
 a5:=Tryz.isAgg5
 z5:=Tryz.sizeOf5
 v5:=Tryz.zeroValue5
 t9:=Tryz.underlying9
 a9:=Tryz.isAgg9
 z9:=Tryz.sizeOf9
 v9:=Tryz.zeroValue9
 t20:=Tryz.underlying20
 a20:=Tryz.isAgg20
 z20:=Tryz.sizeOf20
 v20:=Tryz.zeroValue20
 t21:=Tryz.underlying21
 a21:=Tryz.isAgg21
 z21:=Tryz.sizeOf21
 v21:=Tryz.zeroValue21
 t37:=Tryz.underlying38
 a37:=Tryz.isAgg38
 z37:=Tryz.sizeOf38
 v37:=Tryz.zeroValue38
 t46:=Tryz.underlying175
 a46:=Tryz.isAgg175
 z46:=Tryz.sizeOf175
 v46:=Tryz.zeroValue175
 t51:=Tryz.underlying164
 a51:=Tryz.isAgg164
 z51:=Tryz.sizeOf164
 v51:=Tryz.zeroValue164
 t53:=Tryz.underlying198
 a53:=Tryz.isAgg198
 z53:=Tryz.sizeOf198
 v53:=Tryz.zeroValue198
 t75:=Tryz.underlying143
 a75:=Tryz.isAgg143
 z75:=Tryz.sizeOf143
 v75:=Tryz.zeroValue143
 t76:=Tryz.underlying144
 a76:=Tryz.isAgg144
 z76:=Tryz.sizeOf144
 v76:=Tryz.zeroValue144
 t85:=Tryz.underlying182
 a85:=Tryz.isAgg182
 z85:=Tryz.sizeOf182
 v85:=Tryz.zeroValue182
 t127:=Tryz.underlying224
 a127:=Tryz.isAgg224
 z127:=Tryz.sizeOf224
 v127:=Tryz.zeroValue224
 t143:=Tryz.underlying225
 a143:=Tryz.isAgg225
 z143:=Tryz.sizeOf225
 v143:=Tryz.zeroValue225
 t145:=Tryz.underlying227
 a145:=Tryz.isAgg227
 z145:=Tryz.sizeOf227
 v145:=Tryz.zeroValue227
 t167:=Tryz.underlying181
 a167:=Tryz.isAgg181
 z167:=Tryz.sizeOf181
 v167:=Tryz.zeroValue181
 t168:=Tryz.underlying184
 a168:=Tryz.isAgg184
 z168:=Tryz.sizeOf184
 v168:=Tryz.zeroValue184
 t171:=Tryz.underlying199
 a171:=Tryz.isAgg199
 z171:=Tryz.sizeOf199
 v171:=Tryz.zeroValue199
 t173:=Tryz.underlying201
 a173:=Tryz.isAgg201
 z173:=Tryz.sizeOf201
 v173:=Tryz.zeroValue201
 t175:=Tryz.underlying203
 a175:=Tryz.isAgg203
 z175:=Tryz.sizeOf203
 v175:=Tryz.zeroValue203
 t210:=Tryz.underlying207
 a210:=Tryz.isAgg207
 z210:=Tryz.sizeOf207
 v210:=Tryz.zeroValue207
 t212:=Tryz.underlying220
 a212:=Tryz.isAgg220
 z212:=Tryz.sizeOf220
 v212:=Tryz.zeroValue220
 t213:=Tryz.underlying221
 a213:=Tryz.isAgg221
 z213:=Tryz.sizeOf221
 t232:=Tryz.underlying236
 a232:=Tryz.isAgg236
 z232:=Tryz.sizeOf236
 v232:=Tryz.zeroValue236
 t233:=Tryz.underlying237
 a233:=Tryz.isAgg237
 z233:=Tryz.sizeOf237
 v233:=Tryz.zeroValue237
 g15:=by kernel_rfl
 g16:=by kernel_rfl
 g17:=by kernel_rfl
 g18:=by kernel_rfl
 g19:=by kernel_rfl
 t80:=Tryz.underlying238
 a80:=Tryz.isAgg238
 z80:=Tryz.sizeOf238
 v80:=Tryz.zeroValue238
 i0:=by kernel_rfl
 i2:=by kernel_rfl
 i3:=by kernel_rfl
 i4:=by kernel_rfl
 i5:=by kernel_rfl
 i9:=by kernel_rfl
 i20:=by kernel_rfl
 i21:=by kernel_rfl
 i37:=by kernel_rfl
 i46:=by kernel_rfl
 i51:=by kernel_rfl
 i53:=by kernel_rfl
 i75:=by kernel_rfl
 i76:=by kernel_rfl
 i80:=by kernel_rfl
 i85:=by kernel_rfl
 i127:=by kernel_rfl
 i143:=by kernel_rfl
 i145:=by kernel_rfl
 i167:=by kernel_rfl
 i168:=by kernel_rfl
 i171:=by kernel_rfl
 i173:=by kernel_rfl
 i175:=by kernel_rfl
 i210:=by kernel_rfl
 i212:=by kernel_rfl
 i232:=by kernel_rfl
 i233:=by kernel_rfl
 m15:=by kernel_rfl
 m16:=by kernel_rfl
 m17:=by kernel_rfl
 m18:=by kernel_rfl
 m19:=by kernel_rfl
 c0:=by kernel_rfl
 c2:=by kernel_rfl
 c3:=by kernel_rfl
 c4:=by kernel_rfl
 c5:=by kernel_rfl
 c9:=by kernel_rfl
 c20:=by kernel_rfl
 c21:=by kernel_rfl
 c37:=by kernel_rfl
 c46:=by kernel_rfl
 c51:=by kernel_rfl
 c53:=by kernel_rfl
 c75:=by kernel_rfl
 c76:=by kernel_rfl
 c80:=by kernel_rfl
 c85:=by kernel_rfl
 c127:=by kernel_rfl
 c143:=by kernel_rfl
 c145:=by kernel_rfl
 c167:=by kernel_rfl
 c168:=by kernel_rfl
 c171:=by kernel_rfl
 c173:=by kernel_rfl
 c175:=by kernel_rfl
 c210:=by kernel_rfl
 c212:=by kernel_rfl
 c213:=by kernel_rfl
 c232:=by kernel_rfl
 c233:=by kernel_rfl }
open Go.RowKit in
theorem Tryz.strconv_Atoi_ok (s:ByteArray) (hmax:s.size≤9223372036854775806) (v:Int) (h:Lib.atoiAll s.data.toList=.ok v) (w:World) :
  Calls Tryz.prog 82 #[.string s] w λe w'=>e=.returned (.tuple #[.int .i64 v,.nilIface])∧(w'=w∨∃t,w'=Lib.bytesWorld w 5 t):=Any.strconv_Atoi_ok Tryz.laysC172 s hmax v h w
open Go.RowKit in
theorem Tryz.strconv_Atoi_syntax_var (s : ByteArray) (hlim : s.size ≤ 281474976710656) (h : Lib.atoiAll s.data.toList = Lib.NumEnd.syntax) (tp : TypeId) (p : Value) (w : World) (hvar : w.var? Tryz.prog "strconv.ErrSyntax" = some #[.iface tp p]) :
  Calls Tryz.prog 82 #[.string s] w λe w'=>∃N,e=.returned (.tuple #[.int .i64 0,.iface 184 (.pointer (some ⟨N,0,none⟩))])∧w.heap.size≤N∧w'.heap[N]?=some (.cells #[.string ⟨#[65,116,111,105]⟩,.string s,.iface tp p] 207 (0,0))∧Below w.heap.size w w':=Any.strconv_Atoi_syntax_var Tryz.laysC172 s hlim h tp p w hvar
open Go.RowKit in
theorem Tryz.strconv_Atoi_range_var (s : ByteArray) (hlim : s.size ≤ 281474976710656) (h : Lib.atoiAll s.data.toList = .range) (tp : TypeId) (p : Value) (w : World) (hvar : w.var? Tryz.prog "strconv.ErrRange" = some #[.iface tp p]) :
  Calls Tryz.prog 82 #[.string s] w λe w'=>∃N,e=.returned (.tuple #[.int .i64 (Lib.atoiSat s.data.toList),.iface 184 (.pointer (some ⟨N,0,none⟩))])∧w.heap.size≤N∧w'.heap[N]?=some (.cells #[.string ⟨#[65,116,111,105]⟩,.string s,.iface tp p] 207 (0,0))∧Below w.heap.size w w':=Any.strconv_Atoi_range_var Tryz.laysC172 s hlim h tp p w hvar
def Tryz.lays102_ren:Go.Shelf.Ren:=⟨fun|102=>87|209=>105|207=>122|n=>n,fun|9=>9|4=>4|3=>3|n=>n,fun|n=>n⟩
theorem Tryz.lays102:Go.Proofs.Lays.n102 Tryz.prog Tryz.lays102_ren:={
 mixed:=by kernel_rfl
 f102:=Tryz.func87.trans (congrArg some (by kernel_rfl))
 f207:=Tryz.func122.trans (congrArg some (by kernel_rfl))
 f209:=Tryz.func105.trans (congrArg some (by kernel_rfl))
 t3:=Tryz.underlying3
 a3:=Tryz.isAgg3
 z3:=Tryz.sizeOf3
 v3:=Tryz.zeroValue3
 t4:=Tryz.underlying4
 a4:=Tryz.isAgg4
 z4:=Tryz.sizeOf4
 v4:=Tryz.zeroValue4
 t9:=Tryz.underlying9
 a9:=Tryz.isAgg9
 z9:=Tryz.sizeOf9
 v9:=Tryz.zeroValue9 }
open Go.RowKit Go.Lib in
theorem Tryz.strings_TrimSuffix (s p:ByteArray) (w:World) (hs:s.size≤9223372036854775807) :
  Calls Tryz.prog 87 #[.string s,.string p] w λe w'=>e=.returned (.string ⟨(Lib.trimSuffix s.data.toList p.data.toList).toArray⟩)∧w'=w:=Any.strings_TrimSuffix Tryz.lays102 s p w hs
def Tryz.lays146_ren:Go.Shelf.Ren:=⟨fun|146=>86|221=>104|268=>119|138=>120|143=>121|195=>141|197=>142|218=>143|219=>144|260=>157|217=>158|225=>159|224=>160|267=>161|266=>165|314=>166|n=>n,fun|9=>9|31=>86|3=>3|4=>4|0=>0|105=>209|21=>21|5=>5|46=>175|119=>230|139=>233|138=>232|146=>234|51=>164|n=>n,fun|1=>3|3=>4|4=>5|n=>n⟩
theorem Tryz.lays146:Go.Proofs.Lays.n146 Tryz.prog Tryz.lays146_ren:={
 mixed:=by kernel_rfl
 f138:=Tryz.func120.trans (congrArg some (by kernel_rfl))
 f143:=Tryz.func121.trans (congrArg some (by kernel_rfl))
 f146:=Tryz.func86.trans (congrArg some (by kernel_rfl))
 f195:=Tryz.func141.trans (congrArg some (by kernel_rfl))
 f197:=Tryz.func142.trans (congrArg some (by kernel_rfl))
 f217:=Tryz.func158.trans (congrArg some (by kernel_rfl))
 f218:=Tryz.func143.trans (congrArg some (by kernel_rfl))
 f219:=Tryz.func144.trans (congrArg some (by kernel_rfl))
 f221:=Tryz.func104.trans (congrArg some (by kernel_rfl))
 f224:=Tryz.func160.trans (congrArg some (by kernel_rfl))
 f225:=Tryz.func159.trans (congrArg some (by kernel_rfl))
 f260:=Tryz.func157.trans (congrArg some (by kernel_rfl))
 f266:=Tryz.func165.trans (congrArg some (by kernel_rfl))
 f267:=Tryz.func161.trans (congrArg some (by kernel_rfl))
 f268:=Tryz.func119.trans (congrArg some (by kernel_rfl))
 f314:=Tryz.func166.trans (congrArg some (by kernel_rfl))
 t0:=Tryz.underlying0
 a0:=Tryz.isAgg0
 z0:=Tryz.sizeOf0
 v0:=Tryz.zeroValue0
 t3:=Tryz.underlying3
 a3:=Tryz.isAgg3
 z3:=Tryz.sizeOf3
 v3:=Tryz.zeroValue3
 t4:=Tryz.underlying4
 a4:=Tryz.isAgg4
 z4:=Tryz.sizeOf4
 v4:=Tryz.zeroValue4
 t5:=Tryz.underlying5
 a5:=Tryz.isAgg5
 z5:=Tryz.sizeOf5
 v5:=Tryz.zeroValue5
 t9:=Tryz.underlying9
 a9:=Tryz.isAgg9
 z9:=Tryz.sizeOf9
 v9:=Tryz.zeroValue9
 t21:=Tryz.underlying21
 a21:=Tryz.isAgg21
 z21:=Tryz.sizeOf21
 v21:=Tryz.zeroValue21
 t31:=Tryz.underlying86
 a31:=Tryz.isAgg86
 z31:=Tryz.sizeOf86
 v31:=Tryz.zeroValue86
 t46:=Tryz.underlying175
 a46:=Tryz.isAgg175
 z46:=Tryz.sizeOf175
 v46:=Tryz.zeroValue175
 t51:=Tryz.underlying164
 a51:=Tryz.isAgg164
 z51:=Tryz.sizeOf164
 v51:=Tryz.zeroValue164
 t105:=Tryz.underlying209
 a105:=Tryz.isAgg209
 z105:=Tryz.sizeOf209
 v105:=Tryz.zeroValue209
 t119:=Tryz.underlying230
 a119:=Tryz.isAgg230
 z119:=Tryz.sizeOf230
 t138:=Tryz.underlying232
 a138:=Tryz.isAgg232
 z138:=Tryz.sizeOf232
 v138:=Tryz.zeroValue232
 t139:=Tryz.underlying233
 a139:=Tryz.isAgg233
 z139:=Tryz.sizeOf233
 v139:=Tryz.zeroValue233
 t146:=Tryz.underlying234
 a146:=Tryz.isAgg234
 z146:=Tryz.sizeOf234
 v146:=Tryz.zeroValue234
 g1:=by kernel_rfl
 g3:=by kernel_rfl
 g4:=by kernel_rfl }
open Go.RowKit Go.Lib in
theorem Tryz.strings_Split (s sep:ByteArray) (m:Int) (w:World) (hs:s.size<4294967281) (hm:w.cell? ⟨3,0,none⟩=some (.int .i64 m)) (h1:1≤sep.size) :
  Calls Tryz.prog 86 #[.string s,.string sep] w λe w' =>
   e=.returned (.slice (some ⟨w.heap.size,0,none⟩) (Lib.countB s sep+1) (Lib.countB s sep+1))∧w'=w.alloc (.cells ((Lib.splitB sep 0 (Lib.countB s sep) s).map Value.string).toArray 9):=Any.strings_Split Tryz.lays146 (by kernel_rfl) s sep m w hs hm h1
def Tryz.lays107_ren:Go.Shelf.Ren:=⟨fun|107=>51|108=>84|n=>n,fun|28=>31|3=>3|4=>4|0=>0|n=>n,fun|n=>n⟩
theorem Tryz.lays107:Go.Proofs.Lays.n107 Tryz.prog Tryz.lays107_ren:={
 mixed:=by kernel_rfl
 f107:=Tryz.func51.trans (congrArg some (by kernel_rfl))
 f108:=Tryz.func84.trans (congrArg some (by kernel_rfl))
 t0:=Tryz.underlying0
 a0:=Tryz.isAgg0
 z0:=Tryz.sizeOf0
 v0:=Tryz.zeroValue0
 t3:=Tryz.underlying3
 a3:=Tryz.isAgg3
 z3:=Tryz.sizeOf3
 v3:=Tryz.zeroValue3
 t4:=Tryz.underlying4
 a4:=Tryz.isAgg4
 z4:=Tryz.sizeOf4
 v4:=Tryz.zeroValue4
 t28:=Tryz.underlying31
 a28:=Tryz.isAgg31
 z28:=Tryz.sizeOf31
 v28:=Tryz.zeroValue31 }
open Go.Lib in
theorem Tryz.slices_Contains_int (b off n c:Nat) (zs:List Int) (x:Int) (w:World) (hz:n≤zs.length) (hbig:n≤9223372036854775807) (hc:∀j,j<zs.length→w.cell? ⟨b,off+j,none⟩=some (.int .i64 (zs.getD j 0))) :
  Calls Tryz.prog 51 #[.slice (some ⟨b,off,none⟩) n c,.int .i64 x] w λe w'=>e=.returned (.bool ((zs.take n).contains x))∧w'=w:=Any.slices_Contains_int Tryz.lays107 b off n c zs x w hz hbig hc
open Go.Lib in
theorem Tryz.slices_Contains_int_empty (a:Option Addr) (c:Nat) (x:Int) (w:World) :
  Calls Tryz.prog 51 #[.slice a 0 c,.int .i64 x] w λe w'=>e=.returned (.bool false)∧w'=w:=Any.slices_Contains_int_empty Tryz.lays107 a c x w
def Tryz.lays110_ren:Go.Shelf.Ren:=⟨fun|110=>40|109=>78|n=>n,fun|31=>86|9=>9|4=>4|3=>3|0=>0|n=>n,fun|n=>n⟩
theorem Tryz.lays110:Go.Proofs.Lays.n110 Tryz.prog Tryz.lays110_ren:={
 mixed:=by kernel_rfl
 f109:=Tryz.func78.trans (congrArg some (by kernel_rfl))
 f110:=Tryz.func40.trans (congrArg some (by kernel_rfl))
 t0:=Tryz.underlying0
 a0:=Tryz.isAgg0
 z0:=Tryz.sizeOf0
 v0:=Tryz.zeroValue0
 t3:=Tryz.underlying3
 a3:=Tryz.isAgg3
 z3:=Tryz.sizeOf3
 v3:=Tryz.zeroValue3
 t4:=Tryz.underlying4
 a4:=Tryz.isAgg4
 z4:=Tryz.sizeOf4
 v4:=Tryz.zeroValue4
 t9:=Tryz.underlying9
 a9:=Tryz.isAgg9
 z9:=Tryz.sizeOf9
 v9:=Tryz.zeroValue9
 t31:=Tryz.underlying86
 a31:=Tryz.isAgg86
 z31:=Tryz.sizeOf86
 v31:=Tryz.zeroValue86 }
open Go.Lib in
theorem Tryz.slices_Contains_string (b off n c:Nat) (zs:List ByteArray) (x:ByteArray) (w:World) (hz:n≤zs.length) (hbig:n≤9223372036854775807) (hc:∀j,j<zs.length→w.cell? ⟨b,off+j,none⟩=some (.string (zs.getD j ByteArray.empty))) :
  Calls Tryz.prog 40 #[.slice (some ⟨b,off,none⟩) n c,.string x] w λe w'=>e=.returned (.bool (Lib.containsS (zs.take n) x))∧w'=w:=Any.slices_Contains_string Tryz.lays110 b off n c zs x w hz hbig hc
open Go.Lib in
theorem Tryz.slices_Contains_string_empty (a:Option Addr) (c:Nat) (x:ByteArray) (w:World) :
  Calls Tryz.prog 40 #[.slice a 0 c,.string x] w λe w'=>e=.returned (.bool false)∧w'=w:=Any.slices_Contains_string_empty Tryz.lays110 a c x w
def Tryz.laysNm215_ren:Go.Shelf.Ren:=⟨fun|15=>71|n=>n,fun|22=>31|3=>3|4=>4|n=>n,fun|n=>n⟩
theorem Tryz.laysNm215:Go.Proofs.Lays2.n15 Tryz.prog Tryz.laysNm215_ren:={
 mixed:=by kernel_rfl
 f15:=Tryz.func71.trans (congrArg some (by kernel_rfl))
 t3:=Tryz.underlying3
 a3:=Tryz.isAgg3
 z3:=Tryz.sizeOf3
 v3:=Tryz.zeroValue3
 t4:=Tryz.underlying4
 a4:=Tryz.isAgg4
 z4:=Tryz.sizeOf4
 v4:=Tryz.zeroValue4
 t22:=Tryz.underlying31
 a22:=Tryz.isAgg31
 z22:=Tryz.sizeOf31
 v22:=Tryz.zeroValue31
 i3:=by kernel_rfl }
open Go.RowKit Go.Lib in
theorem Tryz.slices_Clone_int (b off n c:Nat) (zs:List Int) (w:World) (hz:n≤zs.length) (hbig:n*8≤140737488355328) (hc:∀j,j<zs.length→w.cell? ⟨b,off+j,none⟩=some (.int .i64 (zs.getD j 0))) :
  Calls Tryz.prog 71 #[.slice (some ⟨b,off,none⟩) n c] w λe w'=>∃v',e=.returned v'∧w'.ownsRow w.heap.size 3 1 v' n ((zs.take n).map (Value.int .i64))∧v'≠.slice none 0 0∧Below w.heap.size w w':=Any.slices_Clone_int Tryz.laysNm215 b off n c zs w hz hbig hc
open Go.RowKit Go.Lib in
theorem Tryz.slices_Clone_int_nil (n c:Nat) (w:World) :
  Calls Tryz.prog 71 #[.slice none n c] w λe w'=>e=.returned (.slice none 0 0)∧w'=w:=Any.slices_Clone_int_nil Tryz.laysNm215 n c w
open Go.RowKit Go.Lib in
theorem Tryz.slices_Clone_int_zero (a:Addr) (c:Nat) (w:World) :
  Calls Tryz.prog 71 #[.slice (some a) 0 c] w λe w'=>∃v',e=.returned v'∧w'.ownsRow w.heap.size 3 1 v' 0 []∧v'≠.slice none 0 0∧Below w.heap.size w w':=Any.slices_Clone_int_zero Tryz.laysNm215 a c w
def Tryz.laysSlE041_f71_ren:Go.Shelf.Ren:=⟨fun|41=>71|n=>n,fun|22=>31|23=>3|4=>4|n=>n,fun|n=>n⟩
theorem Tryz.laysSlE041_f71:Go.Proofs.SlLaysE0.n41 Tryz.prog Tryz.laysSlE041_f71_ren:={
 mixed:=by kernel_rfl
 f41:=⟨Tryz.f71.name,by decide,Tryz.func71.trans (congrArg some (by kernel_rfl))⟩
 t4:=Tryz.underlying4
 a4:=Tryz.isAgg4
 z4:=Tryz.sizeOf4
 v4:=Tryz.zeroValue4
 t22:=Tryz.underlying31
 a22:=Tryz.isAgg31
 z22:=Tryz.sizeOf31
 v22:=Tryz.zeroValue31 }
open Go.RowKit Go.Lib in
theorem Tryz.slices_Clone (i0:TypeInfo) (z:Value) (size bytes:Nat) (hi:Tryz.prog.info? 3=some i0) (hz0:i0.zero=some z) (hz1:i0.size=size) (hz2:i0.bytes=bytes) (hzs:z.cells.size=size) (hsz:0<size) (z23:∀w,(Go.sizeOf 3).run Tryz.prog w=.ok size w) (b off n c:Nat) (news:List Value) (w:World) (hl:news.length=n*size) (hn:n≤maxLen) (hbig:n*bytes≤140737488355328) (hc:∀j u,news[j]?=some u→w.cell? ⟨b,off+j,none⟩=some u) (h1:∀u∈news,u.oneCell'=true) :
  Calls Tryz.prog 71 #[.slice (some ⟨b,off,none⟩) n c] w λe w'=>∃v',e=.returned v'∧w'.ownsRow w.heap.size 3 size v' n news∧v'≠.slice none 0 0∧Below w.heap.size w w':=AnyE.slices_Clone Tryz.laysSlE041_f71 i0 z size bytes hi hz0 hz1 hz2 hzs hsz z23 b off n c news w hl hn hbig hc h1
open Go.RowKit Go.Lib in
theorem Tryz.slices_Clone_nil (n c:Nat) (w:World) :
  Calls Tryz.prog 71 #[.slice none n c] w λe w'=>e=.returned (.slice none 0 0)∧w'=w:=AnyE.slices_Clone_nil Tryz.laysSlE041_f71 n c w
def Tryz.laysSlM6_f92_ren:Go.Shelf.Ren:=⟨fun|6=>92|8=>109|9=>108|19=>132|20=>133|21=>123|22=>124|23=>125|24=>126|25=>127|26=>128|27=>129|28=>130|29=>131|36=>145|31=>146|32=>147|37=>148|38=>149|39=>150|41=>162|n=>n,fun|27=>86|29=>9|3=>3|32=>175|26=>86|0=>0|44=>164|46=>198|4=>4|36=>191|35=>190|41=>91|5=>5|9=>9|53=>212|57=>216|63=>228|64=>121|n=>n,fun|n=>n⟩
theorem Tryz.laysSlM6_f92:Go.Proofs.SlLaysM.n6 Tryz.prog Tryz.laysSlM6_f92_ren:={
 mixed:=by kernel_rfl
 f6:=⟨Tryz.f92.name,by decide,Tryz.func92.trans (congrArg some (by kernel_rfl))⟩
 f8:=Tryz.func109.trans (congrArg some (by kernel_rfl))
 f9:=⟨Tryz.f108.name,by decide,Tryz.func108.trans (congrArg some (by kernel_rfl))⟩
 f19:=Tryz.func132.trans (congrArg some (by kernel_rfl))
 f20:=Tryz.func133.trans (congrArg some (by kernel_rfl))
 f21:=⟨Tryz.f123.name,by decide,Tryz.func123.trans (congrArg some (by kernel_rfl))⟩
 f22:=⟨Tryz.f124.name,by decide,Tryz.func124.trans (congrArg some (by kernel_rfl))⟩
 f23:=⟨Tryz.f125.name,by decide,Tryz.func125.trans (congrArg some (by kernel_rfl))⟩
 f24:=⟨Tryz.f126.name,by decide,Tryz.func126.trans (congrArg some (by kernel_rfl))⟩
 f25:=⟨Tryz.f127.name,by decide,Tryz.func127.trans (congrArg some (by kernel_rfl))⟩
 f26:=⟨Tryz.f128.name,by decide,Tryz.func128.trans (congrArg some (by kernel_rfl))⟩
 f27:=⟨Tryz.f129.name,by decide,Tryz.func129.trans (congrArg some (by kernel_rfl))⟩
 f28:=⟨Tryz.f130.name,by decide,Tryz.func130.trans (congrArg some (by kernel_rfl))⟩
 f29:=⟨Tryz.f131.name,by decide,Tryz.func131.trans (congrArg some (by kernel_rfl))⟩
 f31:=Tryz.func146.trans (congrArg some (by kernel_rfl))
 f32:=Tryz.func147.trans (congrArg some (by kernel_rfl))
 f36:=⟨Tryz.f145.name,by decide,Tryz.func145.trans (congrArg some (by kernel_rfl))⟩
 f37:=⟨Tryz.f148.name,by decide,Tryz.func148.trans (congrArg some (by kernel_rfl))⟩
 f38:=⟨Tryz.f149.name,by decide,Tryz.func149.trans (congrArg some (by kernel_rfl))⟩
 f39:=⟨Tryz.f150.name,by decide,Tryz.func150.trans (congrArg some (by kernel_rfl))⟩
 f41:=⟨Tryz.f162.name,by decide,Tryz.func162.trans (congrArg some (by kernel_rfl))⟩
 t0:=Tryz.underlying0
 a0:=Tryz.isAgg0
 z0:=Tryz.sizeOf0
 v0:=Tryz.zeroValue0
 t3:=Tryz.underlying3
 a3:=Tryz.isAgg3
 z3:=Tryz.sizeOf3
 v3:=Tryz.zeroValue3
 t4:=Tryz.underlying4
 a4:=Tryz.isAgg4
 z4:=Tryz.sizeOf4
 v4:=Tryz.zeroValue4
 t5:=Tryz.underlying5
 a5:=Tryz.isAgg5
 z5:=Tryz.sizeOf5
 v5:=Tryz.zeroValue5
 t9:=Tryz.underlying9
 a9:=Tryz.isAgg9
 z9:=Tryz.sizeOf9
 v9:=Tryz.zeroValue9
 t26:=Tryz.underlying86
 a26:=Tryz.isAgg86
 z26:=Tryz.sizeOf86
 v26:=Tryz.zeroValue86
 t27:=Tryz.underlying86
 a27:=Tryz.isAgg86
 z27:=Tryz.sizeOf86
 v27:=Tryz.zeroValue86
 t29:=Tryz.underlying9
 a29:=Tryz.isAgg9
 z29:=Tryz.sizeOf9
 v29:=Tryz.zeroValue9
 t32:=Tryz.underlying175
 a32:=Tryz.isAgg175
 z32:=Tryz.sizeOf175
 v32:=Tryz.zeroValue175
 t35:=Tryz.underlying190
 a35:=Tryz.isAgg190
 z35:=Tryz.sizeOf190
 v35:=Tryz.zeroValue190
 t36:=Tryz.underlying191
 a36:=Tryz.isAgg191
 z36:=Tryz.sizeOf191
 v36:=Tryz.zeroValue191
 t41:=Tryz.underlying91
 a41:=Tryz.isAgg91
 z41:=Tryz.sizeOf91
 v41:=Tryz.zeroValue91
 t44:=Tryz.underlying164
 a44:=Tryz.isAgg164
 z44:=Tryz.sizeOf164
 v44:=Tryz.zeroValue164
 t46:=Tryz.underlying198
 a46:=Tryz.isAgg198
 z46:=Tryz.sizeOf198
 v46:=Tryz.zeroValue198
 t53:=Tryz.underlying212
 a53:=Tryz.isAgg212
 z53:=Tryz.sizeOf212
 v53:=Tryz.zeroValue212
 t57:=Tryz.underlying216
 a57:=Tryz.isAgg216
 z57:=Tryz.sizeOf216
 v57:=Tryz.zeroValue216
 t63:=Tryz.underlying228
 a63:=Tryz.isAgg228
 z63:=Tryz.sizeOf228
 v63:=Tryz.zeroValue228
 t64:=Tryz.underlying121
 a64:=Tryz.isAgg121
 z64:=Tryz.sizeOf121
 v64:=Tryz.zeroValue121 }
open Go.Sort Go.RowKit in
theorem Tryz.slices_Sort_string (blk off cap:Nat) (ss:List (List UInt8)) (w:World) (hH:Holds encStr w blk off ss.toArray) (hblk:blk<w.heap.size) (hsz:ss.length<4611686018427387904) :
  Calls Tryz.prog 92 #[.slice (some ⟨blk,off,none⟩) ss.length cap] w λe w' =>
   e=.returned (.tuple #[])∧∃n os,w'=grow (putRow encStr (Sort.ahead w n) blk off (ss.mergeSort λx y=>decide (x≤y)).toArray) os:=AnyM.slices_Sort_string Tryz.laysSlM6_f92 blk off cap ss w hH hblk hsz
open Go.RowKit Go.Sort in
theorem Tryz.slices_Sort_string_none (p:Option Addr) (cap:Nat) (w:World) :
  Calls Tryz.prog 92 #[.slice p 0 cap] w λe w'=>e=.returned (.tuple #[])∧w'=w:=AnyM.slices_Sort_string_none Tryz.laysSlM6_f92 p cap w
end Go.Proofs
namespace Go.Proofs.YtmlekglfdiacpaaGreatDoor
set_option linter.unusedSimpArgs false
set_option linter.unusedVariables false
open Go Go.RowKit
open Go.Maps Go.WideMaps
def GK:Go.Shelf.Ren:=⟨fun|41=>60|n=>n,fun|22=>38|23=>5|4=>4|n=>n,fun|n=>n⟩
theorem BZ:Go.Proofs.SlLaysE0.n41 Tryz.prog GK:={
 mixed:=by kernel_rfl
 f41:=⟨Tryz.f60.name,by decide,Tryz.func60.trans (congrArg some (by kernel_rfl))⟩
 t4:=Tryz.underlying4
 a4:=Tryz.isAgg4
 z4:=Tryz.sizeOf4
 v4:=Tryz.zeroValue4
 t22:=Tryz.underlying38
 a22:=Tryz.isAgg38
 z22:=Tryz.sizeOf38
 v22:=Tryz.zeroValue38 }
def F0:Go.Shelf.Ren:=⟨fun|5=>70|7=>90|n=>n,fun|4=>4|20=>20|23=>66|25=>9|3=>3|n=>n,fun|n=>n⟩
theorem Fp:Go.Proofs.SlLaysW.n5 Tryz.prog F0:={
 mixed:=by kernel_rfl
 f5:=⟨Tryz.f70.name,by decide,Tryz.func70.trans (congrArg some (by kernel_rfl))⟩
 f7:=Tryz.func90.trans (congrArg some (by kernel_rfl))
 t4:=Tryz.underlying4
 a4:=Tryz.isAgg4
 z4:=Tryz.sizeOf4
 v4:=Tryz.zeroValue4
 t20:=Tryz.underlying20
 a20:=Tryz.isAgg20
 z20:=Tryz.sizeOf20
 v20:=Tryz.zeroValue20
 t23:=Tryz.underlying66
 a23:=Tryz.isAgg66
 z23:=Tryz.sizeOf66
 v23:=Tryz.zeroValue66 }
theorem EC:(Tryz.prog.info? 5).map (λi=>(i.zero,i.size,i.bytes))=some (some (.int .u8 0),1,1):=by kernel_rfl
def Au (w:World) (base:Nat) (v:Value) (l:List UInt8):Prop:=w.ownsRow base 5 1 v l.length (AR l)
theorem BK (l:List UInt8):∀u∈AR l,u.oneCell'=true:=λu hu=>by
 unfold AR at hu;obtain⟨c,_,rfl⟩:=List.mem_map.1 hu;rfl
theorem BL (l:List UInt8):(AR l).length=l.length:=by simp[AR]
theorem Ja (base:Nat) (v:Value) (l:List UInt8) (w:World) (h:Au w base v l) (hl:l.length≤1000000000) :
  Calls Tryz.prog 60 #[v] w λe w'=>∃v',e=.returned v'∧Au w' w.heap.size v' l∧Below w.heap.size w w':=by
 obtain⟨E,D,B,A,C⟩:=info_parts EC;rcases h.2 with⟨h1,h2⟩|⟨g,cap,cur,h1,hg,hc,hcap,hmax,hsz,htk⟩
 ·rw[h1];refine (AnyE.slices_Clone_nil BZ 0 0 w).mono ?_;rintro e w' ⟨rfl,rfl⟩;have o:l=[]:=List.length_eq_zero_iff.1 h2;subst o;exact⟨_,rfl,World.ownsRow_nil _ _ _ _,Below.refl _ _⟩
 ·rw[h1];refine (AnyE.slices_Clone BZ E (.int .u8 0) 1 1 D B A C rfl (by decide) (λw=>Tryz.sizeOf5 w) g 0 l.length cap (AR l) w (by rw[BL];omega) (by unfold maxLen;omega) (by omega) ?_ (BK l)).mono ?_
  ·intro j u hj;rw[Nat.zero_add];have:=World.ownsRow.cells h (by rw[h1];rfl) j u hj;rw[addr_add]at this;exact this
  ·rintro e w' ⟨v',rfl,h3,_,h4⟩;exact⟨v',rfl,h3,h4⟩
theorem GB (b:Nat) (l:Fs.Names) (w:World) (h:Ah w b l) :
  Calls Tryz.prog 70 #[.map (some b)] w λe w'=>e=.returned (.map (some w.heap.size))∧Ah w' w.heap.size l∧Below w.heap.size w w':=by
 refine (AnyW.maps_Clone_owns Fp 9 (plainElem Tryz.prog 3) b l.length (Fs.datum l) w h).mono ?_;rintro e w' ⟨rfl,h1,_,h2⟩;exact⟨rfl,h1,h2⟩
open Go.Maps Go.WideMaps
namespace Fs
def new (room:Int):St:=⟨0,-1,[],room,[],[],[],[]⟩
def flush (l:List (List UInt8×Nat)) (i:Nat):List (List UInt8×Nat):=match l[i]? with|some f=>l.set i (f.1,f.1.length)|none=>l
def sync (st:St) (n:List UInt8):St×Int :=
 if openE st n≠0 then (st,openE st n)
 else if (step st).2.2≠0 then ((step st).1,(step st).2.2)
 else ({ (step st).1 with files:=flush st.files (idx st n) },0)
def syncDir (st:St):St×Int :=
 if (step st).2.2≠0 then ((step st).1,(step st).2.2) else ({ (step st).1 with sure:=st.dir,changes:=[] },0)
theorem step_files (st:St):(step st).1.files=st.files:=by unfold step;split<;>rfl
theorem step_dir (st:St):(step st).1.dir=st.dir:=by unfold step;split<;>rfl
theorem step_room (st:St):(step st).1.room=st.room:=by unfold step;split<;>rfl
end Fs
def Bj (n:Nat):Nat→Tag:=λk=>if k=n then .dir else if k=n+1 then .sure else if k=n+2 then .root else .other
structure Ad (base B:Nat) (st:Fs.St) (V:FsV) (own:Nat→Tag) (w:World):Prop where
 at_:Bp base B st V own w
 fresh:∀k,w.heap.size≤k→own k=.other
 old:∀k,k<base→own k=.other
theorem AH (w:World) (o:Obj):(w.alloc o).heap[w.heap.size]?=some o:=by
 show (w.heap.push _)[w.heap.size]?=_;simp
theorem Il (room:Int) (w:World):Ad w.heap.size (w.heap.size+2) (Fs.new room) ⟨.slice none 0 0,.slice none 0 0,.slice none 0 0,w.heap.size,w.heap.size+1,[],[]⟩ (Bj w.heap.size)
  (((w.alloc (.map #[] 0)).alloc (.map #[] 0)).alloc (.cells #[.int .i64 0,.int .i64 (-1),.slice none 0 0,.int .i64 room,.slice none 0 0,.map (some w.heap.size),.map (some (w.heap.size+1)),.slice none 0 0] 70)):=by
 have C:(w.alloc (.map #[] 0)).heap.size=w.heap.size+1:=by simp
 have A:((w.alloc (.map #[] 0)).alloc (.map #[] 0)).heap.size=w.heap.size+2:=by simp
 have o:Ah (((w.alloc (.map #[] 0)).alloc (.map #[] 0)).alloc (.cells #[.int .i64 0,.int .i64 (-1),.slice none 0 0,.int .i64 room,.slice none 0 0,.map (some w.heap.size),.map (some (w.heap.size+1)),.slice none 0 0] 70)) w.heap.size [] :=
  ((World.ownsMap_made w _ _ _).alloc _).alloc _
 have B:Ah (((w.alloc (.map #[] 0)).alloc (.map #[] 0)).alloc (.cells #[.int .i64 0,.int .i64 (-1),.slice none 0 0,.int .i64 room,.slice none 0 0,.map (some w.heap.size),.map (some (w.heap.size+1)),.slice none 0 0] 70)) (w.heap.size+1) []:=by
  have:=(World.ownsMap_made (w.alloc (.map #[] 0)) Tryz.prog 9 (plainElem (H:=Unit) Tryz.prog 3)).alloc (.cells #[.int .i64 0,.int .i64 (-1),.slice none 0 0,.int .i64 room,.slice none 0 0,.map (some w.heap.size),.map (some (w.heap.size+1)),.slice none 0 0] 70);rw[C]at this;exact this
 refine⟨⟨?_,by simp[Bj],by omega,⟨by simp[Fs.new],by simp[Fs.new]⟩,⟨none,0,rfl,QM _,λi z h=>by simp[Fs.new]at h⟩,World.ownsRow_nil _ _ _ _,λk h=>by simp[Value.ownBlock]at h,rfl,rfl,λi f b d h=>by simp[Fs.new]at h,
  o,by simp[Bj],B,by simp[Bj],⟨[],World.ownsRow_nil _ _ _ _,λk h=>by simp[Value.ownBlock]at h,λi x y h=>by simp at h⟩,λp h=>by simp[Fs.new]at h,⟨by simp,by simp⟩⟩,λk hk=>?_,λk hk=>?_⟩
 ·have:=AH ((w.alloc (.map #[] 0)).alloc (.map #[] 0)) (.cells #[.int .i64 0,.int .i64 (-1),.slice none 0 0,.int .i64 room,.slice none 0 0,.map (some w.heap.size),.map (some (w.heap.size+1)),.slice none 0 0] 70);rw[A]at this;exact this
 ·simp at hk;unfold Bj;rw[if_neg (by omega),if_neg (by omega),if_neg (by omega)]
 ·unfold Bj;rw[if_neg (by omega),if_neg (by omega),if_neg (by omega)]
theorem FB (room:Int) (w:World) :
  Calls Tryz.prog 5 #[.int .i64 room] w λe w'=>Below w.heap.size w w' ∧
   (
    ((room<1∨1048576<room)∧e=.returned (.tuple #[.pointer none,.int .i64 1])) ∨
    (
     ¬(room<1∨1048576<room)∧e=.returned (.tuple #[.pointer (some ⟨w.heap.size+2,0,none⟩),.int .i64 0]) ∧
     ∃V,Ad w.heap.size (w.heap.size+2) (Fs.new room) V (Bj w.heap.size) w')):=by
 have o:=@run_makeMap Tryz.prog;by_cases hr:room<1∨1048576<room
 ·rcases hr with h|h
  ·go_enter Tryz.func5,Tryz.ntmps5;go_wp2;refine bodyPost_ret (v:=.tuple #[.pointer none,.int .i64 1]) (by simp[results,Tryz.results5,go_sem]) rfl ?_;exact⟨Below.refl _ _,.inl ⟨.inl h,rfl⟩⟩
  ·have A:1≤room:=by omega
   go_enter Tryz.func5,Tryz.ntmps5;go_wp2;refine bodyPost_ret (v:=.tuple #[.pointer none,.int .i64 1]) (by simp[results,Tryz.results5,go_sem]) rfl ?_;exact⟨Below.refl _ _,.inl ⟨.inr h,rfl⟩⟩
 ·have A:1≤room:=by omega
  have B:room≤1048576:=by omega
  go_enter Tryz.func5,Tryz.ntmps5;go_wp2;refine bodyPost_ret (v:=.tuple #[.pointer (some ⟨w.heap.size+2,0,none⟩),.int .i64 0]) (by simp[results,Tryz.results5,go_sem]) rfl ?_;exact⟨((((Below.refl _ _).alloc (QM _) _).alloc (by simp) _).alloc (by simp;omega) _),.inr ⟨hr,rfl,_,Il room w⟩⟩
theorem Bp.file1 {base B:Nat} {st:Fs.St} {V:FsV} {own:Nat→Tag} {w w':World} (h:Bp base B st V own w) {i b:Nat} {f f':List UInt8×Nat} {d d':Value} (hf:st.files[i]?=some f) (hb:V.fb[i]?=some b)
  (hd:V.dv[i]?=some d) (hk:Kept own (λt=>t=.file i∨t=.data i) w w') (hF:CC w' base own i f' b d') :
  Bp base B { st with files:=st.files.set i f' } { V with dv:=V.dv.set i d' } own w' where
 root:=by rw[hk.block B (AE h.root) (by rw[h.tB];simp)];exact h.root
 tB:=h.tB
 lo:=h.lo
 left:=h.left
 plan:=h.plan.kept hk (by simp)
 files:=by
  rw[List.length_set];exact AQ h.files (λg hg=>hk.block g (AJ h.files g hg).2 (by rw[h.tfiles g hg];simp))
 tfiles:=h.tfiles
 nfb:=by rw[List.length_set];exact h.nfb
 ndv:=by rw[List.length_set,List.length_set];exact h.ndv
 file:=λj g c x h1 h2 h3=>by
  by_cases hij:i=j
  ·subst hij;have o:i<st.files.length:=(List.getElem?_eq_some_iff.1 hf).1;have A:i<V.dv.length:=(List.getElem?_eq_some_iff.1 hd).1;simp only[List.getElem?_set_self o,List.getElem?_set_self A,Option.some.injEq]at h1 h3;subst h1 h3;rw[hb]at h2;simp only[Option.some.injEq]at h2;subst h2;exact hF
  ·simp only[List.getElem?_set_ne hij]at h1 h3;exact (h.file j g c x h1 h2 h3).kept hk (by simp;omega) (by simp;omega)
 dir:=h.dir.heap (hk.block _ h.dir.lt (by rw[h.tdir];simp))
 tdir:=h.tdir
 sure:=h.sure.heap (hk.block _ h.sure.lt (by rw[h.tsure];simp))
 tsure:=h.tsure
 chg:=h.chg.kept hk (by simp) (by simp)
 known:=λp hp=>by rw[List.length_set];exact h.known p hp
 bl:=h.bl
def AV (base B:Nat) (st':Fs.St) (own:Nat→Tag) (w w':World):Prop :=
 ∃V' own',Ad base B st' V' own' w'∧(∀k,k<w.heap.size→own' k=own k)∧Kept own (·≠.other) w w'
theorem Ad.kept {base B:Nat} {st:Fs.St} {V:FsV} {own:Nat→Tag} {w w':World} (h:Ad base B st V own w) (hk:Kept own (·=.other) w w'):Ad base B st V own w' :=
 ⟨h.at_.kept hk,λk hk2=>h.fresh k (QQ hk.size hk2),h.old⟩
theorem AL {own:Nat→Tag} {T:Tag→Prop} {w w':World} (hb:Below w.heap.size w w'):Kept own T w w':=(Kept.refl own T w).below hb
theorem FO (base B:Nat) (st:Fs.St) (V:FsV) (own:Nat→Tag) (s:ByteArray) (w:World) (h:Ad base B st V own w) (hs:s.size≤1000000) :
  Calls Tryz.prog 24 #[.pointer (some ⟨B,0,none⟩),.string s] w λe w'=>e=.returned (.int .i64 (Fs.sync st s.data.toList).2)∧AV base B (Fs.sync st s.data.toList).1 own w w':=by
 have H:=QA h;clear h;go_enter Tryz.func24,Tryz.ntmps24;go_wp2_with fail;refine (Cz base B st V own s w H.out.at_ hs).mono ?_;rintro e w1 ⟨hb1,hres⟩;have I:=QA (H.out.kept (AL hb1));rcases hres with⟨h0,f,b,d,hf,hb,hd,rfl⟩|⟨h0,rfl⟩
 ·go_wp2_with fail;refine (Ba base B st V own w1 I.out.at_).mono ?_;rintro e w2 ⟨pv,rfl,h2,hk2⟩;have A:Kept own (·≠.other) w w2:=(AL hb1).trans (hk2.mono (λt ht=>by rw[ht];simp));have C:∀k,w2.heap.size≤k→own k=.other:=λk hk=>I.out.fresh k (QQ hk2.size hk)
  by_cases hc:(Fs.step st).2.2=0
  ·have F:Hid (Fs.sync st s.data.toList=({ (Fs.step st).1 with files:=Fs.flush st.files (Fs.idx st s.data.toList) },0)):=by
    unfold Fs.sync;rw[if_neg (by simp[h0]),if_neg (by simp[hc])];exact QA rfl
   have G:((Fs.step st).2.2==0)=true:=by rw[hc];rfl
   have o:=QA (h2.file (Fs.idx st s.data.toList) f b d (by rw[Fs.step_files];exact hf) hb hd);have N:w2.cell? ⟨b,0,none⟩=some d:=AA o.out.blk 0 _ rfl;have R:=AC o.out.blk 1;obtain⟨P,Q,K⟩:∃a c,d=.slice a f.1.length c:=by
    rcases o.out.row.2 with⟨e1,e2⟩|⟨g,cap,cur,e1,_⟩
    ·exact⟨none,0,by rw[e1,e2]⟩
    ·exact⟨_,_,e1⟩
   rw[K]at N;have O:w2.cell? ⟨b,1,none⟩=some (.int .i64 f.2):=AA o.out.blk 1 _ rfl;have M:=QA hc;have L:Hid (Fs.flush st.files (Fs.idx st s.data.toList)=(Fs.step st).1.files.set (Fs.idx st s.data.toList) (f.1,f.1.length)):=by
    unfold Fs.flush;rw[hf,Fs.step_files];exact QA rfl
   have D:∀v,Kept own (λt=>t=.file (Fs.idx st s.data.toList)∨t=.data (Fs.idx st s.data.toList)) w2 (w2.setCell ⟨b,1,none⟩ v):=λv=>(Kept.refl _ _ _).setCell ⟨b,1,none⟩ (.inl o.out.tag) v
   have E:=QA (h2.file1 (f':=(f.1,f.1.length)) (d':=d) (by rw[Fs.step_files];exact hf) hb hd (D (.int .i64 (f.1.length:Nat)))
    ⟨heap_set o.out.blk _,o.out.tag,AQ o.out.row (λg hg=>Below.heap_setCell _ _ _ _ (λe=>by
     have J:=o.out.tagD g hg;rw[e]at J;rw[o.out.tag]at J;cases J)),o.out.tagD⟩)
   clear hc;go_wp2;go_ret;rw[F.out,L.out];exact⟨congrArg (λx=>Ending.returned (.int .i64 x)) M.out,_,own,⟨E.out,λk hk=>C k (QQ (D (.int .i64 (f.1.length:Nat))).size hk),I.out.old⟩,λ_ _=>rfl,A.trans ((D _).mono (λt ht=>by rcases ht with rfl|rfl<;>simp))⟩
  ·have F:Hid (Fs.sync st s.data.toList=((Fs.step st).1,(Fs.step st).2.2)):=by
    unfold Fs.sync;rw[if_neg (by simp[h0]),if_pos hc];exact QA rfl
   have G:((Fs.step st).2.2==0)=false:=by rw[beq_eq_false_iff_ne];exact hc
   go_wp2;go_ret;rw[F.out];exact⟨rfl,_,own,⟨h2,C,I.out.old⟩,λ_ _=>rfl,A⟩
 ·have F:Hid (Fs.sync st s.data.toList=(st,Fs.openE st s.data.toList)):=by unfold Fs.sync;rw[if_pos h0];exact QA rfl
  have G:(Fs.openE st s.data.toList != 0)=true:=by rw[bne_iff_ne];exact h0
  go_wp2;go_ret;rw[F.out];exact⟨rfl,V,own,I.out,λ_ _=>rfl,AL hb1⟩
open Go.Maps Go.WideMaps
def Br (own:Nat→Tag) (n:Nat) (t:Tag):Nat→Tag:=λk=>if k=n then t else own k
theorem Aj {own:Nat→Tag} {n:Nat} {t:Tag} {k:Nat} (h:k<n):Br own n t k=own k:=if_neg (by omega)
theorem BM {own:Nat→Tag} {n:Nat} {t:Tag}:Br own n t n=t:=if_pos rfl
theorem Bp.synced {base B:Nat} {st:Fs.St} {V:FsV} {own:Nat→Tag} {w w3:World} (h:Bp base B st V own w) (hb:Below w.heap.size w w3) (hm:Ah w3 w.heap.size st.dir) (hbase:base≤w.heap.size) :
  Bp base B { st with sure:=st.dir,changes:=[] } { V with ms:=w.heap.size,cv:=.slice none 0 0 } (Br own w.heap.size .sure)
   ((w3.setCell ⟨B,6,none⟩ (.map (some w.heap.size))).setCell ⟨B,7,none⟩ (.slice none 0 0)):=by
 have A:∀k,k<w.heap.size→Br own w.heap.size .sure k=own k:=λk o=>Aj o
 have F:=AE h.root;have o:Kept own (·=.root) w ((w3.setCell ⟨B,6,none⟩ (.map (some w.heap.size))).setCell ⟨B,7,none⟩ (.slice none 0 0)) :=
  ((AL hb).setCell ⟨B,6,none⟩ h.tB _).setCell ⟨B,7,none⟩ h.tB _
 have D:=o.tags A;have E:w3.heap[B]?=some (.cells (Am st V) 70 (0,0)):=by rw[hb.block B F];exact h.root
 refine⟨heap_set (heap_set E _) _,(A B F).trans h.tB,h.lo,h.left,(h.plan.tags (λk o _=>A k o)).kept D (by simp),AQ h.files (λg hg=>o.block g (AJ h.files g hg).2 (by rw[h.tfiles g hg];simp)),λk hk3=>(A k (AJ h.files k hk3).2).trans (h.tfiles k hk3),h.nfb,h.ndv,
  λi f b d h1 h2 h3=>((h.file i f b d h1 h2 h3).tags (λk o _=>A k o)).kept D (by simp) (by simp),h.dir.heap (o.block _ h.dir.lt (by rw[h.tdir];simp)),(A _ h.dir.lt).trans h.tdir,?_,BM,?_,h.known,⟨h.bl.1,hbase⟩⟩
 ·refine hm.heap ?_;have C:w.heap.size≠B:=by omega
  rw[Below.heap_setCell _ _ _ _ C,Below.heap_setCell _ _ _ _ C]
 ·exact⟨[],World.ownsRow_nil _ _ _ _,λk h=>by simp[Value.ownBlock]at h,λi x y h=>by simp at h⟩
theorem CL (base B:Nat) (st:Fs.St) (V:FsV) (own:Nat→Tag) (w:World) (h:Ad base B st V own w) :
  Calls Tryz.prog 26 #[.pointer (some ⟨B,0,none⟩)] w λe w'=>e=.returned (.int .i64 (Fs.syncDir st).2)∧AV base B (Fs.syncDir st).1 own w w':=by
 have H:=QA h;clear h;go_enter Tryz.func26,Tryz.ntmps26;go_wp2_with fail;refine (Ba base B st V own w H.out.at_).mono ?_;rintro e w2 ⟨pv,rfl,h2,hk2⟩;have A:Kept own (·≠.other) w w2:=hk2.mono (λt ht=>by rw[ht];simp);have C:∀k,w2.heap.size≤k→own k=.other:=λk hk=>H.out.fresh k (QQ hk2.size hk)
 by_cases hc:(Fs.step st).2.2=0
 ·have K:Hid (Fs.syncDir st=({ (Fs.step st).1 with sure:=st.dir,changes:=[] },0)):=by unfold Fs.syncDir;rw[if_neg (by simp[hc])];exact QA rfl
  have J:((Fs.step st).2.2==0)=true:=by rw[hc];rfl
  have P:=QA hc;have D:=h2.dir;have F:(Fs.step st).1.dir=st.dir:=Fs.step_dir st;have E:=AE h2.root;have O:=h2.lo;have S:w2.cell? ⟨B,5,none⟩=some (.map (some V.md)):=AA h2.root 5 _ rfl;have R:=QA D;have L:=QA F;have I:=QA h2;clear hc D F h2;go_wp2_with fail;refine (GB V.md _ w2 R.out).mono ?_;rintro e w3 ⟨rfl,hm3,hb3⟩;have G:w3.heap[B]?=w2.heap[B]?:=hb3.block B E;have o:=G.trans I.out.root;have U:w3.cell? ⟨B,6,none⟩=some (.map (some V.ms)):=AA o 6 _ rfl;have X:w3.cell? ⟨B,7,none⟩=some V.cv:=AA o 7 _ rfl;have T:=AC o 6;have W:=AC o 7;have N:=QA (I.out.synced hb3 hm3 (by omega));have M:Kept own (·≠.other) w2 ((w3.setCell ⟨B,6,none⟩ (.map (some w2.heap.size))).setCell ⟨B,7,none⟩ (.slice none 0 0)) :=
   ((AL hb3).setCell ⟨B,6,none⟩ (by rw[I.out.tB];simp) _).setCell ⟨B,7,none⟩ (by rw[I.out.tB];simp) _
  have Q:w2.heap.size<w3.heap.size:=hm3.lt;clear G o hm3;go_wp2;go_ret;rw[K.out,← L.out];refine⟨congrArg (λx=>Ending.returned (.int .i64 x)) P.out,_,_,⟨N.out,λk hk=>?_,λk hk=>?_⟩,λk hk=>Aj (Nat.lt_of_lt_of_le hk A.size),A.trans M⟩
  ·simp[World.setCell]at hk;unfold Br;rw[if_neg (by omega)];exact C k (by omega)
  ·rw[Aj (by omega)];exact H.out.old k hk
 ·have K:Hid (Fs.syncDir st=((Fs.step st).1,(Fs.step st).2.2)):=by unfold Fs.syncDir;rw[if_pos hc];exact QA rfl
  have J:((Fs.step st).2.2==0)=false:=by rw[beq_eq_false_iff_ne];exact hc
  go_wp2;go_ret;rw[K.out];exact⟨rfl,_,own,⟨h2,C,H.out.old⟩,λ_ _=>rfl,A⟩
def IC (st:Fs.St) (n:List UInt8) (w:World) (e:Ending) (w':World):Prop :=
 Below w.heap.size w w' ∧
 (
  (Fs.openE st n=0∧∃f v,st.files[Fs.idx st n]?=some f∧e=.returned (.tuple #[v,.int .i64 0])∧Au w' w.heap.size v f.1) ∨
  (Fs.openE st n≠0∧e=.returned (.tuple #[.slice none 0 0,.int .i64 (Fs.openE st n)])))
theorem Au.mono {w:World} {base base':Nat} {v:Value} {l:List UInt8} (h:Au w base v l) (hb:base'≤base):Au w base' v l:=by
 refine⟨h.1,?_⟩;rcases h.2 with h2|⟨g,cap,cur,hv,hg,r⟩
 ·exact .inl h2
 ·exact .inr ⟨g,cap,cur,hv,QQ hb hg,r⟩
theorem D4 (base B:Nat) (st:Fs.St) (V:FsV) (own:Nat→Tag) (s:ByteArray) (w:World) (h:Ad base B st V own w) (hs:s.size≤1000000) (hlen:∀f∈st.files,f.1.length≤1000000000) :
  Calls Tryz.prog 19 #[.pointer (some ⟨B,0,none⟩),.string s] w (IC st s.data.toList w):=by
 have H:=QA h;clear h;go_enter Tryz.func19,Tryz.ntmps19;go_wp2_with fail;refine (Cz base B st V own s w H.out.at_ hs).mono ?_;rintro e w1 ⟨hb1,hres⟩;have D:=QA (H.out.kept (AL hb1));rcases hres with⟨h0,f,b,d,hf,hb,hd,rfl⟩|⟨h0,rfl⟩
 ·have A:=QA (D.out.at_.file (Fs.idx st s.data.toList) f b d hf hb hd);have E:w1.cell? ⟨b,0,none⟩=some d:=AA A.out.blk 0 _ rfl;have o:=hlen f (QZ hf);go_wp2_with fail;refine (Ja base d f.1 w1 A.out.row o).mono ?_;rintro e w2 ⟨v',rfl,ho,hb2⟩;go_wp2;refine bodyPost_ret (v:=.tuple #[v',.int .i64 0]) (by simp[results,Tryz.results19,go_sem]) rfl ?_;exact⟨hb1.trans (hb2.mono hb1.size),.inl ⟨h0,f,v',hf,rfl,ho.mono hb1.size⟩⟩
 ·have C:(Fs.openE st s.data.toList != 0)=true:=by rw[bne_iff_ne];exact h0
  go_wp2;refine bodyPost_ret (v:=.tuple #[.slice none 0 0,.int .i64 (Fs.openE st s.data.toList)]) (by simp[results,Tryz.results19,go_sem]) rfl ?_;exact⟨hb1,.inr ⟨h0,rfl⟩⟩
open Go.Maps Go.WideMaps
namespace Fs
def doOne (d:Names) (c:List UInt8×Int):Names:=if c.2<0 then mdel d c.1 else mput d c.1 c.2
def doAll (d:Names) (l:Names):Names:=l.foldl doOne d
theorem EJ (x:List UInt8×Int):∀l:Names,(mins x l).length=l.length+1
 | []=>rfl
 | y::r=>by
  unfold mins;split
  ·simp
  ·simp[EJ x r]
theorem mdel_len (l:Names) (k:List UInt8):(mdel l k).length≤l.length:=List.length_filter_le _ _
theorem Cv (l:Names) (k:List UInt8) (v:Int):(mput l k v).length≤l.length+1:=by
 unfold mput;rw[EJ];have:=mdel_len l k;omega
theorem doOne_len (d:Names) (c:List UInt8×Int):(doOne d c).length≤d.length+1:=by
 unfold doOne;split
 ·have:=mdel_len d c.1;omega
 ·exact Cv _ _ _
theorem doAll_len:∀(l d:Names),(doAll d l).length≤d.length+l.length
 | [],d=>QM _
 | c::l,d=>by
  have o:=doAll_len l (doOne d c);have A:=doOne_len d c;unfold doAll at o ⊢;rw[List.foldl_cons,List.length_cons];omega
end Fs
def Cu (w:World) (v:Value) (l:Fs.Names):Prop :=
 ∃b cap,v=.slice (some ⟨b,0,none⟩) l.length cap∧b<w.heap.size∧∀(i:Nat) p,l[i]?=some p→w.cell? ⟨b,i*2,none⟩=some (.string ⟨p.1.toArray⟩)∧w.cell? ⟨b,i*2+1,none⟩=some (.int .i64 p.2)
theorem But.grown {X:Nat→Prop} {a w w':World} {r:Option Nat} (h:But X a w) (hg:w.grownBy w' r) (hr:∀k,r=some k→X k):But X a w' :=
 ⟨hg.os.trans h.os,hg.tape.trans h.tape,hg.output.trans h.output,QQ h.size hg.size,λk hk hx=>by
  rw[hg.block k (Nat.lt_of_lt_of_le hk h.size) (λe=>hx (hr k e.symm))];exact h.block k hk hx⟩
theorem Jd (md:Nat) (d l:Fs.Names) (v:Value) (w:World) (hM:Ah w md d) (hC:Cu w v l) (hne:∀b n c,v=.slice (some b) n c→b.block≠md) (hl:∀c∈l,c.1.length≤1000000∧-9223372036854775808≤c.2∧c.2≤9223372036854775807)
  (hn:d.length+l.length≤1000000) :
  Calls Tryz.prog 72 #[.map (some md),v] w λe w'=>e=.returned (.tuple #[])∧Ah w' md (Fs.doAll d l)∧But (λk=>k=md) w w':=by
 obtain⟨g,cap,rfl,hg,I⟩:=hC;have E:g≠md:=hne _ _ _ rfl;go_enter Tryz.func72,Tryz.ntmps72;go_wp2
 go_loopg [8] l.length (λk s8 wr=>∃j:Nat,j≤l.length∧k=l.length-j∧s8=.int .i64 (j:Nat)∧Ah wr md (Fs.doAll d (l.take j))∧But (λk=>k=md) w wr)
 case atStart=>exact⟨0,Nat.zero_le _,rfl,rfl,hM,But.refl _ _⟩
 case round =>
  obtain⟨j,Y,N,rfl,o,F⟩:=hrel;have M:=QA N;clear N;have T:(0:Int)≤(j:Int):=Int.natCast_nonneg _;by_cases hjn:j<l.length
  ·have B:(j:Int)<(l.length:Int):=by omega
   obtain⟨p,H⟩:∃p,l[j]?=some p:=⟨_,List.getElem?_eq_getElem hjn⟩
   obtain⟨Q,P⟩:=I j p H;have c0:wr.cell? ⟨g,j*2,none⟩=some (.string ⟨p.1.toArray⟩):=by rw[F.cell hg E];exact Q
   have c1:wr.cell? ⟨g,j*2+1,none⟩=some (.int .i64 p.2):=by rw[F.cell hg E];exact P
   obtain⟨S,X,V⟩:=hl p (QZ H);have G:Hid (Fs.doAll d (l.take (j+1))=Fs.doOne (Fs.doAll d (l.take j)) p):=by
    unfold Fs.doAll;rw[List.take_add_one,H,List.foldl_append];exact QA rfl
   have O:(Fs.doAll d (l.take j)).length≤1000000:=by
    have:=Fs.doAll_len (l.take j) d;rw[List.length_take]at this;omega
   have A:=keyOf_string_mk Tryz.underlying9 (s:=⟨p.1.toArray⟩) (show p.1.length≤maxLen by unfold maxLen;omega);have C:=QA (World.ownsMap.alloc o (.cells #[.string ⟨p.1.toArray⟩,.int .i64 p.2] 116));have D:=QA (F.alloc (.cells #[.string ⟨p.1.toArray⟩,.int .i64 p.2] 116));have W:Hid ((Lit.int .i64 p.2).wf=true):=by
    refine QA ?_;have R:IntKind.i64.min=-9223372036854775808:=by decide
    have U:IntKind.i64.max=9223372036854775807:=by decide
    simp[Lit.wf,R,U];omega
   clear Q P H o F;by_cases hneg:p.2<0
   ·have L:Hid (Fs.doOne (Fs.doAll d (l.take j)) p=Fs.mdel (Fs.doAll d (l.take j)) p.1):=by unfold Fs.doOne;rw[if_pos hneg];exact QA rfl
    go_wp2_with (first|(at_delete;refine wpList_delete_own _ rfl _ _ 66 9 rfl 3 Af Tryz.underlying66 _ md _ _ rfl C.out _ _ rfl A ?_;intro w3 hown3 hturn3)|fail);go_roundg (l.length-(j+1))
    case measure=>rw[M.out];omega
    case rel =>
     refine⟨j+1,hjn,rfl,by simp,?_,D.out.grown hturn3.grown (λk h=>by simpa using h.symm)⟩;rw[G.out,L.out];rw[Fs.datum_del]at hown3;exact Ah.of hown3
   ·have J:0≤p.2:=by omega
    have L:Hid (Fs.doOne (Fs.doAll d (l.take j)) p=Fs.mput (Fs.doAll d (l.take j)) p.1 p.2):=by unfold Fs.doOne;rw[if_neg hneg];exact QA rfl
    go_wp2_with (first|(at_mapUpdate;refine wpList_mapUpdate_own _ rfl _ _ _ 66 rfl 9 3 Af Tryz.underlying66 _ md _ _ rfl C.out (by unfold maxLen;omega) _ _ _ rfl rfl A _ [] (plainElem_int Tryz.underlying3 W.out) ?_;intro w3 hown3 hgrow3)|fail);go_roundg (l.length-(j+1))
    case measure=>rw[M.out];omega
    case rel =>
     refine⟨j+1,hjn,rfl,by simp,?_,D.out.grown hgrow3 (λk h=>by simpa using h.symm)⟩;rw[G.out,L.out];rw[Fs.datum_put]at hown3;exact Ah.of hown3
  ·have B:(l.length:Int)≤(j:Int):=by omega
   have K:l.take j=l:=List.take_of_length_le (by omega);rw[K]at o;go_wp2;go_end0;exact⟨rfl,o,F⟩
open Go.Maps Go.WideMaps
theorem retag {base:Nat} {own:Nat→Tag} {τ:Tag} {w w':World} {t:TypeId} {sz n n':Nat} {v v':Value} {cs cs':List Value} (h:w.ownsRow base t sz v n cs) (h':w'.ownsRow base t sz v' n' cs') (hg:w.grownBy w' v.ownBlock)
  (hloc:v'.ownBlock=v.ownBlock∨v'.ownBlock=some w.heap.size) (ht:∀k,v.ownBlock=some k→own k=τ) (hfr:∀k,w.heap.size≤k→own k=.other) (hold:∀k,k<base→own k=.other) (hbase:base≤w.heap.size) :
  ∃own':Nat→Tag,(∀k,k<w.heap.size→own' k=own k)∧(∀k,v'.ownBlock=some k→own' k=τ)∧(∀k,w'.heap.size≤k→own' k=.other)∧(∀k,k<base→own' k=.other)∧Kept own (·=τ) w w':=by
 have o:Kept own (·=τ) w w':=(Kept.refl _ _ _).grown hg (λk o=>.inl (ht k o));rcases hloc with hl|hl
 ·exact⟨own,λ_ _=>rfl,λk hk2=>ht k (hl▸hk2),λk hk2=>hfr k (QQ hg.size hk2),hold,o⟩
 ·have A:=(AJ h' _ hl).2;refine⟨Br own w.heap.size τ,λk hk2=>Aj hk2,λk hk2=>?_,λk hk2=>?_,λk hk2=>?_,o⟩
  ·rw[hl]at hk2;simp only[Option.some.injEq]at hk2;rw[← hk2];exact BM
  ·unfold Br;rw[if_neg (by omega)];exact hfr k (by omega)
  ·rw[Aj (by omega)];exact hold k hk2
theorem GM:(Tryz.prog.info? 106).map (λi=>(i.zero,i.size,i.bytes))=some (some (.pointer none),1,8):=by kernel_rfl
theorem JS:(Tryz.prog.info? 127).map (λi=>(i.zero,i.size,i.bytes))=some (some (.slice none 0 0),1,24):=by kernel_rfl
theorem Ad.more {base B:Nat} {st:Fs.St} {V:FsV} {own:Nat→Tag} {w w5:World} {fv':Value} (h:Ad base B st V own w)
  (hrow:w5.ownsRow base 106 1 fv' (st.files.length+1) ((V.fb.map λb=>(.pointer (some ⟨b,0,none⟩):Value))++[.pointer (some ⟨w.heap.size,0,none⟩)]))
  (hg:((w.alloc (.cells #[.slice none 0 0,.int .i64 0] 111)).alloc (.cells #[.pointer (some ⟨w.heap.size,0,none⟩)] 106)).grownBy w5 V.fv.ownBlock)
  (hloc:fv'.ownBlock=V.fv.ownBlock∨fv'.ownBlock=some ((w.alloc (.cells #[.slice none 0 0,.int .i64 0] 111)).alloc (.cells #[.pointer (some ⟨w.heap.size,0,none⟩)] 106)).heap.size) (hbase:base≤w.heap.size) :
  ∃own',Ad base B { st with files:=st.files++[([],0)] } { V with fv:=fv',fb:=V.fb++[w.heap.size],dv:=V.dv++[.slice none 0 0] } own' (w5.setCell ⟨B,4,none⟩ fv') ∧
   (∀k,k<w.heap.size→own' k=own k)∧Kept own (·≠.other) w (w5.setCell ⟨B,4,none⟩ fv'):=by
 have o:=h.at_;have Q:=AE o.root;have W:(w.alloc (.cells #[.slice none 0 0,.int .i64 0] 111)).heap.size=w.heap.size+1:=by simp
 have X:((w.alloc (.cells #[.slice none 0 0,.int .i64 0] 111)).alloc (.cells #[.pointer (some ⟨w.heap.size,0,none⟩)] 106)).heap.size=w.heap.size+2:=by simp
 have N:=AH w (.cells #[.slice none 0 0,.int .i64 0] 111);have M:((w.alloc (.cells #[.slice none 0 0,.int .i64 0] 111)).alloc (.cells #[.pointer (some ⟨w.heap.size,0,none⟩)] 106)).heap[w.heap.size]?=some (.cells #[.slice none 0 0,.int .i64 0] 111 (0,0)):=by
  rw[Lib.alloc_old _ _ _ (by omega)];exact N
 have J:Below w.heap.size w ((w.alloc (.cells #[.slice none 0 0,.int .i64 0] 111)).alloc (.cells #[.pointer (some ⟨w.heap.size,0,none⟩)] 106)) :=
  ((Below.refl _ _).alloc (QM _) _).alloc (by omega) _
 generalize hw4:((w.alloc (.cells #[.slice none 0 0,.int .i64 0] 111)).alloc (.cells #[.pointer (some ⟨w.heap.size,0,none⟩)] 106))=w4 at *
 have D:∀k,V.fv.ownBlock=some k→k<w.heap.size:=λk A=>(AJ o.files k A).2
 have I:w4.ownsRow base 106 1 V.fv st.files.length (V.fb.map λb=>.pointer (some ⟨b,0,none⟩)):=AQ o.files (λg hg2=>J.block g (D g hg2));have K:∀k,w4.heap.size≤k→Br own w.heap.size (.file st.files.length) k=.other:=λk A=>by
  unfold Br;rw[if_neg (by omega)];exact h.fresh k (by omega)
 obtain⟨own',S,R,U,T,A⟩:=retag (own:=Br own w.heap.size (.file st.files.length)) I hrow hg hloc (λk A=>by rw[Aj (D k A)];exact o.tfiles k A) K
  (λk A=>by rw[Aj (by omega)];exact h.old k A) (by omega)
 have F:∀k,k<w.heap.size→own' k=own k:=λk hk2=>(S k (by omega)).trans (Aj hk2)
 have H:Kept own (·=.files) w w5:=by
  refine⟨A.os.trans J.os,A.tape.trans J.tape,A.output.trans J.output,QQ J.size A.size,λk hk2 ht=>?_⟩;rw[A.block k (by omega) (by rw[Aj hk2];exact ht)];exact J.block k hk2
 have G:Kept own (λt=>t=.root∨t=.files) w (w5.setCell ⟨B,4,none⟩ fv'):=(H.mono (λt ht=>.inr ht)).setCell ⟨B,4,none⟩ (.inl o.tB) _;have C:=G.tags F;have O:w5.heap[B]?=some (.cells (Am st V) 70 (0,0)):=by rw[H.block B Q (by rw[o.tB];simp)];exact o.root
 have P:(w5.setCell ⟨B,4,none⟩ fv').heap[w.heap.size]?=some (.cells #[.slice none 0 0,.int .i64 0] 111 (0,0)):=by
  rw[Below.heap_setCell _ _ _ _ (show w.heap.size≠(⟨B,4,none⟩:Addr).block by simp;omega),A.block w.heap.size (by omega) (by rw[BM];simp)];exact M
 refine⟨own',⟨⟨heap_set O _,(F B Q).trans o.tB,o.lo,o.left,(o.plan.tags (λk A _=>F k A)).kept C (by simp),?_,R,?_,?_,?_,o.dir.heap (G.block _ o.dir.lt (by rw[o.tdir];simp)),(F _ o.dir.lt).trans o.tdir,
  o.sure.heap (G.block _ o.sure.lt (by rw[o.tsure];simp)),(F _ o.sure.lt).trans o.tsure,(o.chg.tags (λk A _=>F k A)).kept C (by simp) (by simp),?_,o.bl⟩,λk hk2=>U k ?_,T⟩,F,G.mono (λt ht=>by rcases ht with rfl|rfl<;>simp)⟩
 ·rw[List.length_append,List.length_singleton,List.map_append];refine AQ hrow (λg hg2=>Below.heap_setCell _ _ _ _ (λe=>?_));have E:=R g hg2;rw[e]at E;rw[show (⟨B,4,none⟩:Addr).block=B from rfl,F B Q,o.tB]at E;cases E
 ·simp[o.nfb]
 ·simp[o.ndv]
 ·intro i f b d E h2 h3;by_cases hi:i<st.files.length
  ·rw[ZL hi]at E;rw[ZL (by rw[o.nfb];exact hi)]at h2;rw[ZL (by rw[o.ndv];exact hi)]at h3;exact ((o.file i f b d E h2 h3).tags (λk A _=>F k A)).kept C (by simp) (by simp)
  ·have L:i=st.files.length:=by
    have:=(List.getElem?_eq_some_iff.1 E).1;simp at this;omega
   subst L;rw[List.getElem?_append_right (QM _),Nat.sub_self]at E;rw[← o.nfb,List.getElem?_append_right (QM _),Nat.sub_self]at h2;rw[← o.ndv,List.getElem?_append_right (QM _),Nat.sub_self]at h3;simp at E h2 h3;subst E h2 h3;exact⟨P,(S _ (by omega)).trans BM,World.ownsRow_nil _ _ _ _,λk hk2=>by simp[Value.ownBlock]at hk2⟩
 ·intro p hp;rw[List.length_append,List.length_singleton];have:=o.known p hp;omega
 ·simpa [World.setCell] using hk2
end Go.Proofs.YtmlekglfdiacpaaGreatDoor
